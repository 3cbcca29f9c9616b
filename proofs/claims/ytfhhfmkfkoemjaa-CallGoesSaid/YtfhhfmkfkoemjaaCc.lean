/- Contracts of layer 8: a new call; which way it goes. -/
import Derived.Test.YtfhhfmkfkoemjaaProg
import Derived.Below
import Derived.WalkKit
import Derived.KernelRfl
import Derived.RowKit3
import Derived.Deep.LoopGhost
import Derived.Deep.QuietTactic
import Derived.BigQuiet
import Derived.WideLaws
import Derived.Deep.DeepCutAuto
import Derived.Deep.CutBlock
import Derived.Lib.Hide
import Derived.Laws.BitsLemmas
import Derived.Laws.Bits64
import Derived.Laws.BitsAllLaws
import Derived.IntWalk
import Derived.Outline
import Derived.WalkSpells
import Derived.Test.YtfhhfmkfkoemjaaMem
import Derived.Test.YtfhhfmkfkoemjaaCb
import Derived.WalkLawsBesides
namespace Go.Proofs.Ytfhhfmkfkoemjaa.Ca
set_option linter.unusedVariables false
set_option linter.unusedSimpArgs false
open Go.RowKit Go.Proofs.Ytfhhfmkfkoemjaa.Mem Go.Proofs.Ytfhhfmkfkoemjaa.Si

theorem tyfunc_api_Call___api_Call__api_Errno_ : TyI Try.prog 34 1 false [.nilFunc] := ⟨by kernel_rfl, by kernel_rfl, by kernel_rfl⟩
set_option maxHeartbeats 16000000 in
theorem callNew (c : Cfg) (x : CallV) (id : Int) (ow : Int) (bo : Int) (w : World) : Calls Try.prog 14 #[.agg #[.int .i64 c.floors, .int .i64 c.cars, .int .i64 c.seats, .int .i64 c.calls, .int .i64 c.lines, .int .i64 c.keys, .int .i64 c.window, .int .i64 c.burst, .int .i64 c.rate, .int .i64 c.idle, .int .i64 c.inn, .int .i64 c.out, .int .i64 c.feed, .int .i64 c.retries, .int .i64 c.life, .int .i64 c.door, .int .i64 c.holds, .int .u32 c.secret], .agg #[.int .i64 x.id, .int .i64 x.kind, .int .i64 x.src, .int .i64 x.dst, .int .i64 x.car, .int .i64 x.state, .int .i64 x.owner, .int .i64 x.born], .int .i64 id, .int .i64 ow, .int .i64 bo] w fun e w' => e = .returned (.tuple #[.agg #[.int .i64 ((newV c x id ow bo).1).id, .int .i64 ((newV c x id ow bo).1).kind, .int .i64 ((newV c x id ow bo).1).src, .int .i64 ((newV c x id ow bo).1).dst, .int .i64 ((newV c x id ow bo).1).car, .int .i64 ((newV c x id ow bo).1).state, .int .i64 ((newV c x id ow bo).1).owner, .int .i64 ((newV c x id ow bo).1).born], .int .i64 (newV c x id ow bo).2]) ∧ Off [] w w' := by
  have H := Lib.hid (Hp.start [] w)
  rcases Bool.eq_false_or_eq_true (checkCallV c x != 0) with q0 | q0
  · go_enter Try.func14, Try.ntmps14
    go_wp2_with (first
      | ((with_reducible apply g_mem); (focus (exact rfl)); first
      | ((with_reducible apply hpN_box 24 5 H); (focus (exact rfl)); (focus (exact rfl)); (focus (exact rfl)); (focus (exact rfl)); (focus (exact rfl)); intro w5 b5 H5; clear H; have H := H5; clear H5)
      | ((with_reducible apply hpN_box 26 6 H); (focus (exact rfl)); (focus (exact rfl)); (focus (exact rfl)); (focus (exact rfl)); (focus (exact rfl)); intro w5 b6 H5; clear H; have H := H5; clear H5)
      | ((with_reducible apply hpN_alloc tyapi_Call 10 H); (focus (exact rfl)); (focus (exact rfl)); (focus (exact rfl)); intro w5 b10 H5; clear H; have H := H5; clear H5)
      | ((with_reducible apply hpA_load tyapi_Config H); (focus (exact rfl)); (focus (exact rfl)); (focus (first | (exact rfl) | (simp [Region.wanted]; done) | (simp only [Region.wanted]; go_simp; done))); (focus (repeat (first | exact List.Mem.head _ | apply List.Mem.tail))); (focus ((try simp only [List.drop_zero, List.drop_succ_cons, List.take_succ_cons, List.take_zero]); exact rfl)); (focus (exact rfl)))
      | ((with_reducible apply hpA_load tyapi_Call H); (focus (exact rfl)); (focus (exact rfl)); (focus (first | (exact rfl) | (simp [Region.wanted]; done) | (simp only [Region.wanted]; go_simp; done))); (focus (repeat (first | exact List.Mem.head _ | apply List.Mem.tail))); (focus ((try simp only [List.drop_zero, List.drop_succ_cons, List.take_succ_cons, List.take_zero]); exact rfl)); (focus (exact rfl)))
      | ((with_reducible apply hpA_store tyapi_Call H); (focus (exact rfl)); (focus (exact rfl)); (focus (exact rfl)); (focus (exact rfl)); (focus (exact rfl)); (focus (repeat (first | apply Put.head | apply Put.tail))); (focus (first | (simp; done) | (simp [Value.oneCell']; done))); (focus (first | (simp; done) | (simp [Value.oneCell']; done))); (focus ((try simp only [spl]); exact rfl)); (focus (exact rfl)); intro w5 H5; clear H; have H := H5; clear H5)
      | ((with_reducible apply hpA_store1 tyint H); (focus (exact rfl)); (focus (exact rfl)); (focus (exact rfl)); (focus (first | (go_simp; exact rfl) | exact rfl)); (focus (exact rfl)); (focus (repeat (first | apply Put.head | apply Put.tail))); (focus (first | (simp; done) | (simp [Value.oneCell']; done))); (focus (first | (simp; done) | (simp [Value.oneCell']; done))); (focus ((try simp only [List.set_cons_zero, List.set_cons_succ]); exact rfl)); (focus (exact rfl)); intro w5 H5; clear H; have H := H5; clear H5))
      | (go_at_call 60; (with_reducible refine (checkCallL _ _ _).mono ?_); rintro e w5 ⟨rfl, ho⟩; have H5 := Lib.hid (H.out.quiet ho); clear H ho; have H := H5; clear H5)
      | (go_at_call 60; (with_reducible refine (checkCallLX _ _ _ _ _ _ _ _ _ _ _ _ _ _ _ _ _ _ _ _ _ _ _ _ _ _ _).mono ?_); rintro e w5 ⟨rfl, ho⟩; have H5 := Lib.hid (H.out.quiet ho); clear H ho; have H := H5; clear H5)
      | ((with_reducible apply eqlA_call); (focus (exact rfl)); (focus (first | (exact rfl) | (simp [Region.wanted]; done) | (simp only [Region.wanted]; go_simp; done))); (focus (exact rfl)); (focus (exact rfl))))
    all_goals
      (try simp only [Exit.inBlock, Exit.then])
      apply hp_ret_ct tyapi_Call H
      · exact rfl
      · exact rfl
      · exact rfl
      · exact rfl
      · (repeat (first | exact List.Mem.head _ | apply List.Mem.tail))
      · exact rfl
      · exact ⟨by simp [newV, q0, noCall], H.out.off⟩
  · rcases Bool.eq_false_or_eq_true (decide (id < 1)) with q1 | q1
    · have p1 : id < 1 := of_decide_eq_true q1
      go_enter Try.func14, Try.ntmps14
      go_wp2_with (first
        | ((with_reducible apply g_mem); (focus (exact rfl)); first
      | ((with_reducible apply hpN_box 24 5 H); (focus (exact rfl)); (focus (exact rfl)); (focus (exact rfl)); (focus (exact rfl)); (focus (exact rfl)); intro w5 b5 H5; clear H; have H := H5; clear H5)
      | ((with_reducible apply hpN_box 26 6 H); (focus (exact rfl)); (focus (exact rfl)); (focus (exact rfl)); (focus (exact rfl)); (focus (exact rfl)); intro w5 b6 H5; clear H; have H := H5; clear H5)
      | ((with_reducible apply hpN_alloc tyapi_Call 10 H); (focus (exact rfl)); (focus (exact rfl)); (focus (exact rfl)); intro w5 b10 H5; clear H; have H := H5; clear H5)
      | ((with_reducible apply hpA_load tyapi_Config H); (focus (exact rfl)); (focus (exact rfl)); (focus (first | (exact rfl) | (simp [Region.wanted]; done) | (simp only [Region.wanted]; go_simp; done))); (focus (repeat (first | exact List.Mem.head _ | apply List.Mem.tail))); (focus ((try simp only [List.drop_zero, List.drop_succ_cons, List.take_succ_cons, List.take_zero]); exact rfl)); (focus (exact rfl)))
      | ((with_reducible apply hpA_load tyapi_Call H); (focus (exact rfl)); (focus (exact rfl)); (focus (first | (exact rfl) | (simp [Region.wanted]; done) | (simp only [Region.wanted]; go_simp; done))); (focus (repeat (first | exact List.Mem.head _ | apply List.Mem.tail))); (focus ((try simp only [List.drop_zero, List.drop_succ_cons, List.take_succ_cons, List.take_zero]); exact rfl)); (focus (exact rfl)))
      | ((with_reducible apply hpA_store tyapi_Call H); (focus (exact rfl)); (focus (exact rfl)); (focus (exact rfl)); (focus (exact rfl)); (focus (exact rfl)); (focus (repeat (first | apply Put.head | apply Put.tail))); (focus (first | (simp; done) | (simp [Value.oneCell']; done))); (focus (first | (simp; done) | (simp [Value.oneCell']; done))); (focus ((try simp only [spl]); exact rfl)); (focus (exact rfl)); intro w5 H5; clear H; have H := H5; clear H5)
      | ((with_reducible apply hpA_store1 tyint H); (focus (exact rfl)); (focus (exact rfl)); (focus (exact rfl)); (focus (first | (go_simp; exact rfl) | exact rfl)); (focus (exact rfl)); (focus (repeat (first | apply Put.head | apply Put.tail))); (focus (first | (simp; done) | (simp [Value.oneCell']; done))); (focus (first | (simp; done) | (simp [Value.oneCell']; done))); (focus ((try simp only [List.set_cons_zero, List.set_cons_succ]); exact rfl)); (focus (exact rfl)); intro w5 H5; clear H; have H := H5; clear H5))
        | (go_at_call 60; (with_reducible refine (checkCallL _ _ _).mono ?_); rintro e w5 ⟨rfl, ho⟩; have H5 := Lib.hid (H.out.quiet ho); clear H ho; have H := H5; clear H5)
        | (go_at_call 60; (with_reducible refine (checkCallLX _ _ _ _ _ _ _ _ _ _ _ _ _ _ _ _ _ _ _ _ _ _ _ _ _ _ _).mono ?_); rintro e w5 ⟨rfl, ho⟩; have H5 := Lib.hid (H.out.quiet ho); clear H ho; have H := H5; clear H5)
        | ((with_reducible apply eqlA_call); (focus (exact rfl)); (focus (first | (exact rfl) | (simp [Region.wanted]; done) | (simp only [Region.wanted]; go_simp; done))); (focus (exact rfl)); (focus (exact rfl))))
      all_goals
        (try simp only [Exit.inBlock, Exit.then])
        apply hp_ret_ct tyapi_Call H
        · exact rfl
        · exact rfl
        · exact rfl
        · exact rfl
        · (repeat (first | exact List.Mem.head _ | apply List.Mem.tail))
        · exact rfl
        · exact ⟨by simp [newV, q0, q1, noCall], H.out.off⟩
    · have p1 : 1 ≤ id := by have := of_decide_eq_false q1; omega
      rcases Bool.eq_false_or_eq_true (decide (ow < 1)) with q2 | q2
      · have p2 : ow < 1 := of_decide_eq_true q2
        go_enter Try.func14, Try.ntmps14
        go_wp2_with (first
          | ((with_reducible apply g_mem); (focus (exact rfl)); first
      | ((with_reducible apply hpN_box 24 5 H); (focus (exact rfl)); (focus (exact rfl)); (focus (exact rfl)); (focus (exact rfl)); (focus (exact rfl)); intro w5 b5 H5; clear H; have H := H5; clear H5)
      | ((with_reducible apply hpN_box 26 6 H); (focus (exact rfl)); (focus (exact rfl)); (focus (exact rfl)); (focus (exact rfl)); (focus (exact rfl)); intro w5 b6 H5; clear H; have H := H5; clear H5)
      | ((with_reducible apply hpN_alloc tyapi_Call 10 H); (focus (exact rfl)); (focus (exact rfl)); (focus (exact rfl)); intro w5 b10 H5; clear H; have H := H5; clear H5)
      | ((with_reducible apply hpA_load tyapi_Config H); (focus (exact rfl)); (focus (exact rfl)); (focus (first | (exact rfl) | (simp [Region.wanted]; done) | (simp only [Region.wanted]; go_simp; done))); (focus (repeat (first | exact List.Mem.head _ | apply List.Mem.tail))); (focus ((try simp only [List.drop_zero, List.drop_succ_cons, List.take_succ_cons, List.take_zero]); exact rfl)); (focus (exact rfl)))
      | ((with_reducible apply hpA_load tyapi_Call H); (focus (exact rfl)); (focus (exact rfl)); (focus (first | (exact rfl) | (simp [Region.wanted]; done) | (simp only [Region.wanted]; go_simp; done))); (focus (repeat (first | exact List.Mem.head _ | apply List.Mem.tail))); (focus ((try simp only [List.drop_zero, List.drop_succ_cons, List.take_succ_cons, List.take_zero]); exact rfl)); (focus (exact rfl)))
      | ((with_reducible apply hpA_store tyapi_Call H); (focus (exact rfl)); (focus (exact rfl)); (focus (exact rfl)); (focus (exact rfl)); (focus (exact rfl)); (focus (repeat (first | apply Put.head | apply Put.tail))); (focus (first | (simp; done) | (simp [Value.oneCell']; done))); (focus (first | (simp; done) | (simp [Value.oneCell']; done))); (focus ((try simp only [spl]); exact rfl)); (focus (exact rfl)); intro w5 H5; clear H; have H := H5; clear H5)
      | ((with_reducible apply hpA_store1 tyint H); (focus (exact rfl)); (focus (exact rfl)); (focus (exact rfl)); (focus (first | (go_simp; exact rfl) | exact rfl)); (focus (exact rfl)); (focus (repeat (first | apply Put.head | apply Put.tail))); (focus (first | (simp; done) | (simp [Value.oneCell']; done))); (focus (first | (simp; done) | (simp [Value.oneCell']; done))); (focus ((try simp only [List.set_cons_zero, List.set_cons_succ]); exact rfl)); (focus (exact rfl)); intro w5 H5; clear H; have H := H5; clear H5))
          | (go_at_call 60; (with_reducible refine (checkCallL _ _ _).mono ?_); rintro e w5 ⟨rfl, ho⟩; have H5 := Lib.hid (H.out.quiet ho); clear H ho; have H := H5; clear H5)
          | (go_at_call 60; (with_reducible refine (checkCallLX _ _ _ _ _ _ _ _ _ _ _ _ _ _ _ _ _ _ _ _ _ _ _ _ _ _ _).mono ?_); rintro e w5 ⟨rfl, ho⟩; have H5 := Lib.hid (H.out.quiet ho); clear H ho; have H := H5; clear H5)
          | ((with_reducible apply eqlA_call); (focus (exact rfl)); (focus (first | (exact rfl) | (simp [Region.wanted]; done) | (simp only [Region.wanted]; go_simp; done))); (focus (exact rfl)); (focus (exact rfl))))
        all_goals
          (try simp only [Exit.inBlock, Exit.then])
          apply hp_ret_ct tyapi_Call H
          · exact rfl
          · exact rfl
          · exact rfl
          · exact rfl
          · (repeat (first | exact List.Mem.head _ | apply List.Mem.tail))
          · exact rfl
          · exact ⟨by simp [newV, q0, q1, q2, noCall], H.out.off⟩
      · have p2 : 1 ≤ ow := by have := of_decide_eq_false q2; omega
        rcases Bool.eq_false_or_eq_true (decide (bo < 0)) with q3 | q3
        · have p3 : bo < 0 := of_decide_eq_true q3
          go_enter Try.func14, Try.ntmps14
          go_wp2_with (first
            | ((with_reducible apply g_mem); (focus (exact rfl)); first
      | ((with_reducible apply hpN_box 24 5 H); (focus (exact rfl)); (focus (exact rfl)); (focus (exact rfl)); (focus (exact rfl)); (focus (exact rfl)); intro w5 b5 H5; clear H; have H := H5; clear H5)
      | ((with_reducible apply hpN_box 26 6 H); (focus (exact rfl)); (focus (exact rfl)); (focus (exact rfl)); (focus (exact rfl)); (focus (exact rfl)); intro w5 b6 H5; clear H; have H := H5; clear H5)
      | ((with_reducible apply hpN_alloc tyapi_Call 10 H); (focus (exact rfl)); (focus (exact rfl)); (focus (exact rfl)); intro w5 b10 H5; clear H; have H := H5; clear H5)
      | ((with_reducible apply hpA_load tyapi_Config H); (focus (exact rfl)); (focus (exact rfl)); (focus (first | (exact rfl) | (simp [Region.wanted]; done) | (simp only [Region.wanted]; go_simp; done))); (focus (repeat (first | exact List.Mem.head _ | apply List.Mem.tail))); (focus ((try simp only [List.drop_zero, List.drop_succ_cons, List.take_succ_cons, List.take_zero]); exact rfl)); (focus (exact rfl)))
      | ((with_reducible apply hpA_load tyapi_Call H); (focus (exact rfl)); (focus (exact rfl)); (focus (first | (exact rfl) | (simp [Region.wanted]; done) | (simp only [Region.wanted]; go_simp; done))); (focus (repeat (first | exact List.Mem.head _ | apply List.Mem.tail))); (focus ((try simp only [List.drop_zero, List.drop_succ_cons, List.take_succ_cons, List.take_zero]); exact rfl)); (focus (exact rfl)))
      | ((with_reducible apply hpA_store tyapi_Call H); (focus (exact rfl)); (focus (exact rfl)); (focus (exact rfl)); (focus (exact rfl)); (focus (exact rfl)); (focus (repeat (first | apply Put.head | apply Put.tail))); (focus (first | (simp; done) | (simp [Value.oneCell']; done))); (focus (first | (simp; done) | (simp [Value.oneCell']; done))); (focus ((try simp only [spl]); exact rfl)); (focus (exact rfl)); intro w5 H5; clear H; have H := H5; clear H5)
      | ((with_reducible apply hpA_store1 tyint H); (focus (exact rfl)); (focus (exact rfl)); (focus (exact rfl)); (focus (first | (go_simp; exact rfl) | exact rfl)); (focus (exact rfl)); (focus (repeat (first | apply Put.head | apply Put.tail))); (focus (first | (simp; done) | (simp [Value.oneCell']; done))); (focus (first | (simp; done) | (simp [Value.oneCell']; done))); (focus ((try simp only [List.set_cons_zero, List.set_cons_succ]); exact rfl)); (focus (exact rfl)); intro w5 H5; clear H; have H := H5; clear H5))
            | (go_at_call 60; (with_reducible refine (checkCallL _ _ _).mono ?_); rintro e w5 ⟨rfl, ho⟩; have H5 := Lib.hid (H.out.quiet ho); clear H ho; have H := H5; clear H5)
            | (go_at_call 60; (with_reducible refine (checkCallLX _ _ _ _ _ _ _ _ _ _ _ _ _ _ _ _ _ _ _ _ _ _ _ _ _ _ _).mono ?_); rintro e w5 ⟨rfl, ho⟩; have H5 := Lib.hid (H.out.quiet ho); clear H ho; have H := H5; clear H5)
            | ((with_reducible apply eqlA_call); (focus (exact rfl)); (focus (first | (exact rfl) | (simp [Region.wanted]; done) | (simp only [Region.wanted]; go_simp; done))); (focus (exact rfl)); (focus (exact rfl))))
          all_goals
            (try simp only [Exit.inBlock, Exit.then])
            apply hp_ret_ct tyapi_Call H
            · exact rfl
            · exact rfl
            · exact rfl
            · exact rfl
            · (repeat (first | exact List.Mem.head _ | apply List.Mem.tail))
            · exact rfl
            · exact ⟨by simp [newV, q0, q1, q2, q3, noCall], H.out.off⟩
        · have p3 : 0 ≤ bo := by have := of_decide_eq_false q3; omega
          rcases Bool.eq_false_or_eq_true (decide (1073741824 < id)) with q4 | q4
          · have p4 : 1073741824 < id := of_decide_eq_true q4
            go_enter Try.func14, Try.ntmps14
            go_wp2_with (first
              | ((with_reducible apply g_mem); (focus (exact rfl)); first
      | ((with_reducible apply hpN_box 24 5 H); (focus (exact rfl)); (focus (exact rfl)); (focus (exact rfl)); (focus (exact rfl)); (focus (exact rfl)); intro w5 b5 H5; clear H; have H := H5; clear H5)
      | ((with_reducible apply hpN_box 26 6 H); (focus (exact rfl)); (focus (exact rfl)); (focus (exact rfl)); (focus (exact rfl)); (focus (exact rfl)); intro w5 b6 H5; clear H; have H := H5; clear H5)
      | ((with_reducible apply hpN_alloc tyapi_Call 10 H); (focus (exact rfl)); (focus (exact rfl)); (focus (exact rfl)); intro w5 b10 H5; clear H; have H := H5; clear H5)
      | ((with_reducible apply hpA_load tyapi_Config H); (focus (exact rfl)); (focus (exact rfl)); (focus (first | (exact rfl) | (simp [Region.wanted]; done) | (simp only [Region.wanted]; go_simp; done))); (focus (repeat (first | exact List.Mem.head _ | apply List.Mem.tail))); (focus ((try simp only [List.drop_zero, List.drop_succ_cons, List.take_succ_cons, List.take_zero]); exact rfl)); (focus (exact rfl)))
      | ((with_reducible apply hpA_load tyapi_Call H); (focus (exact rfl)); (focus (exact rfl)); (focus (first | (exact rfl) | (simp [Region.wanted]; done) | (simp only [Region.wanted]; go_simp; done))); (focus (repeat (first | exact List.Mem.head _ | apply List.Mem.tail))); (focus ((try simp only [List.drop_zero, List.drop_succ_cons, List.take_succ_cons, List.take_zero]); exact rfl)); (focus (exact rfl)))
      | ((with_reducible apply hpA_store tyapi_Call H); (focus (exact rfl)); (focus (exact rfl)); (focus (exact rfl)); (focus (exact rfl)); (focus (exact rfl)); (focus (repeat (first | apply Put.head | apply Put.tail))); (focus (first | (simp; done) | (simp [Value.oneCell']; done))); (focus (first | (simp; done) | (simp [Value.oneCell']; done))); (focus ((try simp only [spl]); exact rfl)); (focus (exact rfl)); intro w5 H5; clear H; have H := H5; clear H5)
      | ((with_reducible apply hpA_store1 tyint H); (focus (exact rfl)); (focus (exact rfl)); (focus (exact rfl)); (focus (first | (go_simp; exact rfl) | exact rfl)); (focus (exact rfl)); (focus (repeat (first | apply Put.head | apply Put.tail))); (focus (first | (simp; done) | (simp [Value.oneCell']; done))); (focus (first | (simp; done) | (simp [Value.oneCell']; done))); (focus ((try simp only [List.set_cons_zero, List.set_cons_succ]); exact rfl)); (focus (exact rfl)); intro w5 H5; clear H; have H := H5; clear H5))
              | (go_at_call 60; (with_reducible refine (checkCallL _ _ _).mono ?_); rintro e w5 ⟨rfl, ho⟩; have H5 := Lib.hid (H.out.quiet ho); clear H ho; have H := H5; clear H5)
              | (go_at_call 60; (with_reducible refine (checkCallLX _ _ _ _ _ _ _ _ _ _ _ _ _ _ _ _ _ _ _ _ _ _ _ _ _ _ _).mono ?_); rintro e w5 ⟨rfl, ho⟩; have H5 := Lib.hid (H.out.quiet ho); clear H ho; have H := H5; clear H5)
              | ((with_reducible apply eqlA_call); (focus (exact rfl)); (focus (first | (exact rfl) | (simp [Region.wanted]; done) | (simp only [Region.wanted]; go_simp; done))); (focus (exact rfl)); (focus (exact rfl))))
            all_goals
              (try simp only [Exit.inBlock, Exit.then])
              apply hp_ret_ct tyapi_Call H
              · exact rfl
              · exact rfl
              · exact rfl
              · exact rfl
              · (repeat (first | exact List.Mem.head _ | apply List.Mem.tail))
              · exact rfl
              · exact ⟨by simp [newV, q0, q1, q2, q3, q4, noCall], H.out.off⟩
          · have p4 : id ≤ 1073741824 := by have := of_decide_eq_false q4; omega
            rcases Bool.eq_false_or_eq_true (decide (1073741824 < ow)) with q5 | q5
            · have p5 : 1073741824 < ow := of_decide_eq_true q5
              go_enter Try.func14, Try.ntmps14
              go_wp2_with (first
                | ((with_reducible apply g_mem); (focus (exact rfl)); first
      | ((with_reducible apply hpN_box 24 5 H); (focus (exact rfl)); (focus (exact rfl)); (focus (exact rfl)); (focus (exact rfl)); (focus (exact rfl)); intro w5 b5 H5; clear H; have H := H5; clear H5)
      | ((with_reducible apply hpN_box 26 6 H); (focus (exact rfl)); (focus (exact rfl)); (focus (exact rfl)); (focus (exact rfl)); (focus (exact rfl)); intro w5 b6 H5; clear H; have H := H5; clear H5)
      | ((with_reducible apply hpN_alloc tyapi_Call 10 H); (focus (exact rfl)); (focus (exact rfl)); (focus (exact rfl)); intro w5 b10 H5; clear H; have H := H5; clear H5)
      | ((with_reducible apply hpA_load tyapi_Config H); (focus (exact rfl)); (focus (exact rfl)); (focus (first | (exact rfl) | (simp [Region.wanted]; done) | (simp only [Region.wanted]; go_simp; done))); (focus (repeat (first | exact List.Mem.head _ | apply List.Mem.tail))); (focus ((try simp only [List.drop_zero, List.drop_succ_cons, List.take_succ_cons, List.take_zero]); exact rfl)); (focus (exact rfl)))
      | ((with_reducible apply hpA_load tyapi_Call H); (focus (exact rfl)); (focus (exact rfl)); (focus (first | (exact rfl) | (simp [Region.wanted]; done) | (simp only [Region.wanted]; go_simp; done))); (focus (repeat (first | exact List.Mem.head _ | apply List.Mem.tail))); (focus ((try simp only [List.drop_zero, List.drop_succ_cons, List.take_succ_cons, List.take_zero]); exact rfl)); (focus (exact rfl)))
      | ((with_reducible apply hpA_store tyapi_Call H); (focus (exact rfl)); (focus (exact rfl)); (focus (exact rfl)); (focus (exact rfl)); (focus (exact rfl)); (focus (repeat (first | apply Put.head | apply Put.tail))); (focus (first | (simp; done) | (simp [Value.oneCell']; done))); (focus (first | (simp; done) | (simp [Value.oneCell']; done))); (focus ((try simp only [spl]); exact rfl)); (focus (exact rfl)); intro w5 H5; clear H; have H := H5; clear H5)
      | ((with_reducible apply hpA_store1 tyint H); (focus (exact rfl)); (focus (exact rfl)); (focus (exact rfl)); (focus (first | (go_simp; exact rfl) | exact rfl)); (focus (exact rfl)); (focus (repeat (first | apply Put.head | apply Put.tail))); (focus (first | (simp; done) | (simp [Value.oneCell']; done))); (focus (first | (simp; done) | (simp [Value.oneCell']; done))); (focus ((try simp only [List.set_cons_zero, List.set_cons_succ]); exact rfl)); (focus (exact rfl)); intro w5 H5; clear H; have H := H5; clear H5))
                | (go_at_call 60; (with_reducible refine (checkCallL _ _ _).mono ?_); rintro e w5 ⟨rfl, ho⟩; have H5 := Lib.hid (H.out.quiet ho); clear H ho; have H := H5; clear H5)
                | (go_at_call 60; (with_reducible refine (checkCallLX _ _ _ _ _ _ _ _ _ _ _ _ _ _ _ _ _ _ _ _ _ _ _ _ _ _ _).mono ?_); rintro e w5 ⟨rfl, ho⟩; have H5 := Lib.hid (H.out.quiet ho); clear H ho; have H := H5; clear H5)
                | ((with_reducible apply eqlA_call); (focus (exact rfl)); (focus (first | (exact rfl) | (simp [Region.wanted]; done) | (simp only [Region.wanted]; go_simp; done))); (focus (exact rfl)); (focus (exact rfl))))
              all_goals
                (try simp only [Exit.inBlock, Exit.then])
                apply hp_ret_ct tyapi_Call H
                · exact rfl
                · exact rfl
                · exact rfl
                · exact rfl
                · (repeat (first | exact List.Mem.head _ | apply List.Mem.tail))
                · exact rfl
                · exact ⟨by simp [newV, q0, q1, q2, q3, q4, q5, noCall], H.out.off⟩
            · have p5 : ow ≤ 1073741824 := by have := of_decide_eq_false q5; omega
              rcases Bool.eq_false_or_eq_true (decide (1073741824 < bo)) with q6 | q6
              · have p6 : 1073741824 < bo := of_decide_eq_true q6
                go_enter Try.func14, Try.ntmps14
                go_wp2_with (first
                  | ((with_reducible apply g_mem); (focus (exact rfl)); first
      | ((with_reducible apply hpN_box 24 5 H); (focus (exact rfl)); (focus (exact rfl)); (focus (exact rfl)); (focus (exact rfl)); (focus (exact rfl)); intro w5 b5 H5; clear H; have H := H5; clear H5)
      | ((with_reducible apply hpN_box 26 6 H); (focus (exact rfl)); (focus (exact rfl)); (focus (exact rfl)); (focus (exact rfl)); (focus (exact rfl)); intro w5 b6 H5; clear H; have H := H5; clear H5)
      | ((with_reducible apply hpN_alloc tyapi_Call 10 H); (focus (exact rfl)); (focus (exact rfl)); (focus (exact rfl)); intro w5 b10 H5; clear H; have H := H5; clear H5)
      | ((with_reducible apply hpA_load tyapi_Config H); (focus (exact rfl)); (focus (exact rfl)); (focus (first | (exact rfl) | (simp [Region.wanted]; done) | (simp only [Region.wanted]; go_simp; done))); (focus (repeat (first | exact List.Mem.head _ | apply List.Mem.tail))); (focus ((try simp only [List.drop_zero, List.drop_succ_cons, List.take_succ_cons, List.take_zero]); exact rfl)); (focus (exact rfl)))
      | ((with_reducible apply hpA_load tyapi_Call H); (focus (exact rfl)); (focus (exact rfl)); (focus (first | (exact rfl) | (simp [Region.wanted]; done) | (simp only [Region.wanted]; go_simp; done))); (focus (repeat (first | exact List.Mem.head _ | apply List.Mem.tail))); (focus ((try simp only [List.drop_zero, List.drop_succ_cons, List.take_succ_cons, List.take_zero]); exact rfl)); (focus (exact rfl)))
      | ((with_reducible apply hpA_store tyapi_Call H); (focus (exact rfl)); (focus (exact rfl)); (focus (exact rfl)); (focus (exact rfl)); (focus (exact rfl)); (focus (repeat (first | apply Put.head | apply Put.tail))); (focus (first | (simp; done) | (simp [Value.oneCell']; done))); (focus (first | (simp; done) | (simp [Value.oneCell']; done))); (focus ((try simp only [spl]); exact rfl)); (focus (exact rfl)); intro w5 H5; clear H; have H := H5; clear H5)
      | ((with_reducible apply hpA_store1 tyint H); (focus (exact rfl)); (focus (exact rfl)); (focus (exact rfl)); (focus (first | (go_simp; exact rfl) | exact rfl)); (focus (exact rfl)); (focus (repeat (first | apply Put.head | apply Put.tail))); (focus (first | (simp; done) | (simp [Value.oneCell']; done))); (focus (first | (simp; done) | (simp [Value.oneCell']; done))); (focus ((try simp only [List.set_cons_zero, List.set_cons_succ]); exact rfl)); (focus (exact rfl)); intro w5 H5; clear H; have H := H5; clear H5))
                  | (go_at_call 60; (with_reducible refine (checkCallL _ _ _).mono ?_); rintro e w5 ⟨rfl, ho⟩; have H5 := Lib.hid (H.out.quiet ho); clear H ho; have H := H5; clear H5)
                  | (go_at_call 60; (with_reducible refine (checkCallLX _ _ _ _ _ _ _ _ _ _ _ _ _ _ _ _ _ _ _ _ _ _ _ _ _ _ _).mono ?_); rintro e w5 ⟨rfl, ho⟩; have H5 := Lib.hid (H.out.quiet ho); clear H ho; have H := H5; clear H5)
                  | ((with_reducible apply eqlA_call); (focus (exact rfl)); (focus (first | (exact rfl) | (simp [Region.wanted]; done) | (simp only [Region.wanted]; go_simp; done))); (focus (exact rfl)); (focus (exact rfl))))
                all_goals
                  (try simp only [Exit.inBlock, Exit.then])
                  apply hp_ret_ct tyapi_Call H
                  · exact rfl
                  · exact rfl
                  · exact rfl
                  · exact rfl
                  · (repeat (first | exact List.Mem.head _ | apply List.Mem.tail))
                  · exact rfl
                  · exact ⟨by simp [newV, q0, q1, q2, q3, q4, q5, q6, noCall], H.out.off⟩
              · have p6 : bo ≤ 1073741824 := by have := of_decide_eq_false q6; omega
                go_enter Try.func14, Try.ntmps14
                go_wp2_with (first
                  | ((with_reducible apply g_mem); (focus (exact rfl)); first
      | ((with_reducible apply hpN_box 24 5 H); (focus (exact rfl)); (focus (exact rfl)); (focus (exact rfl)); (focus (exact rfl)); (focus (exact rfl)); intro w5 b5 H5; clear H; have H := H5; clear H5)
      | ((with_reducible apply hpN_box 26 6 H); (focus (exact rfl)); (focus (exact rfl)); (focus (exact rfl)); (focus (exact rfl)); (focus (exact rfl)); intro w5 b6 H5; clear H; have H := H5; clear H5)
      | ((with_reducible apply hpN_alloc tyapi_Call 10 H); (focus (exact rfl)); (focus (exact rfl)); (focus (exact rfl)); intro w5 b10 H5; clear H; have H := H5; clear H5)
      | ((with_reducible apply hpA_load tyapi_Config H); (focus (exact rfl)); (focus (exact rfl)); (focus (first | (exact rfl) | (simp [Region.wanted]; done) | (simp only [Region.wanted]; go_simp; done))); (focus (repeat (first | exact List.Mem.head _ | apply List.Mem.tail))); (focus ((try simp only [List.drop_zero, List.drop_succ_cons, List.take_succ_cons, List.take_zero]); exact rfl)); (focus (exact rfl)))
      | ((with_reducible apply hpA_load tyapi_Call H); (focus (exact rfl)); (focus (exact rfl)); (focus (first | (exact rfl) | (simp [Region.wanted]; done) | (simp only [Region.wanted]; go_simp; done))); (focus (repeat (first | exact List.Mem.head _ | apply List.Mem.tail))); (focus ((try simp only [List.drop_zero, List.drop_succ_cons, List.take_succ_cons, List.take_zero]); exact rfl)); (focus (exact rfl)))
      | ((with_reducible apply hpA_store tyapi_Call H); (focus (exact rfl)); (focus (exact rfl)); (focus (exact rfl)); (focus (exact rfl)); (focus (exact rfl)); (focus (repeat (first | apply Put.head | apply Put.tail))); (focus (first | (simp; done) | (simp [Value.oneCell']; done))); (focus (first | (simp; done) | (simp [Value.oneCell']; done))); (focus ((try simp only [spl]); exact rfl)); (focus (exact rfl)); intro w5 H5; clear H; have H := H5; clear H5)
      | ((with_reducible apply hpA_store1 tyint H); (focus (exact rfl)); (focus (exact rfl)); (focus (exact rfl)); (focus (first | (go_simp; exact rfl) | exact rfl)); (focus (exact rfl)); (focus (repeat (first | apply Put.head | apply Put.tail))); (focus (first | (simp; done) | (simp [Value.oneCell']; done))); (focus (first | (simp; done) | (simp [Value.oneCell']; done))); (focus ((try simp only [List.set_cons_zero, List.set_cons_succ]); exact rfl)); (focus (exact rfl)); intro w5 H5; clear H; have H := H5; clear H5))
                  | (go_at_call 60; (with_reducible refine (checkCallL _ _ _).mono ?_); rintro e w5 ⟨rfl, ho⟩; have H5 := Lib.hid (H.out.quiet ho); clear H ho; have H := H5; clear H5)
                  | (go_at_call 60; (with_reducible refine (checkCallLX _ _ _ _ _ _ _ _ _ _ _ _ _ _ _ _ _ _ _ _ _ _ _ _ _ _ _).mono ?_); rintro e w5 ⟨rfl, ho⟩; have H5 := Lib.hid (H.out.quiet ho); clear H ho; have H := H5; clear H5)
                  | ((with_reducible apply eqlA_call); (focus (exact rfl)); (focus (first | (exact rfl) | (simp [Region.wanted]; done) | (simp only [Region.wanted]; go_simp; done))); (focus (exact rfl)); (focus (exact rfl))))
                all_goals
                  (try simp only [Exit.inBlock, Exit.then])
                  apply hp_ret_ct tyapi_Call H
                  · exact rfl
                  · exact rfl
                  · exact rfl
                  · exact rfl
                  · (repeat (first | exact List.Mem.head _ | apply List.Mem.tail))
                  · exact rfl
                  · exact ⟨by simp [newV, q0, q1, q2, q3, q4, q5, q6, noCall], H.out.off⟩
theorem callNewX (c_floors : Int) (c_cars : Int) (c_seats : Int) (c_calls : Int) (c_lines : Int) (c_keys : Int) (c_window : Int) (c_burst : Int) (c_rate : Int) (c_idle : Int) (c_inn : Int) (c_out : Int) (c_feed : Int) (c_retries : Int) (c_life : Int) (c_door : Int) (c_holds : Int) (c_secret : Int) (x_id : Int) (x_kind : Int) (x_src : Int) (x_dst : Int) (x_car : Int) (x_state : Int) (x_owner : Int) (x_born : Int) (id : Int) (ow : Int) (bo : Int) (w : World) : Calls Try.prog 14 #[.agg #[.int .i64 c_floors, .int .i64 c_cars, .int .i64 c_seats, .int .i64 c_calls, .int .i64 c_lines, .int .i64 c_keys, .int .i64 c_window, .int .i64 c_burst, .int .i64 c_rate, .int .i64 c_idle, .int .i64 c_inn, .int .i64 c_out, .int .i64 c_feed, .int .i64 c_retries, .int .i64 c_life, .int .i64 c_door, .int .i64 c_holds, .int .u32 c_secret], .agg #[.int .i64 x_id, .int .i64 x_kind, .int .i64 x_src, .int .i64 x_dst, .int .i64 x_car, .int .i64 x_state, .int .i64 x_owner, .int .i64 x_born], .int .i64 id, .int .i64 ow, .int .i64 bo] w fun e w' => e = .returned (.tuple #[.agg #[.int .i64 ((newV (⟨c_floors, c_cars, c_seats, c_calls, c_lines, c_keys, c_window, c_burst, c_rate, c_idle, c_inn, c_out, c_feed, c_retries, c_life, c_door, c_holds, c_secret⟩ : Cfg) (⟨x_id, x_kind, x_src, x_dst, x_car, x_state, x_owner, x_born⟩ : CallV) id ow bo).1).id, .int .i64 ((newV (⟨c_floors, c_cars, c_seats, c_calls, c_lines, c_keys, c_window, c_burst, c_rate, c_idle, c_inn, c_out, c_feed, c_retries, c_life, c_door, c_holds, c_secret⟩ : Cfg) (⟨x_id, x_kind, x_src, x_dst, x_car, x_state, x_owner, x_born⟩ : CallV) id ow bo).1).kind, .int .i64 ((newV (⟨c_floors, c_cars, c_seats, c_calls, c_lines, c_keys, c_window, c_burst, c_rate, c_idle, c_inn, c_out, c_feed, c_retries, c_life, c_door, c_holds, c_secret⟩ : Cfg) (⟨x_id, x_kind, x_src, x_dst, x_car, x_state, x_owner, x_born⟩ : CallV) id ow bo).1).src, .int .i64 ((newV (⟨c_floors, c_cars, c_seats, c_calls, c_lines, c_keys, c_window, c_burst, c_rate, c_idle, c_inn, c_out, c_feed, c_retries, c_life, c_door, c_holds, c_secret⟩ : Cfg) (⟨x_id, x_kind, x_src, x_dst, x_car, x_state, x_owner, x_born⟩ : CallV) id ow bo).1).dst, .int .i64 ((newV (⟨c_floors, c_cars, c_seats, c_calls, c_lines, c_keys, c_window, c_burst, c_rate, c_idle, c_inn, c_out, c_feed, c_retries, c_life, c_door, c_holds, c_secret⟩ : Cfg) (⟨x_id, x_kind, x_src, x_dst, x_car, x_state, x_owner, x_born⟩ : CallV) id ow bo).1).car, .int .i64 ((newV (⟨c_floors, c_cars, c_seats, c_calls, c_lines, c_keys, c_window, c_burst, c_rate, c_idle, c_inn, c_out, c_feed, c_retries, c_life, c_door, c_holds, c_secret⟩ : Cfg) (⟨x_id, x_kind, x_src, x_dst, x_car, x_state, x_owner, x_born⟩ : CallV) id ow bo).1).state, .int .i64 ((newV (⟨c_floors, c_cars, c_seats, c_calls, c_lines, c_keys, c_window, c_burst, c_rate, c_idle, c_inn, c_out, c_feed, c_retries, c_life, c_door, c_holds, c_secret⟩ : Cfg) (⟨x_id, x_kind, x_src, x_dst, x_car, x_state, x_owner, x_born⟩ : CallV) id ow bo).1).owner, .int .i64 ((newV (⟨c_floors, c_cars, c_seats, c_calls, c_lines, c_keys, c_window, c_burst, c_rate, c_idle, c_inn, c_out, c_feed, c_retries, c_life, c_door, c_holds, c_secret⟩ : Cfg) (⟨x_id, x_kind, x_src, x_dst, x_car, x_state, x_owner, x_born⟩ : CallV) id ow bo).1).born], .int .i64 (newV (⟨c_floors, c_cars, c_seats, c_calls, c_lines, c_keys, c_window, c_burst, c_rate, c_idle, c_inn, c_out, c_feed, c_retries, c_life, c_door, c_holds, c_secret⟩ : Cfg) (⟨x_id, x_kind, x_src, x_dst, x_car, x_state, x_owner, x_born⟩ : CallV) id ow bo).2]) ∧ Off [] w w' := callNew (⟨c_floors, c_cars, c_seats, c_calls, c_lines, c_keys, c_window, c_burst, c_rate, c_idle, c_inn, c_out, c_feed, c_retries, c_life, c_door, c_holds, c_secret⟩ : Cfg) (⟨x_id, x_kind, x_src, x_dst, x_car, x_state, x_owner, x_born⟩ : CallV) id ow bo w
def cmpI (a b : Int) : Int := if decide (a < b) = true then -1 else if decide (b < a) = true then 1 else 0
theorem isNaNI (a : Int) (w : World) : Calls Try.prog 86 #[.int .i64 a] w fun e w' => e = .returned (.bool false) ∧ w = w' := by
  go_enter Try.func86, Try.ntmps86
  go_wp2_with fail
  go_ret
  exact ⟨by simp, rfl⟩
theorem cmpCompareI (a b : Int) (w : World) : Calls Try.prog 67 #[.int .i64 a, .int .i64 b] w fun e w' => e = .returned (.int .i64 (cmpI a b)) ∧ w = w' := by
  rcases Bool.eq_false_or_eq_true (decide (a < b)) with q0 | q0
  · go_enter Try.func67, Try.ntmps67
    go_wp2_with (go_at_call 86; (with_reducible refine (isNaNI _ _).mono ?_); rintro e w' ⟨rfl, rfl⟩)
    go_ret
    exact ⟨by simp [cmpI, q0], rfl⟩
  · rcases Bool.eq_false_or_eq_true (decide (b < a)) with q1 | q1
    all_goals
      go_enter Try.func67, Try.ntmps67
      go_wp2_with (go_at_call 86; (with_reducible refine (isNaNI _ _).mono ?_); rintro e w' ⟨rfl, rfl⟩)
      go_ret
      exact ⟨by simp [cmpI, q0, q1], rfl⟩
set_option maxHeartbeats 16000000 in
theorem callDir (x : CallV) (w : World) : Calls Try.prog 24 #[.agg #[.int .i64 x.id, .int .i64 x.kind, .int .i64 x.src, .int .i64 x.dst, .int .i64 x.car, .int .i64 x.state, .int .i64 x.owner, .int .i64 x.born]] w fun e w' => e = .returned (.int .i64 (dirV x)) ∧ Off [] w w' := by
  have H := Lib.hid (Hp.start [] w)
  rcases Bool.eq_false_or_eq_true (x.kind == 1) with q0 | q0
  · go_enter Try.func24, Try.ntmps24
    go_wp2_with (first
      | ((with_reducible apply g_mem); (focus (exact rfl)); first
      | ((with_reducible apply hpN_box 26 1 H); (focus (exact rfl)); (focus (exact rfl)); (focus (exact rfl)); (focus (exact rfl)); (focus (exact rfl)); intro w5 b1 H5; clear H; have H := H5; clear H5)
      | ((with_reducible apply hpA_load1 tyint H); (focus (exact rfl)); (focus (exact rfl)); (focus (first | (exact rfl) | (simp [Region.wanted]; done) | (simp only [Region.wanted]; go_simp; done))); (focus (repeat (first | exact List.Mem.head _ | apply List.Mem.tail))); (focus ((try simp only [List.getElem?_cons_zero, List.getElem?_cons_succ]); exact rfl))))
      | (go_at_call 67; (with_reducible refine (cmpCompareI _ _ _).mono ?_); rintro e w5 ⟨rfl, rfl⟩)
      | ((with_reducible apply eqlA_call); (focus (exact rfl)); (focus (first | (exact rfl) | (simp [Region.wanted]; done) | (simp only [Region.wanted]; go_simp; done))); (focus (exact rfl)); (focus (exact rfl))))
    go_ret
    exact ⟨by simp [dirV, q0, noCall], H.out.off⟩
  · rcases Bool.eq_false_or_eq_true (x.kind == 2) with q1 | q1
    · go_enter Try.func24, Try.ntmps24
      go_wp2_with (first
        | ((with_reducible apply g_mem); (focus (exact rfl)); first
      | ((with_reducible apply hpN_box 26 1 H); (focus (exact rfl)); (focus (exact rfl)); (focus (exact rfl)); (focus (exact rfl)); (focus (exact rfl)); intro w5 b1 H5; clear H; have H := H5; clear H5)
      | ((with_reducible apply hpA_load1 tyint H); (focus (exact rfl)); (focus (exact rfl)); (focus (first | (exact rfl) | (simp [Region.wanted]; done) | (simp only [Region.wanted]; go_simp; done))); (focus (repeat (first | exact List.Mem.head _ | apply List.Mem.tail))); (focus ((try simp only [List.getElem?_cons_zero, List.getElem?_cons_succ]); exact rfl))))
        | (go_at_call 67; (with_reducible refine (cmpCompareI _ _ _).mono ?_); rintro e w5 ⟨rfl, rfl⟩)
        | ((with_reducible apply eqlA_call); (focus (exact rfl)); (focus (first | (exact rfl) | (simp [Region.wanted]; done) | (simp only [Region.wanted]; go_simp; done))); (focus (exact rfl)); (focus (exact rfl))))
      go_ret
      exact ⟨by simp [dirV, q0, q1, noCall], H.out.off⟩
    · rcases Bool.eq_false_or_eq_true (x.kind == 4) with q2 | q2
      · rcases Bool.eq_false_or_eq_true (decide (x.src < x.dst)) with q3 | q3
        · have e4 : decide (0 < cmpI x.dst x.src) = true := by have := of_decide_eq_true q3; unfold cmpI; rw [if_neg (by simp; omega), if_pos (by simpa using this)]; rfl
          go_enter Try.func24, Try.ntmps24
          go_wp2_with (first
            | ((with_reducible apply g_mem); (focus (exact rfl)); first
      | ((with_reducible apply hpN_box 26 1 H); (focus (exact rfl)); (focus (exact rfl)); (focus (exact rfl)); (focus (exact rfl)); (focus (exact rfl)); intro w5 b1 H5; clear H; have H := H5; clear H5)
      | ((with_reducible apply hpA_load1 tyint H); (focus (exact rfl)); (focus (exact rfl)); (focus (first | (exact rfl) | (simp [Region.wanted]; done) | (simp only [Region.wanted]; go_simp; done))); (focus (repeat (first | exact List.Mem.head _ | apply List.Mem.tail))); (focus ((try simp only [List.getElem?_cons_zero, List.getElem?_cons_succ]); exact rfl))))
            | (go_at_call 67; (with_reducible refine (cmpCompareI _ _ _).mono ?_); rintro e w5 ⟨rfl, rfl⟩)
            | ((with_reducible apply eqlA_call); (focus (exact rfl)); (focus (first | (exact rfl) | (simp [Region.wanted]; done) | (simp only [Region.wanted]; go_simp; done))); (focus (exact rfl)); (focus (exact rfl))))
          go_ret
          exact ⟨by simp [dirV, q0, q1, q2, q3, noCall], H.out.off⟩
        · have e4 : decide (0 < cmpI x.dst x.src) = false := by have := of_decide_eq_false q3; unfold cmpI; by_cases h : x.dst < x.src; (rw [if_pos (by simpa using h)]; rfl); (rw [if_neg (by simpa using h), if_neg (by simpa using this)]; rfl)
          go_enter Try.func24, Try.ntmps24
          go_wp2_with (first
            | ((with_reducible apply g_mem); (focus (exact rfl)); first
      | ((with_reducible apply hpN_box 26 1 H); (focus (exact rfl)); (focus (exact rfl)); (focus (exact rfl)); (focus (exact rfl)); (focus (exact rfl)); intro w5 b1 H5; clear H; have H := H5; clear H5)
      | ((with_reducible apply hpA_load1 tyint H); (focus (exact rfl)); (focus (exact rfl)); (focus (first | (exact rfl) | (simp [Region.wanted]; done) | (simp only [Region.wanted]; go_simp; done))); (focus (repeat (first | exact List.Mem.head _ | apply List.Mem.tail))); (focus ((try simp only [List.getElem?_cons_zero, List.getElem?_cons_succ]); exact rfl))))
            | (go_at_call 67; (with_reducible refine (cmpCompareI _ _ _).mono ?_); rintro e w5 ⟨rfl, rfl⟩)
            | ((with_reducible apply eqlA_call); (focus (exact rfl)); (focus (first | (exact rfl) | (simp [Region.wanted]; done) | (simp only [Region.wanted]; go_simp; done))); (focus (exact rfl)); (focus (exact rfl))))
          go_ret
          exact ⟨by simp [dirV, q0, q1, q2, q3, noCall], H.out.off⟩
      · go_enter Try.func24, Try.ntmps24
        go_wp2_with (first
          | ((with_reducible apply g_mem); (focus (exact rfl)); first
      | ((with_reducible apply hpN_box 26 1 H); (focus (exact rfl)); (focus (exact rfl)); (focus (exact rfl)); (focus (exact rfl)); (focus (exact rfl)); intro w5 b1 H5; clear H; have H := H5; clear H5)
      | ((with_reducible apply hpA_load1 tyint H); (focus (exact rfl)); (focus (exact rfl)); (focus (first | (exact rfl) | (simp [Region.wanted]; done) | (simp only [Region.wanted]; go_simp; done))); (focus (repeat (first | exact List.Mem.head _ | apply List.Mem.tail))); (focus ((try simp only [List.getElem?_cons_zero, List.getElem?_cons_succ]); exact rfl))))
          | (go_at_call 67; (with_reducible refine (cmpCompareI _ _ _).mono ?_); rintro e w5 ⟨rfl, rfl⟩)
          | ((with_reducible apply eqlA_call); (focus (exact rfl)); (focus (first | (exact rfl) | (simp [Region.wanted]; done) | (simp only [Region.wanted]; go_simp; done))); (focus (exact rfl)); (focus (exact rfl))))
        go_ret
        exact ⟨by simp [dirV, q0, q1, q2, noCall], H.out.off⟩
theorem callDirX (x_id : Int) (x_kind : Int) (x_src : Int) (x_dst : Int) (x_car : Int) (x_state : Int) (x_owner : Int) (x_born : Int) (w : World) : Calls Try.prog 24 #[.agg #[.int .i64 x_id, .int .i64 x_kind, .int .i64 x_src, .int .i64 x_dst, .int .i64 x_car, .int .i64 x_state, .int .i64 x_owner, .int .i64 x_born]] w fun e w' => e = .returned (.int .i64 (dirV (⟨x_id, x_kind, x_src, x_dst, x_car, x_state, x_owner, x_born⟩ : CallV))) ∧ Off [] w w' := callDir (⟨x_id, x_kind, x_src, x_dst, x_car, x_state, x_owner, x_born⟩ : CallV) w
end Go.Proofs.Ytfhhfmkfkoemjaa.Ca
