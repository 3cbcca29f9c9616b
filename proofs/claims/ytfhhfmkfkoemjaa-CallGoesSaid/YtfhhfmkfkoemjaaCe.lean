/- Layer 8: what is fixed by number. -/
import Derived.Test.YtfhhfmkfkoemjaaProg
import Derived.Below
import Derived.WalkKit
import Derived.KernelRfl
import Derived.RowKit3
import Derived.Deep.LoopGhost
import Derived.Deep.QuietTactic
import Derived.BigQuiet
import Derived.WideLaws
import Derived.Deep.DeepCutAuto
import Derived.Deep.CutBlock
import Derived.Lib.Hide
import Derived.Laws.BitsLemmas
import Derived.Laws.Bits64
import Derived.Laws.BitsAllLaws
import Derived.IntWalk
import Derived.Outline
import Derived.WalkSpells
import Derived.Test.YtfhhfmkfkoemjaaMem
import Derived.Test.YtfhhfmkfkoemjaaCd
namespace Go.Proofs.Ytfhhfmkfkoemjaa.Ca
set_option linter.unusedVariables false
set_option linter.unusedSimpArgs false
open Go.RowKit Go.Proofs.Ytfhhfmkfkoemjaa.Mem Go.Proofs.Ytfhhfmkfkoemjaa.Si

theorem g_region0 {P : Program} {Q : Exit → Act → World → Prop} {a : Act} {w : World} (id : Nat) {ops : Array Oper} (h : (Code.region id ops false).wp P Q a w) : (Code.region id ops false).wp P Q a w := h
theorem siteSmall (w : World) : Calls Try.prog 59 #[] w fun e w' => e = .returned (.agg #[.int .i64 5, .int .i64 1, .int .i64 2, .int .i64 4, .int .i64 2, .int .i64 4, .int .i64 20, .int .i64 100, .int .i64 10, .int .i64 1000, .int .i64 2, .int .i64 4, .int .i64 4, .int .i64 2, .int .i64 0, .int .i64 1, .int .i64 1, .int .u32 7]) ∧ Off [] w w' := by
  have H := Lib.hid (Hp.start [] w)
  go_enter Try.func59, Try.ntmps59
  go_wp2_with (first
    | ((with_reducible apply g_mem); (focus (exact rfl)); first
      | ((with_reducible apply hpN_alloc tyapi_Config 0 H); (focus (exact rfl)); (focus (exact rfl)); (focus (exact rfl)); intro w5 b0 H5; clear H; have H := H5; clear H5)
      | ((with_reducible apply hpA_store tyapi_Config H); (focus (exact rfl)); (focus (exact rfl)); (focus (exact rfl)); (focus (exact rfl)); (focus (exact rfl)); (focus (repeat (first | apply Put.head | apply Put.tail))); (focus (first | (simp; done) | (simp [Value.oneCell']; done))); (focus (first | (simp; done) | (simp [Value.oneCell']; done))); (focus ((try simp only [spl]); exact rfl)); (focus (exact rfl)); intro w5 H5; clear H; have H := H5; clear H5))
    | ((with_reducible apply eqlA_call); (focus (exact rfl)); (focus (first | (exact rfl) | (simp [Region.wanted]; done) | (simp only [Region.wanted]; go_simp; done))); (focus (exact rfl)); (focus (exact rfl))))
  (try simp only [Exit.inBlock, Exit.then])
  apply hp_ret_c tyapi_Config H
  · exact rfl
  · exact rfl
  · exact rfl
  · (repeat (first | exact List.Mem.head _ | apply List.Mem.tail))
  · exact rfl
  · exact ⟨rfl, H.out.off⟩
set_option maxRecDepth 20000 in
set_option maxHeartbeats 64000000 in
theorem awake8 (w : World) : Calls Try.prog 13 #[] w fun e w' => e = .returned (.bool true) ∧ Off [] w w' := by
  have H := Lib.hid (Hp.start [] w)
  have e0 : newV ⟨5, 1, 2, 4, 2, 4, 20, 100, 10, 1000, 2, 4, 4, 2, 0, 1, 1, 7⟩ ⟨0, 4, 2, 4, 0, 0, 0, 0⟩ 1 9 0 = (⟨1, 4, 2, 4, 0, 1, 9, 0⟩, 0) := by rfl
  have e1 : assignV ⟨5, 1, 2, 4, 2, 4, 20, 100, 10, 1000, 2, 4, 4, 2, 0, 1, 1, 7⟩ ⟨1, 4, 2, 4, 0, 1, 9, 0⟩ 1 = (⟨1, 4, 2, 4, 1, 2, 9, 0⟩, 0) := by rfl
  have e2 : boardV ⟨1, 4, 2, 4, 1, 2, 9, 0⟩ = (⟨1, 4, 2, 4, 1, 3, 9, 0⟩, 0) := by rfl
  have e3 : serveV ⟨1, 4, 2, 4, 1, 3, 9, 0⟩ = (⟨1, 4, 2, 4, 1, 4, 9, 0⟩, 0) := by rfl
  have e4 : serveV ⟨1, 4, 2, 4, 1, 2, 9, 0⟩ = (noCall, 7) := by rfl
  have e5 : newV ⟨5, 1, 2, 4, 2, 4, 20, 100, 10, 1000, 2, 4, 4, 2, 0, 1, 1, 7⟩ ⟨0, 1, 5, 0, 0, 0, 0, 0⟩ 1 1 1 = (noCall, 1) := by rfl
  have e6 : goalV ⟨1, 4, 2, 4, 1, 2, 9, 0⟩ = 2 := by rfl
  have e7 : goalV ⟨1, 4, 2, 4, 1, 3, 9, 0⟩ = 4 := by rfl
  have e8 : dirV ⟨1, 4, 2, 4, 1, 3, 9, 0⟩ = 1 := by rfl
  have e9 : mayV ⟨5, 1, 2, 4, 2, 4, 20, 100, 10, 1000, 2, 4, 4, 2, 0, 1, 1, 7⟩ ⟨1, 4, 2, 4, 1, 2, 9, 0⟩ ⟨1, 4, 2, 4, 1, 3, 9, 0⟩ = true := by rfl
  have e10 : mayV ⟨5, 1, 2, 4, 2, 4, 20, 100, 10, 1000, 2, 4, 4, 2, 0, 1, 1, 7⟩ ⟨1, 4, 2, 4, 1, 3, 9, 0⟩ ⟨1, 4, 2, 4, 1, 2, 9, 0⟩ = false := by rfl
  have e11 : livesV ⟨1, 4, 2, 4, 1, 4, 9, 0⟩ = false := by rfl
  go_enter Try.func13, Try.ntmps13
  go_upto_region 8 with (first
    | ((with_reducible apply g_mem); (focus (exact rfl)); first
      | ((with_reducible apply hpN_alloc tyapi_Config 1 H); (focus (exact rfl)); (focus (exact rfl)); (focus (exact rfl)); intro w5 b1 H5; clear H; have H := H5; clear H5)
      | ((with_reducible apply hpA_store tyapi_Config H); (focus (exact rfl)); (focus (exact rfl)); (focus (exact rfl)); (focus (exact rfl)); (focus (exact rfl)); (focus (repeat (first | apply Put.head | apply Put.tail))); (focus (first | (simp; done) | (simp [Value.oneCell']; done))); (focus (first | (simp; done) | (simp [Value.oneCell']; done))); (focus ((try simp only [spl]); exact rfl)); (focus (exact rfl)); intro w5 H5; clear H; have H := H5; clear H5)
      | ((with_reducible apply hpA_load tyapi_Config H); (focus (exact rfl)); (focus (exact rfl)); (focus (first | (exact rfl) | (simp [Region.wanted]; done) | (simp only [Region.wanted]; go_simp; done))); (focus (repeat (first | exact List.Mem.head _ | apply List.Mem.tail))); (focus ((try simp only [List.drop_zero, List.drop_succ_cons, List.take_succ_cons, List.take_zero]); exact rfl)); (focus (exact rfl)))
      | ((with_reducible apply hpN_alloc tyapi_Call 2 H); (focus (exact rfl)); (focus (exact rfl)); (focus (exact rfl)); intro w5 b2 H5; clear H; have H := H5; clear H5)
      | ((with_reducible apply hpA_store tyapi_Call H); (focus (exact rfl)); (focus (exact rfl)); (focus (exact rfl)); (focus (exact rfl)); (focus (exact rfl)); (focus (repeat (first | apply Put.head | apply Put.tail))); (focus (first | (simp; done) | (simp [Value.oneCell']; done))); (focus (first | (simp; done) | (simp [Value.oneCell']; done))); (focus ((try simp only [spl]); exact rfl)); (focus (exact rfl)); intro w5 H5; clear H; have H := H5; clear H5)
      | ((with_reducible apply hpA_load tyapi_Call H); (focus (exact rfl)); (focus (exact rfl)); (focus (first | (exact rfl) | (simp [Region.wanted]; done) | (simp only [Region.wanted]; go_simp; done))); (focus (repeat (first | exact List.Mem.head _ | apply List.Mem.tail))); (focus ((try simp only [List.drop_zero, List.drop_succ_cons, List.take_succ_cons, List.take_zero]); exact rfl)); (focus (exact rfl)))
      | ((with_reducible apply hpN_alloc tyapi_Call 4 H); (focus (exact rfl)); (focus (exact rfl)); (focus (exact rfl)); intro w5 b4 H5; clear H; have H := H5; clear H5)
      | ((with_reducible apply hpN_alloc tyapi_Call 6 H); (focus (exact rfl)); (focus (exact rfl)); (focus (exact rfl)); intro w5 b6 H5; clear H; have H := H5; clear H5)
      | ((with_reducible apply hpN_alloc tyapi_Call 8 H); (focus (exact rfl)); (focus (exact rfl)); (focus (exact rfl)); intro w5 b8 H5; clear H; have H := H5; clear H5)
      | ((with_reducible apply hpN_alloc tyapi_Call 10 H); (focus (exact rfl)); (focus (exact rfl)); (focus (exact rfl)); intro w5 b10 H5; clear H; have H := H5; clear H5)
      | ((with_reducible apply hpN_alloc tyapi_Call 12 H); (focus (exact rfl)); (focus (exact rfl)); (focus (exact rfl)); intro w5 b12 H5; clear H; have H := H5; clear H5)
      | ((with_reducible apply hpA_load1 tyint H); (focus (exact rfl)); (focus (exact rfl)); (focus (first | (exact rfl) | (simp [Region.wanted]; done) | (simp only [Region.wanted]; go_simp; done))); (focus (repeat (first | exact List.Mem.head _ | apply List.Mem.tail))); (focus ((try simp only [List.getElem?_cons_zero, List.getElem?_cons_succ]); exact rfl))))
    | (go_at_call 59; (with_reducible refine (siteSmall _).mono ?_); rintro e w5 ⟨rfl, ho⟩; have H5 := Lib.hid (H.out.quiet ho); clear H ho; have H := H5; clear H5)
    | (go_at_call 14; (with_reducible refine (callNew _ _ _ _ _ _).mono ?_); rintro e w5 ⟨rfl, ho⟩; have H5 := Lib.hid (H.out.quiet ho); clear H ho; have H := H5; clear H5)
    | (go_at_call 14; (with_reducible refine (callNewX _ _ _ _ _ _ _ _ _ _ _ _ _ _ _ _ _ _ _ _ _ _ _ _ _ _ _ _ _ _).mono ?_); rintro e w5 ⟨rfl, ho⟩; have H5 := Lib.hid (H.out.quiet ho); clear H ho; have H := H5; clear H5)
    | (go_at_call 15; (with_reducible refine (callAssign _ _ _ _).mono ?_); rintro e w5 ⟨rfl, ho⟩; have H5 := Lib.hid (H.out.quiet ho); clear H ho; have H := H5; clear H5)
    | (go_at_call 15; (with_reducible refine (callAssignX _ _ _ _ _ _ _ _ _ _ _ _ _ _ _ _ _ _ _ _ _ _ _ _ _ _ _ _).mono ?_); rintro e w5 ⟨rfl, ho⟩; have H5 := Lib.hid (H.out.quiet ho); clear H ho; have H := H5; clear H5)
    | (go_at_call 17; (with_reducible refine (callBoard _ _).mono ?_); rintro e w5 ⟨rfl, ho⟩; have H5 := Lib.hid (H.out.quiet ho); clear H ho; have H := H5; clear H5)
    | (go_at_call 17; (with_reducible refine (callBoardX _ _ _ _ _ _ _ _ _).mono ?_); rintro e w5 ⟨rfl, ho⟩; have H5 := Lib.hid (H.out.quiet ho); clear H ho; have H := H5; clear H5)
    | (go_at_call 18; (with_reducible refine (callServe _ _).mono ?_); rintro e w5 ⟨rfl, ho⟩; have H5 := Lib.hid (H.out.quiet ho); clear H ho; have H := H5; clear H5)
    | (go_at_call 18; (with_reducible refine (callServeX _ _ _ _ _ _ _ _ _).mono ?_); rintro e w5 ⟨rfl, ho⟩; have H5 := Lib.hid (H.out.quiet ho); clear H ho; have H := H5; clear H5)
    | (go_at_call 22; (with_reducible refine (callGoal _ _).mono ?_); rintro e w5 ⟨rfl, ho⟩; have H5 := Lib.hid (H.out.quiet ho); clear H ho; have H := H5; clear H5)
    | (go_at_call 22; (with_reducible refine (callGoalX _ _ _ _ _ _ _ _ _).mono ?_); rintro e w5 ⟨rfl, ho⟩; have H5 := Lib.hid (H.out.quiet ho); clear H ho; have H := H5; clear H5)
    | (go_at_call 24; (with_reducible refine (callDir _ _).mono ?_); rintro e w5 ⟨rfl, ho⟩; have H5 := Lib.hid (H.out.quiet ho); clear H ho; have H := H5; clear H5)
    | (go_at_call 24; (with_reducible refine (callDirX _ _ _ _ _ _ _ _ _).mono ?_); rintro e w5 ⟨rfl, ho⟩; have H5 := Lib.hid (H.out.quiet ho); clear H ho; have H := H5; clear H5)
    | (go_at_call 21; (with_reducible refine (callMay _ _ _ _).mono ?_); rintro e w5 ⟨rfl, ho⟩; have H5 := Lib.hid (H.out.quiet ho); clear H ho; have H := H5; clear H5)
    | (go_at_call 21; (with_reducible refine (callMayX _ _ _ _ _ _ _ _ _ _ _ _ _ _ _ _ _ _ _ _ _ _ _ _ _ _ _ _ _ _ _ _ _ _ _).mono ?_); rintro e w5 ⟨rfl, ho⟩; have H5 := Lib.hid (H.out.quiet ho); clear H ho; have H := H5; clear H5)
    | (go_at_call 23; (with_reducible refine (callLives _ _).mono ?_); rintro e w5 ⟨rfl, ho⟩; have H5 := Lib.hid (H.out.quiet ho); clear H ho; have H := H5; clear H5)
    | (go_at_call 23; (with_reducible refine (callLivesX _ _ _ _ _ _ _ _ _).mono ?_); rintro e w5 ⟨rfl, ho⟩; have H5 := Lib.hid (H.out.quiet ho); clear H ho; have H := H5; clear H5)
    | ((with_reducible apply eqlA_call); (focus (exact rfl)); (focus (first | (exact rfl) | (simp [Region.wanted]; done) | (simp only [Region.wanted]; go_simp; done))); (focus (exact rfl)); (focus (exact rfl))))
  go_step
  simp only [List.append_eq, List.cons_append, List.nil_append]
  go_wp2_with (first
    | ((with_reducible apply g_mem); (focus (exact rfl)); first
      | ((with_reducible apply hpN_alloc tyapi_Config 1 H); (focus (exact rfl)); (focus (exact rfl)); (focus (exact rfl)); intro w5 b1 H5; clear H; have H := H5; clear H5)
      | ((with_reducible apply hpA_store tyapi_Config H); (focus (exact rfl)); (focus (exact rfl)); (focus (exact rfl)); (focus (exact rfl)); (focus (exact rfl)); (focus (repeat (first | apply Put.head | apply Put.tail))); (focus (first | (simp; done) | (simp [Value.oneCell']; done))); (focus (first | (simp; done) | (simp [Value.oneCell']; done))); (focus ((try simp only [spl]); exact rfl)); (focus (exact rfl)); intro w5 H5; clear H; have H := H5; clear H5)
      | ((with_reducible apply hpA_load tyapi_Config H); (focus (exact rfl)); (focus (exact rfl)); (focus (first | (exact rfl) | (simp [Region.wanted]; done) | (simp only [Region.wanted]; go_simp; done))); (focus (repeat (first | exact List.Mem.head _ | apply List.Mem.tail))); (focus ((try simp only [List.drop_zero, List.drop_succ_cons, List.take_succ_cons, List.take_zero]); exact rfl)); (focus (exact rfl)))
      | ((with_reducible apply hpN_alloc tyapi_Call 2 H); (focus (exact rfl)); (focus (exact rfl)); (focus (exact rfl)); intro w5 b2 H5; clear H; have H := H5; clear H5)
      | ((with_reducible apply hpA_store tyapi_Call H); (focus (exact rfl)); (focus (exact rfl)); (focus (exact rfl)); (focus (exact rfl)); (focus (exact rfl)); (focus (repeat (first | apply Put.head | apply Put.tail))); (focus (first | (simp; done) | (simp [Value.oneCell']; done))); (focus (first | (simp; done) | (simp [Value.oneCell']; done))); (focus ((try simp only [spl]); exact rfl)); (focus (exact rfl)); intro w5 H5; clear H; have H := H5; clear H5)
      | ((with_reducible apply hpA_load tyapi_Call H); (focus (exact rfl)); (focus (exact rfl)); (focus (first | (exact rfl) | (simp [Region.wanted]; done) | (simp only [Region.wanted]; go_simp; done))); (focus (repeat (first | exact List.Mem.head _ | apply List.Mem.tail))); (focus ((try simp only [List.drop_zero, List.drop_succ_cons, List.take_succ_cons, List.take_zero]); exact rfl)); (focus (exact rfl)))
      | ((with_reducible apply hpN_alloc tyapi_Call 4 H); (focus (exact rfl)); (focus (exact rfl)); (focus (exact rfl)); intro w5 b4 H5; clear H; have H := H5; clear H5)
      | ((with_reducible apply hpN_alloc tyapi_Call 6 H); (focus (exact rfl)); (focus (exact rfl)); (focus (exact rfl)); intro w5 b6 H5; clear H; have H := H5; clear H5)
      | ((with_reducible apply hpN_alloc tyapi_Call 8 H); (focus (exact rfl)); (focus (exact rfl)); (focus (exact rfl)); intro w5 b8 H5; clear H; have H := H5; clear H5)
      | ((with_reducible apply hpN_alloc tyapi_Call 10 H); (focus (exact rfl)); (focus (exact rfl)); (focus (exact rfl)); intro w5 b10 H5; clear H; have H := H5; clear H5)
      | ((with_reducible apply hpN_alloc tyapi_Call 12 H); (focus (exact rfl)); (focus (exact rfl)); (focus (exact rfl)); intro w5 b12 H5; clear H; have H := H5; clear H5)
      | ((with_reducible apply hpA_load1 tyint H); (focus (exact rfl)); (focus (exact rfl)); (focus (first | (exact rfl) | (simp [Region.wanted]; done) | (simp only [Region.wanted]; go_simp; done))); (focus (repeat (first | exact List.Mem.head _ | apply List.Mem.tail))); (focus ((try simp only [List.getElem?_cons_zero, List.getElem?_cons_succ]); exact rfl))))
    | (go_at_call 59; (with_reducible refine (siteSmall _).mono ?_); rintro e w5 ⟨rfl, ho⟩; have H5 := Lib.hid (H.out.quiet ho); clear H ho; have H := H5; clear H5)
    | (go_at_call 14; (with_reducible refine (callNew _ _ _ _ _ _).mono ?_); rintro e w5 ⟨rfl, ho⟩; have H5 := Lib.hid (H.out.quiet ho); clear H ho; have H := H5; clear H5)
    | (go_at_call 14; (with_reducible refine (callNewX _ _ _ _ _ _ _ _ _ _ _ _ _ _ _ _ _ _ _ _ _ _ _ _ _ _ _ _ _ _).mono ?_); rintro e w5 ⟨rfl, ho⟩; have H5 := Lib.hid (H.out.quiet ho); clear H ho; have H := H5; clear H5)
    | (go_at_call 15; (with_reducible refine (callAssign _ _ _ _).mono ?_); rintro e w5 ⟨rfl, ho⟩; have H5 := Lib.hid (H.out.quiet ho); clear H ho; have H := H5; clear H5)
    | (go_at_call 15; (with_reducible refine (callAssignX _ _ _ _ _ _ _ _ _ _ _ _ _ _ _ _ _ _ _ _ _ _ _ _ _ _ _ _).mono ?_); rintro e w5 ⟨rfl, ho⟩; have H5 := Lib.hid (H.out.quiet ho); clear H ho; have H := H5; clear H5)
    | (go_at_call 17; (with_reducible refine (callBoard _ _).mono ?_); rintro e w5 ⟨rfl, ho⟩; have H5 := Lib.hid (H.out.quiet ho); clear H ho; have H := H5; clear H5)
    | (go_at_call 17; (with_reducible refine (callBoardX _ _ _ _ _ _ _ _ _).mono ?_); rintro e w5 ⟨rfl, ho⟩; have H5 := Lib.hid (H.out.quiet ho); clear H ho; have H := H5; clear H5)
    | (go_at_call 18; (with_reducible refine (callServe _ _).mono ?_); rintro e w5 ⟨rfl, ho⟩; have H5 := Lib.hid (H.out.quiet ho); clear H ho; have H := H5; clear H5)
    | (go_at_call 18; (with_reducible refine (callServeX _ _ _ _ _ _ _ _ _).mono ?_); rintro e w5 ⟨rfl, ho⟩; have H5 := Lib.hid (H.out.quiet ho); clear H ho; have H := H5; clear H5)
    | (go_at_call 22; (with_reducible refine (callGoal _ _).mono ?_); rintro e w5 ⟨rfl, ho⟩; have H5 := Lib.hid (H.out.quiet ho); clear H ho; have H := H5; clear H5)
    | (go_at_call 22; (with_reducible refine (callGoalX _ _ _ _ _ _ _ _ _).mono ?_); rintro e w5 ⟨rfl, ho⟩; have H5 := Lib.hid (H.out.quiet ho); clear H ho; have H := H5; clear H5)
    | (go_at_call 24; (with_reducible refine (callDir _ _).mono ?_); rintro e w5 ⟨rfl, ho⟩; have H5 := Lib.hid (H.out.quiet ho); clear H ho; have H := H5; clear H5)
    | (go_at_call 24; (with_reducible refine (callDirX _ _ _ _ _ _ _ _ _).mono ?_); rintro e w5 ⟨rfl, ho⟩; have H5 := Lib.hid (H.out.quiet ho); clear H ho; have H := H5; clear H5)
    | (go_at_call 21; (with_reducible refine (callMay _ _ _ _).mono ?_); rintro e w5 ⟨rfl, ho⟩; have H5 := Lib.hid (H.out.quiet ho); clear H ho; have H := H5; clear H5)
    | (go_at_call 21; (with_reducible refine (callMayX _ _ _ _ _ _ _ _ _ _ _ _ _ _ _ _ _ _ _ _ _ _ _ _ _ _ _ _ _ _ _ _ _ _ _).mono ?_); rintro e w5 ⟨rfl, ho⟩; have H5 := Lib.hid (H.out.quiet ho); clear H ho; have H := H5; clear H5)
    | (go_at_call 23; (with_reducible refine (callLives _ _).mono ?_); rintro e w5 ⟨rfl, ho⟩; have H5 := Lib.hid (H.out.quiet ho); clear H ho; have H := H5; clear H5)
    | (go_at_call 23; (with_reducible refine (callLivesX _ _ _ _ _ _ _ _ _).mono ?_); rintro e w5 ⟨rfl, ho⟩; have H5 := Lib.hid (H.out.quiet ho); clear H ho; have H := H5; clear H5)
    | ((with_reducible apply eqlA_call); (focus (exact rfl)); (focus (first | (exact rfl) | (simp [Region.wanted]; done) | (simp only [Region.wanted]; go_simp; done))); (focus (exact rfl)); (focus (exact rfl))))
  go_ret
  exact ⟨rfl, H.out.off⟩
end Go.Proofs.Ytfhhfmkfkoemjaa.Ca
