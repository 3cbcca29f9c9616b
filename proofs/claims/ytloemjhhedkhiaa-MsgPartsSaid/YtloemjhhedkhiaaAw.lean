/- Layer 14: awake. -/
import Derived.Test.YtloemjhhedkhiaaProg
import Derived.Below
import Derived.WalkKit
import Derived.KernelRfl
import Derived.RowKit3
import Derived.Deep.LoopGhost
import Derived.Deep.QuietTactic
import Derived.BigQuiet
import Derived.WideLaws
import Derived.Deep.DeepCutAuto
import Derived.Deep.CutBlock
import Derived.Lib.Hide
import Derived.Laws.BitsLemmas
import Derived.Laws.Bits64
import Derived.Laws.BitsAllLaws
import Derived.IntWalk
import Derived.Outline
import Derived.WalkSpells
import Derived.Test.YtloemjhhedkhiaaMem
import Derived.Test.YtloemjhhedkhiaaMq
namespace Go.Proofs.Ytloemjhhedkhiaa.Ms
set_option linter.unusedVariables false
set_option linter.unusedSimpArgs false
open Go.RowKit Go.Proofs.Ytloemjhhedkhiaa.Mem Go.Proofs.Ytloemjhhedkhiaa.Pk Go.Proofs.Ytloemjhhedkhiaa.Ca
instance : DecidableEq FilterV := fun a b => decidable_of_iff (a.kind = b.kind ∧ a.n = b.n) (by cases a; cases b; simp)

theorem tyapi_Call : TyI Try.prog 25 8 true [.int .i64 0, .int .i64 0, .int .i64 0, .int .i64 0, .int .i64 0, .int .i64 0, .int .i64 0, .int .i64 0] := ⟨by kernel_rfl, by kernel_rfl, by kernel_rfl⟩
theorem aw1w : Whole ⟨7, 1, 0, 0, 0, 0, ⟨0, 0, 0, 0, 0, 0, 0, 0⟩, 0, 0, 0, ⟨0, 0⟩⟩ [] := ⟨⟨by decide, by decide⟩, rfl, by decide, by decide, by decide⟩
theorem aw2w : Whole ⟨4, 2, 0, 0, 0, 21474836481, ⟨0, 4, 1, 3, 0, 0, 0, 0⟩, 0, 0, 0, ⟨0, 0⟩⟩ [.key, .num 1 7 .whole, .num 1 8 .whole, .num 1 9 .whole, .num 1 10 .whole] := ⟨⟨by decide, by decide⟩, rfl, by decide, by decide, by decide⟩
theorem aw1 : encodeV ⟨7, 1, 0, 0, 0, 0, ⟨0, 0, 0, 0, 0, 0, 0, 0⟩, 0, 0, 0, ⟨0, 0⟩⟩ = ({ data := #[7, 0, 0, 0, 1] }, 0) := by
  rw [encode_whole aw1w rfl]
  refine Prod.ext ?_ rfl
  decide
theorem aw2 : decodeV { data := #[4, 0, 0, 0, 2, 0, 0, 0, 5, 0, 0, 0, 1, 4, 1, 3, 0] } = (⟨4, 2, 0, 0, 0, 21474836481, ⟨0, 4, 1, 3, 0, 0, 0, 0⟩, 0, 0, 0, ⟨0, 0⟩⟩, 0) := by
  rw [← decode_whole aw2w rfl]
  congr 1
theorem aw3 : decodeV { data := #[11, 0, 0, 0, 0] } = (noReq, 4) := by
  refine decode_no fun h => ?_
  have h2 := (decode_is h).2.1
  exact absurd h2 (by decide)
theorem aw4 : seqV { data := #[7, 0, 0, 0, 1] } = 1 := by decide
set_option maxRecDepth 20000 in
set_option maxHeartbeats 64000000 in
theorem awake14 (w : World) : Calls Try.prog 11 #[] w fun e w' => e = .returned (.bool true) ∧ Off [] w w' := by
  have H := Lib.hid (Hp.start [] w)
  have e1 := aw1
  have e2 := aw2
  have e3 := aw3
  have e4 := aw4
  have e5 : writesV ⟨4, 2, 0, 0, 0, 21474836481, ⟨0, 4, 1, 3, 0, 0, 0, 0⟩, 0, 0, 0, ⟨0, 0⟩⟩ = true := rfl
  have e6 : isFilterV ⟨0, 0⟩ = true := rfl
  have e7 : noReq = ⟨0, 0, 0, 0, 0, 0, ⟨0, 0, 0, 0, 0, 0, 0, 0⟩, 0, 0, 0, ⟨0, 0⟩⟩ := rfl
  go_enter Try.func11, Try.ntmps11
  go_upto_region 4 with (first
    | ((with_reducible apply g_mem); (focus (exact rfl)); first
      | ((with_reducible apply hpN_alloc tymsg_Request 3 H); (focus (exact rfl)); (focus (exact rfl)); (focus (exact rfl)); intro w5 b3 H5; clear H; have H := H5; clear H5)
      | ((with_reducible apply hpA_store tymsg_Request H); (focus (exact rfl)); (focus (exact rfl)); (focus (exact rfl)); (focus (exact rfl)); (focus (exact rfl)); (focus (repeat (first | apply Put.head | apply Put.tail))); (focus (first | (simp; done) | (simp [*]; done) | (simp [Value.oneCell']; done))); (focus (first | (simp; done) | (simp [*]; done) | (simp [Value.oneCell']; done))); (focus ((try simp only [spl]); exact rfl)); (focus (exact rfl)); intro w5 H5; clear H; have H := H5; clear H5)
      | ((with_reducible apply hpN_alloc tymsg_Request 5 H); (focus (exact rfl)); (focus (exact rfl)); (focus (exact rfl)); intro w5 b5 H5; clear H; have H := H5; clear H5)
      | ((with_reducible apply hpA_load1 tyint H); (focus (exact rfl)); (focus (exact rfl)); (focus (first | (exact rfl) | (simp [Region.wanted]; done) | (simp only [Region.wanted]; go_simp; done))); (focus (repeat (first | exact List.Mem.head _ | apply List.Mem.tail))); (focus ((try simp only [List.getElem?_cons_zero, List.getElem?_cons_succ]); exact rfl)))
      | ((with_reducible apply hpA_load1 tyuint64 H); (focus (exact rfl)); (focus (exact rfl)); (focus (first | (exact rfl) | (simp [Region.wanted]; done) | (simp only [Region.wanted]; go_simp; done))); (focus (repeat (first | exact List.Mem.head _ | apply List.Mem.tail))); (focus ((try simp only [List.getElem?_cons_zero, List.getElem?_cons_succ]); exact rfl)))
      | ((with_reducible apply hpA_load tyapi_Call H); (focus (exact rfl)); (focus (exact rfl)); (focus (first | (exact rfl) | (simp [Region.wanted]; done) | (simp only [Region.wanted]; go_simp; done))); (focus (repeat (first | exact List.Mem.head _ | apply List.Mem.tail))); (focus ((try simp only [List.drop_zero, List.drop_succ_cons, List.take_succ_cons, List.take_zero]); exact rfl)); (focus (exact rfl)))
      | ((with_reducible apply hpA_load tymsg_Request H); (focus (exact rfl)); (focus (exact rfl)); (focus (first | (exact rfl) | (simp [Region.wanted]; done) | (simp only [Region.wanted]; go_simp; done))); (focus (repeat (first | exact List.Mem.head _ | apply List.Mem.tail))); (focus ((try simp only [List.drop_zero, List.drop_succ_cons, List.take_succ_cons, List.take_zero]); exact rfl)); (focus (exact rfl))))
    | (go_at_call 14; (refine (encodeC ⟨7, 1, 0, 0, 0, 0, ⟨0, 0, 0, 0, 0, 0, 0, 0⟩, 0, 0, 0, ⟨0, 0⟩⟩ (Lib.hid aw1w.ok) _).mono ?_); rintro e w5 ⟨rfl, ho⟩; have H5 := Lib.hid (H.out.quiet ho); clear H ho; have H := H5; clear H5)
    | (go_at_call 15; (refine (decodeC _ _).mono ?_); rintro e w5 ⟨rfl, ho⟩; have H5 := Lib.hid (H.out.quiet ho); clear H ho; have H := H5; clear H5)
    | (go_at_call 24; (refine (writes ⟨4, 2, 0, 0, 0, 21474836481, ⟨0, 4, 1, 3, 0, 0, 0, 0⟩, 0, 0, 0, ⟨0, 0⟩⟩ _).mono ?_); rintro e w5 ⟨rfl, ho⟩; have H5 := Lib.hid (H.out.quiet ho); clear H ho; have H := H5; clear H5)
    | (go_at_call 17; (refine (seqC _ _).mono ?_); rintro e w5 ⟨rfl, ho⟩; have H5 := Lib.hid (H.out.quiet ho); clear H ho; have H := H5; clear H5)
    | (go_at_call 25; (refine (filterIs ⟨0, 0⟩ _).mono ?_); rintro e w5 ⟨rfl, ho⟩; have H5 := Lib.hid (H.out.quiet ho); clear H ho; have H := H5; clear H5))
  go_step
  try simp only [List.append_eq, List.cons_append, List.nil_append]
  go_wp2_with (first
    | ((with_reducible apply g_mem); (focus (exact rfl)); first
      | ((with_reducible apply hpN_alloc tymsg_Request 3 H); (focus (exact rfl)); (focus (exact rfl)); (focus (exact rfl)); intro w5 b3 H5; clear H; have H := H5; clear H5)
      | ((with_reducible apply hpA_store tymsg_Request H); (focus (exact rfl)); (focus (exact rfl)); (focus (exact rfl)); (focus (exact rfl)); (focus (exact rfl)); (focus (repeat (first | apply Put.head | apply Put.tail))); (focus (first | (simp; done) | (simp [*]; done) | (simp [Value.oneCell']; done))); (focus (first | (simp; done) | (simp [*]; done) | (simp [Value.oneCell']; done))); (focus ((try simp only [spl]); exact rfl)); (focus (exact rfl)); intro w5 H5; clear H; have H := H5; clear H5)
      | ((with_reducible apply hpN_alloc tymsg_Request 5 H); (focus (exact rfl)); (focus (exact rfl)); (focus (exact rfl)); intro w5 b5 H5; clear H; have H := H5; clear H5)
      | ((with_reducible apply hpA_load1 tyint H); (focus (exact rfl)); (focus (exact rfl)); (focus (first | (exact rfl) | (simp [Region.wanted]; done) | (simp only [Region.wanted]; go_simp; done))); (focus (repeat (first | exact List.Mem.head _ | apply List.Mem.tail))); (focus ((try simp only [List.getElem?_cons_zero, List.getElem?_cons_succ]); exact rfl)))
      | ((with_reducible apply hpA_load1 tyuint64 H); (focus (exact rfl)); (focus (exact rfl)); (focus (first | (exact rfl) | (simp [Region.wanted]; done) | (simp only [Region.wanted]; go_simp; done))); (focus (repeat (first | exact List.Mem.head _ | apply List.Mem.tail))); (focus ((try simp only [List.getElem?_cons_zero, List.getElem?_cons_succ]); exact rfl)))
      | ((with_reducible apply hpA_load tyapi_Call H); (focus (exact rfl)); (focus (exact rfl)); (focus (first | (exact rfl) | (simp [Region.wanted]; done) | (simp only [Region.wanted]; go_simp; done))); (focus (repeat (first | exact List.Mem.head _ | apply List.Mem.tail))); (focus ((try simp only [List.drop_zero, List.drop_succ_cons, List.take_succ_cons, List.take_zero]); exact rfl)); (focus (exact rfl)))
      | ((with_reducible apply hpA_load tymsg_Request H); (focus (exact rfl)); (focus (exact rfl)); (focus (first | (exact rfl) | (simp [Region.wanted]; done) | (simp only [Region.wanted]; go_simp; done))); (focus (repeat (first | exact List.Mem.head _ | apply List.Mem.tail))); (focus ((try simp only [List.drop_zero, List.drop_succ_cons, List.take_succ_cons, List.take_zero]); exact rfl)); (focus (exact rfl))))
    | (go_at_call 14; (refine (encodeC ⟨7, 1, 0, 0, 0, 0, ⟨0, 0, 0, 0, 0, 0, 0, 0⟩, 0, 0, 0, ⟨0, 0⟩⟩ (Lib.hid aw1w.ok) _).mono ?_); rintro e w5 ⟨rfl, ho⟩; have H5 := Lib.hid (H.out.quiet ho); clear H ho; have H := H5; clear H5)
    | (go_at_call 15; (refine (decodeC _ _).mono ?_); rintro e w5 ⟨rfl, ho⟩; have H5 := Lib.hid (H.out.quiet ho); clear H ho; have H := H5; clear H5)
    | (go_at_call 24; (refine (writes ⟨4, 2, 0, 0, 0, 21474836481, ⟨0, 4, 1, 3, 0, 0, 0, 0⟩, 0, 0, 0, ⟨0, 0⟩⟩ _).mono ?_); rintro e w5 ⟨rfl, ho⟩; have H5 := Lib.hid (H.out.quiet ho); clear H ho; have H := H5; clear H5)
    | (go_at_call 17; (refine (seqC _ _).mono ?_); rintro e w5 ⟨rfl, ho⟩; have H5 := Lib.hid (H.out.quiet ho); clear H ho; have H := H5; clear H5)
    | (go_at_call 25; (refine (filterIs ⟨0, 0⟩ _).mono ?_); rintro e w5 ⟨rfl, ho⟩; have H5 := Lib.hid (H.out.quiet ho); clear H ho; have H := H5; clear H5))
  go_ret
  exact ⟨rfl, H.out.off⟩
end Go.Proofs.Ytloemjhhedkhiaa.Ms
