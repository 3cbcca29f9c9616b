/- What is kept, and what is not, are all: the top of the walk. -/
import Derived.Test.YtfhhfmkfkoemjaaProg
import Derived.Below
import Derived.WalkKit
import Derived.KernelRfl
import Derived.RowKit3
import Derived.Deep.LoopGhost
import Derived.Deep.QuietTactic
import Derived.BigQuiet
import Derived.WideLaws
import Derived.Deep.DeepCutAuto
import Derived.Deep.CutBlock
import Derived.Lib.Hide
import Derived.Laws.BitsLemmas
import Derived.Laws.Bits64
import Derived.Laws.BitsAllLaws
import Derived.IntWalk
import Derived.Outline
import Derived.WalkSpells
import Derived.Test.YtfhhfmkfkoemjaaMem
import Derived.Test.YtfhhfmkfkoemjaaLwShelfParts
import Derived.Test.YtfhhfmkfkoemjaaOpenS6
namespace Go.Proofs.Ytfhhfmkfkoemjaa.Si6
open Go.RowKit Go.Proofs.Ytfhhfmkfkoemjaa.Mem

set_option maxRecDepth 20000
set_option maxHeartbeats 16000000
theorem parts_long1 (n by_ v : Int) (key : ByteArray) (ra : Option Addr) (rc : Nat) (fs : List ActV) (w : World) (l1 : (40 < (fs.length : Int))) : Calls Try.prog 7 #[.int .i64 n, .slice ra fs.length rc, .int .i64 by_, .string key, .int .i64 v] w fun e w' => e = .returned (.bool true) ∧ Off [] w w' := by
  have H := Lib.hid (Hp.start [] w)
  go_enter Try.func7, Try.ntmps7
  go_wp2_with (first
    | ((with_reducible apply g_mem); (focus (exact rfl)); first
      | ((with_reducible apply hpN_alloc tyshelf_Shelf_string__int_ 11 H); (focus (exact rfl)); (focus (exact rfl)); (focus (exact rfl)); intro w5 b11 H5; clear H; have H := H5; clear H5)
      | ((with_reducible apply hpA_store tyshelf_Shelf_string__int_ H); (focus (exact rfl)); (focus (exact rfl)); (focus (exact rfl)); (focus (exact rfl)); (focus (exact rfl)); (focus (repeat (first | apply Put.head | apply Put.tail))); (focus (first | (simp; done) | (simp [Value.oneCell']; done))); (focus (first | (simp; done) | (simp [Value.oneCell']; done))); (focus ((try simp only [spl]); exact rfl)); (focus (exact rfl)); intro w5 H5; clear H; have H := H5; clear H5)
      | ((with_reducible apply hpN_alloc tyhoistwaylaw06_part 12 H); (focus (exact rfl)); (focus (exact rfl)); (focus (exact rfl)); intro w5 b12 H5; clear H; have H := H5; clear H5)
      | ((with_reducible apply hpA_store tyhoistwaylaw06_part H); (focus (exact rfl)); (focus (exact rfl)); (focus (exact rfl)); (focus (exact rfl)); (focus (exact rfl)); (focus (repeat (first | apply Put.head | apply Put.tail))); (focus (first | (simp; done) | (simp [Value.oneCell']; done))); (focus (first | (simp; done) | (simp [Value.oneCell']; done))); (focus ((try simp only [spl]); exact rfl)); (focus (exact rfl)); intro w5 H5; clear H; have H := H5; clear H5)
      | ((with_reducible apply hpA_load tyshelf_Shelf_string__int_ H); (focus (exact rfl)); (focus (exact rfl)); (focus (first | (exact rfl) | (simp [Region.wanted]; done) | (simp only [Region.wanted]; go_simp; done))); (focus (repeat (first | exact List.Mem.head _ | apply List.Mem.tail))); (focus ((try simp only [List.drop_zero, List.drop_succ_cons, List.take_succ_cons, List.take_zero]); exact rfl)); (focus (exact rfl)))
      | ((with_reducible apply hpA_load tyhoistwaylaw06_part H); (focus (exact rfl)); (focus (exact rfl)); (focus (first | (exact rfl) | (simp [Region.wanted]; done) | (simp only [Region.wanted]; go_simp; done))); (focus (repeat (first | exact List.Mem.head _ | apply List.Mem.tail))); (focus ((try simp only [List.drop_zero, List.drop_succ_cons, List.take_succ_cons, List.take_zero]); exact rfl)); (focus (exact rfl)))
      | ((with_reducible apply hpN_alloc tyshelf_Shelf_string__int_ 13 H); (focus (exact rfl)); (focus (exact rfl)); (focus (exact rfl)); intro w5 b13 H5; clear H; have H := H5; clear H5)
      | ((with_reducible apply hpN_alloc tyshelf_Shelf_string__int_ 14 H); (focus (exact rfl)); (focus (exact rfl)); (focus (exact rfl)); intro w5 b14 H5; clear H; have H := H5; clear H5)
      | ((with_reducible apply hpA_load1 tystring H); (focus (exact rfl)); (focus (exact rfl)); (focus (first | (exact rfl) | (simp [Region.wanted]; done) | (simp only [Region.wanted]; go_simp; done))); (focus (repeat (first | exact List.Mem.head _ | apply List.Mem.tail))); (focus ((try simp only [List.getElem?_cons_zero, List.getElem?_cons_succ]); exact rfl)))
      | ((with_reducible apply hpA_load1 tyint H); (focus (exact rfl)); (focus (exact rfl)); (focus (first | (exact rfl) | (simp [Region.wanted]; done) | (simp only [Region.wanted]; go_simp; done))); (focus (repeat (first | exact List.Mem.head _ | apply List.Mem.tail))); (focus ((try simp only [List.getElem?_cons_zero, List.getElem?_cons_succ]); exact rfl)))
      | ((with_reducible apply hpN_alloc tyshelf_Shelf_string__int_ 21 H); (focus (exact rfl)); (focus (exact rfl)); (focus (exact rfl)); intro w5 b21 H5; clear H; have H := H5; clear H5))
    | (go_at_call 25; (with_reducible refine (awake6 _).mono ?_); rintro e w5 ⟨rfl, ho⟩; have H5 := Lib.hid (H.out.quiet ho); clear H ho; have H := H5; clear H5)
    | (go_at_call 33; (with_reducible refine (partIs _ p hby _).mono ?_); rintro e w5 ⟨rfl, ho⟩; have H5 := Lib.hid (H.out.quiet ho); clear H ho; have H := H5; clear H5))
  go_ret
  exact ⟨rfl, H.out.off⟩
theorem parts_long2 (n by_ v : Int) (key : ByteArray) (ra : Option Addr) (rc : Nat) (fs : List ActV) (w : World) (l1 : ¬ (40 < (fs.length : Int))) (l2 : (10 < (key.size : Int))) : Calls Try.prog 7 #[.int .i64 n, .slice ra fs.length rc, .int .i64 by_, .string key, .int .i64 v] w fun e w' => e = .returned (.bool true) ∧ Off [] w w' := by
  have H := Lib.hid (Hp.start [] w)
  go_enter Try.func7, Try.ntmps7
  go_wp2_with (first
    | ((with_reducible apply g_mem); (focus (exact rfl)); first
      | ((with_reducible apply hpN_alloc tyshelf_Shelf_string__int_ 11 H); (focus (exact rfl)); (focus (exact rfl)); (focus (exact rfl)); intro w5 b11 H5; clear H; have H := H5; clear H5)
      | ((with_reducible apply hpA_store tyshelf_Shelf_string__int_ H); (focus (exact rfl)); (focus (exact rfl)); (focus (exact rfl)); (focus (exact rfl)); (focus (exact rfl)); (focus (repeat (first | apply Put.head | apply Put.tail))); (focus (first | (simp; done) | (simp [Value.oneCell']; done))); (focus (first | (simp; done) | (simp [Value.oneCell']; done))); (focus ((try simp only [spl]); exact rfl)); (focus (exact rfl)); intro w5 H5; clear H; have H := H5; clear H5)
      | ((with_reducible apply hpN_alloc tyhoistwaylaw06_part 12 H); (focus (exact rfl)); (focus (exact rfl)); (focus (exact rfl)); intro w5 b12 H5; clear H; have H := H5; clear H5)
      | ((with_reducible apply hpA_store tyhoistwaylaw06_part H); (focus (exact rfl)); (focus (exact rfl)); (focus (exact rfl)); (focus (exact rfl)); (focus (exact rfl)); (focus (repeat (first | apply Put.head | apply Put.tail))); (focus (first | (simp; done) | (simp [Value.oneCell']; done))); (focus (first | (simp; done) | (simp [Value.oneCell']; done))); (focus ((try simp only [spl]); exact rfl)); (focus (exact rfl)); intro w5 H5; clear H; have H := H5; clear H5)
      | ((with_reducible apply hpA_load tyshelf_Shelf_string__int_ H); (focus (exact rfl)); (focus (exact rfl)); (focus (first | (exact rfl) | (simp [Region.wanted]; done) | (simp only [Region.wanted]; go_simp; done))); (focus (repeat (first | exact List.Mem.head _ | apply List.Mem.tail))); (focus ((try simp only [List.drop_zero, List.drop_succ_cons, List.take_succ_cons, List.take_zero]); exact rfl)); (focus (exact rfl)))
      | ((with_reducible apply hpA_load tyhoistwaylaw06_part H); (focus (exact rfl)); (focus (exact rfl)); (focus (first | (exact rfl) | (simp [Region.wanted]; done) | (simp only [Region.wanted]; go_simp; done))); (focus (repeat (first | exact List.Mem.head _ | apply List.Mem.tail))); (focus ((try simp only [List.drop_zero, List.drop_succ_cons, List.take_succ_cons, List.take_zero]); exact rfl)); (focus (exact rfl)))
      | ((with_reducible apply hpN_alloc tyshelf_Shelf_string__int_ 13 H); (focus (exact rfl)); (focus (exact rfl)); (focus (exact rfl)); intro w5 b13 H5; clear H; have H := H5; clear H5)
      | ((with_reducible apply hpN_alloc tyshelf_Shelf_string__int_ 14 H); (focus (exact rfl)); (focus (exact rfl)); (focus (exact rfl)); intro w5 b14 H5; clear H; have H := H5; clear H5)
      | ((with_reducible apply hpA_load1 tystring H); (focus (exact rfl)); (focus (exact rfl)); (focus (first | (exact rfl) | (simp [Region.wanted]; done) | (simp only [Region.wanted]; go_simp; done))); (focus (repeat (first | exact List.Mem.head _ | apply List.Mem.tail))); (focus ((try simp only [List.getElem?_cons_zero, List.getElem?_cons_succ]); exact rfl)))
      | ((with_reducible apply hpA_load1 tyint H); (focus (exact rfl)); (focus (exact rfl)); (focus (first | (exact rfl) | (simp [Region.wanted]; done) | (simp only [Region.wanted]; go_simp; done))); (focus (repeat (first | exact List.Mem.head _ | apply List.Mem.tail))); (focus ((try simp only [List.getElem?_cons_zero, List.getElem?_cons_succ]); exact rfl)))
      | ((with_reducible apply hpN_alloc tyshelf_Shelf_string__int_ 21 H); (focus (exact rfl)); (focus (exact rfl)); (focus (exact rfl)); intro w5 b21 H5; clear H; have H := H5; clear H5))
    | (go_at_call 25; (with_reducible refine (awake6 _).mono ?_); rintro e w5 ⟨rfl, ho⟩; have H5 := Lib.hid (H.out.quiet ho); clear H ho; have H := H5; clear H5)
    | (go_at_call 33; (with_reducible refine (partIs _ p hby _).mono ?_); rintro e w5 ⟨rfl, ho⟩; have H5 := Lib.hid (H.out.quiet ho); clear H ho; have H := H5; clear H5))
  go_ret
  exact ⟨rfl, H.out.off⟩
theorem shelfParts (n by_ v : Int) (key : ByteArray) (ra : Option Addr) (rc : Nat) (fs : List ActV) (w : World) (h1 : (rS ra rc 3 (fs.map actRow)).holds w) : Calls Try.prog 7 #[.int .i64 n, .slice ra fs.length rc, .int .i64 by_, .string key, .int .i64 v] w fun e w' => e = .returned (.bool true) ∧ Off [] w w' := by
  by_cases l1 : 40 < (fs.length : Int)
  · exact parts_long1 n by_ v key ra rc fs w l1
  by_cases l2 : 10 < (key.size : Int)
  · exact parts_long2 n by_ v key ra rc fs w l1 l2
  have hl : fs.length ≤ 40 := by omega
  rcases Bool.eq_false_or_eq_true (isV key (doesV (roomK n) fs [])) with q | q
  · exact parts_A n (roomK n) (byV by_) by_ v key ra rc fs _ w hl l2 (roomK_wf n) (roomK_is n) (by_wf by_) (by_is by_) (Lib.hid rfl) (Lib.hid h1) q
  · rcases Bool.eq_false_or_eq_true (((doesV (roomK n) fs []).length : Int) == roomK n) with q2 | q2
    · exact parts_B n (roomK n) (byV by_) by_ v key ra rc fs _ w hl l2 (roomK_wf n) (roomK_is n) (by_wf by_) (by_is by_) (Lib.hid rfl) (Lib.hid h1) q q2
    · exact parts_C n (roomK n) (byV by_) by_ v key ra rc fs _ w hl l2 (roomK_wf n) (roomK_is n) (by_wf by_) (by_is by_) (Lib.hid rfl) (Lib.hid h1) q q2
theorem shelfPartsB (n : Int) (ra : Option Addr) (rl rc : Nat) (fs : List ActV) (by_ : Int) (key : ByteArray) (v : Int) (w : World) (_ : (Lit.int .i64 n).wf = true) (h1 : ActsIn w ra rl rc fs) (_ : (Lit.int .i64 by_).wf = true) (_ : key.size ≤ 140737488351232) (_ : (Lit.int .i64 v).wf = true) : Calls Try.prog 7 #[.int .i64 n, .slice ra rl rc, .int .i64 by_, .string key, .int .i64 v] w fun e w' => e = .returned (.bool true) ∧ Below w.heap.size w w' := by
  obtain ⟨rfl, h1, _⟩ := h1
  exact (shelfParts n by_ v key ra rc fs w h1).mono fun _ _ h => ⟨h.1, h.2.to_below⟩
end Go.Proofs.Ytfhhfmkfkoemjaa.Si6
