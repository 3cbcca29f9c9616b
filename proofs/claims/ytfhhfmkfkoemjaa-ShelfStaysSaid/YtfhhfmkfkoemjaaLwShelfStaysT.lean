/- A shelf stays as it was: the top of the walk. -/
import Derived.Test.YtfhhfmkfkoemjaaProg
import Derived.Below
import Derived.WalkKit
import Derived.KernelRfl
import Derived.RowKit3
import Derived.Deep.LoopGhost
import Derived.Deep.QuietTactic
import Derived.BigQuiet
import Derived.WideLaws
import Derived.Deep.DeepCutAuto
import Derived.Deep.CutBlock
import Derived.Lib.Hide
import Derived.Laws.BitsLemmas
import Derived.Laws.Bits64
import Derived.Laws.BitsAllLaws
import Derived.IntWalk
import Derived.Outline
import Derived.WalkSpells
import Derived.Test.YtfhhfmkfkoemjaaMem
import Derived.Test.YtfhhfmkfkoemjaaLwShelfStays
import Derived.Test.YtfhhfmkfkoemjaaOpenS6
namespace Go.Proofs.Ytfhhfmkfkoemjaa.Si6
open Go.RowKit Go.Proofs.Ytfhhfmkfkoemjaa.Mem

set_option maxRecDepth 20000
set_option maxHeartbeats 16000000
theorem stays_long1 (n : Int) (ra sa ta : Option Addr) (rc sc tc : Nat) (fs ga gb : List ActV) (w : World) (l1 : (30 < (fs.length : Int))) : Calls Try.prog 6 #[.int .i64 n, .slice ra fs.length rc, .slice sa ga.length sc, .slice ta gb.length tc] w fun e w' => e = .returned (.bool true) ∧ Off [] w w' := by
  have H := Lib.hid (Hp.start [] w)
  go_enter Try.func6, Try.ntmps6
  go_wp2_with (first
    | ((with_reducible apply g_mem); (focus (exact rfl)); first
      | ((with_reducible apply hpN_alloc tyshelf_Shelf_string__int_ 10 H); (focus (exact rfl)); (focus (exact rfl)); (focus (exact rfl)); intro w5 b10 H5; clear H; have H := H5; clear H5)
      | ((with_reducible apply hpA_store tyshelf_Shelf_string__int_ H); (focus (exact rfl)); (focus (exact rfl)); (focus (exact rfl)); (focus (exact rfl)); (focus (exact rfl)); (focus (repeat (first | apply Put.head | apply Put.tail))); (focus (first | (simp; done) | (simp [Value.oneCell']; done))); (focus (first | (simp; done) | (simp [Value.oneCell']; done))); (focus ((try simp only [spl]); exact rfl)); (focus (exact rfl)); intro w5 H5; clear H; have H := H5; clear H5)
      | ((with_reducible apply hpA_load tyshelf_Shelf_string__int_ H); (focus (exact rfl)); (focus (exact rfl)); (focus (first | (exact rfl) | (simp [Region.wanted]; done) | (simp only [Region.wanted]; go_simp; done))); (focus (repeat (first | exact List.Mem.head _ | apply List.Mem.tail))); (focus ((try simp only [List.drop_zero, List.drop_succ_cons, List.take_succ_cons, List.take_zero]); exact rfl)); (focus (exact rfl)))
      | ((with_reducible apply hpN_alloc tyshelf_Shelf_string__int_ 11 H); (focus (exact rfl)); (focus (exact rfl)); (focus (exact rfl)); intro w5 b11 H5; clear H; have H := H5; clear H5)
      | ((with_reducible apply hpN_alloc tyshelf_Shelf_string__int_ 12 H); (focus (exact rfl)); (focus (exact rfl)); (focus (exact rfl)); intro w5 b12 H5; clear H; have H := H5; clear H5)
      | ((with_reducible apply hpN_alloc tyshelf_Shelf_string__int_ 13 H); (focus (exact rfl)); (focus (exact rfl)); (focus (exact rfl)); intro w5 b13 H5; clear H; have H := H5; clear H5)
      | ((with_reducible apply hpN_alloc tyshelf_Shelf_string__int_ 14 H); (focus (exact rfl)); (focus (exact rfl)); (focus (exact rfl)); intro w5 b14 H5; clear H; have H := H5; clear H5))
    | (go_at_call 25; (with_reducible refine (awake6 _).mono ?_); rintro e w5 ⟨rfl, ho⟩; have H5 := Lib.hid (H.out.quiet ho); clear H ho; have H := H5; clear H5))
  go_ret
  exact ⟨rfl, H.out.off⟩
theorem stays_long2 (n : Int) (ra sa ta : Option Addr) (rc sc tc : Nat) (fs ga gb : List ActV) (w : World) (l1 : ¬ (30 < (fs.length : Int))) (l2 : (30 < (ga.length : Int))) : Calls Try.prog 6 #[.int .i64 n, .slice ra fs.length rc, .slice sa ga.length sc, .slice ta gb.length tc] w fun e w' => e = .returned (.bool true) ∧ Off [] w w' := by
  have H := Lib.hid (Hp.start [] w)
  go_enter Try.func6, Try.ntmps6
  go_wp2_with (first
    | ((with_reducible apply g_mem); (focus (exact rfl)); first
      | ((with_reducible apply hpN_alloc tyshelf_Shelf_string__int_ 10 H); (focus (exact rfl)); (focus (exact rfl)); (focus (exact rfl)); intro w5 b10 H5; clear H; have H := H5; clear H5)
      | ((with_reducible apply hpA_store tyshelf_Shelf_string__int_ H); (focus (exact rfl)); (focus (exact rfl)); (focus (exact rfl)); (focus (exact rfl)); (focus (exact rfl)); (focus (repeat (first | apply Put.head | apply Put.tail))); (focus (first | (simp; done) | (simp [Value.oneCell']; done))); (focus (first | (simp; done) | (simp [Value.oneCell']; done))); (focus ((try simp only [spl]); exact rfl)); (focus (exact rfl)); intro w5 H5; clear H; have H := H5; clear H5)
      | ((with_reducible apply hpA_load tyshelf_Shelf_string__int_ H); (focus (exact rfl)); (focus (exact rfl)); (focus (first | (exact rfl) | (simp [Region.wanted]; done) | (simp only [Region.wanted]; go_simp; done))); (focus (repeat (first | exact List.Mem.head _ | apply List.Mem.tail))); (focus ((try simp only [List.drop_zero, List.drop_succ_cons, List.take_succ_cons, List.take_zero]); exact rfl)); (focus (exact rfl)))
      | ((with_reducible apply hpN_alloc tyshelf_Shelf_string__int_ 11 H); (focus (exact rfl)); (focus (exact rfl)); (focus (exact rfl)); intro w5 b11 H5; clear H; have H := H5; clear H5)
      | ((with_reducible apply hpN_alloc tyshelf_Shelf_string__int_ 12 H); (focus (exact rfl)); (focus (exact rfl)); (focus (exact rfl)); intro w5 b12 H5; clear H; have H := H5; clear H5)
      | ((with_reducible apply hpN_alloc tyshelf_Shelf_string__int_ 13 H); (focus (exact rfl)); (focus (exact rfl)); (focus (exact rfl)); intro w5 b13 H5; clear H; have H := H5; clear H5)
      | ((with_reducible apply hpN_alloc tyshelf_Shelf_string__int_ 14 H); (focus (exact rfl)); (focus (exact rfl)); (focus (exact rfl)); intro w5 b14 H5; clear H; have H := H5; clear H5))
    | (go_at_call 25; (with_reducible refine (awake6 _).mono ?_); rintro e w5 ⟨rfl, ho⟩; have H5 := Lib.hid (H.out.quiet ho); clear H ho; have H := H5; clear H5))
  go_ret
  exact ⟨rfl, H.out.off⟩
theorem stays_long3 (n : Int) (ra sa ta : Option Addr) (rc sc tc : Nat) (fs ga gb : List ActV) (w : World) (l1 : ¬ (30 < (fs.length : Int))) (l2 : ¬ (30 < (ga.length : Int))) (l3 : (30 < (gb.length : Int))) : Calls Try.prog 6 #[.int .i64 n, .slice ra fs.length rc, .slice sa ga.length sc, .slice ta gb.length tc] w fun e w' => e = .returned (.bool true) ∧ Off [] w w' := by
  have H := Lib.hid (Hp.start [] w)
  go_enter Try.func6, Try.ntmps6
  go_wp2_with (first
    | ((with_reducible apply g_mem); (focus (exact rfl)); first
      | ((with_reducible apply hpN_alloc tyshelf_Shelf_string__int_ 10 H); (focus (exact rfl)); (focus (exact rfl)); (focus (exact rfl)); intro w5 b10 H5; clear H; have H := H5; clear H5)
      | ((with_reducible apply hpA_store tyshelf_Shelf_string__int_ H); (focus (exact rfl)); (focus (exact rfl)); (focus (exact rfl)); (focus (exact rfl)); (focus (exact rfl)); (focus (repeat (first | apply Put.head | apply Put.tail))); (focus (first | (simp; done) | (simp [Value.oneCell']; done))); (focus (first | (simp; done) | (simp [Value.oneCell']; done))); (focus ((try simp only [spl]); exact rfl)); (focus (exact rfl)); intro w5 H5; clear H; have H := H5; clear H5)
      | ((with_reducible apply hpA_load tyshelf_Shelf_string__int_ H); (focus (exact rfl)); (focus (exact rfl)); (focus (first | (exact rfl) | (simp [Region.wanted]; done) | (simp only [Region.wanted]; go_simp; done))); (focus (repeat (first | exact List.Mem.head _ | apply List.Mem.tail))); (focus ((try simp only [List.drop_zero, List.drop_succ_cons, List.take_succ_cons, List.take_zero]); exact rfl)); (focus (exact rfl)))
      | ((with_reducible apply hpN_alloc tyshelf_Shelf_string__int_ 11 H); (focus (exact rfl)); (focus (exact rfl)); (focus (exact rfl)); intro w5 b11 H5; clear H; have H := H5; clear H5)
      | ((with_reducible apply hpN_alloc tyshelf_Shelf_string__int_ 12 H); (focus (exact rfl)); (focus (exact rfl)); (focus (exact rfl)); intro w5 b12 H5; clear H; have H := H5; clear H5)
      | ((with_reducible apply hpN_alloc tyshelf_Shelf_string__int_ 13 H); (focus (exact rfl)); (focus (exact rfl)); (focus (exact rfl)); intro w5 b13 H5; clear H; have H := H5; clear H5)
      | ((with_reducible apply hpN_alloc tyshelf_Shelf_string__int_ 14 H); (focus (exact rfl)); (focus (exact rfl)); (focus (exact rfl)); intro w5 b14 H5; clear H; have H := H5; clear H5))
    | (go_at_call 25; (with_reducible refine (awake6 _).mono ?_); rintro e w5 ⟨rfl, ho⟩; have H5 := Lib.hid (H.out.quiet ho); clear H ho; have H := H5; clear H5))
  go_ret
  exact ⟨rfl, H.out.off⟩
theorem shelfStays (n : Int) (ra sa ta : Option Addr) (rc sc tc : Nat) (fs ga gb : List ActV) (w : World) (h1 : (rS ra rc 3 (fs.map actRow)).holds w) (h2 : (rS sa sc 3 (ga.map actRow)).holds w) (h3 : (rS ta tc 3 (gb.map actRow)).holds w) : Calls Try.prog 6 #[.int .i64 n, .slice ra fs.length rc, .slice sa ga.length sc, .slice ta gb.length tc] w fun e w' => e = .returned (.bool true) ∧ Off [] w w' := by
  by_cases l1 : 30 < (fs.length : Int)
  · exact stays_long1 n ra sa ta rc sc tc fs ga gb w l1
  by_cases l2 : 30 < (ga.length : Int)
  · exact stays_long2 n ra sa ta rc sc tc fs ga gb w l1 l2
  by_cases l3 : 30 < (gb.length : Int)
  · exact stays_long3 n ra sa ta rc sc tc fs ga gb w l1 l2 l3
  exact stays_main n (roomK n) ra sa ta rc sc tc fs ga gb w (by omega) (roomK_wf n) (roomK_is n) (Lib.hid h1) (Lib.hid h2) (Lib.hid h3)
theorem shelfStaysB (n : Int) (ra : Option Addr) (rl rc : Nat) (fs : List ActV) (sa : Option Addr) (sl sc : Nat) (ga : List ActV) (ta : Option Addr) (tl tc : Nat) (gb : List ActV) (w : World) (_ : (Lit.int .i64 n).wf = true) (h1 : ActsIn w ra rl rc fs) (h2 : ActsIn w sa sl sc ga) (h3 : ActsIn w ta tl tc gb) : Calls Try.prog 6 #[.int .i64 n, .slice ra rl rc, .slice sa sl sc, .slice ta tl tc] w fun e w' => e = .returned (.bool true) ∧ Below w.heap.size w w' := by
  obtain ⟨rfl, h1, _⟩ := h1
  obtain ⟨rfl, h2, _⟩ := h2
  obtain ⟨rfl, h3, _⟩ := h3
  exact (shelfStays n ra sa ta rc sc tc fs ga gb w h1 h2 h3).mono fun _ _ h => ⟨h.1, h.2.to_below⟩
end Go.Proofs.Ytfhhfmkfkoemjaa.Si6
