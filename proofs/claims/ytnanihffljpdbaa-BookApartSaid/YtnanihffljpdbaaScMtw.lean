/- Shelves, at one instance: what is handed out. -/
import Derived.Test.YtnanihffljpdbaaProg
import Derived.Below
import Derived.WalkKit
import Derived.KernelRfl
import Derived.RowKit3
import Derived.Deep.LoopGhost
import Derived.Deep.QuietTactic
import Derived.BigQuiet
import Derived.WideLaws
import Derived.Deep.DeepCutAuto
import Derived.Deep.CutBlock
import Derived.Lib.Hide
import Derived.Laws.BitsLemmas
import Derived.Laws.Bits64
import Derived.Laws.BitsAllLaws
import Derived.IntWalk
import Derived.Outline
import Derived.WalkSpells
import Derived.Test.YtnanihffljpdbaaMem
import Derived.Test.YtnanihffljpdbaaScMet
namespace Go.Proofs.Ytnanihffljpdbaa.Sc6
set_option linter.unusedVariables false
set_option linter.unusedSimpArgs false
open Go.RowKit Go.Proofs.Ytnanihffljpdbaa.Mem

set_option maxRecDepth 20000
set_option maxHeartbeats 16000000

theorem is_some {k : KeyV} {ps : List PairV} (h : isV k ps = true) : ∃ p, ps[posV k ps]? = some p ∧ p.1 = k ∧ posV k ps < ps.length := by
  unfold isV at h
  cases hp : ps[posV k ps]? with
  | none => rw [hp] at h; cases h
  | some p =>
    rw [hp] at h
    exact ⟨p, rfl, (cmp_eq _ _).1 (by simpa using h), (List.getElem?_eq_some_iff.1 hp).1⟩
theorem pos_le (k : KeyV) (ps : List PairV) : posV k ps ≤ ps.length := List.countP_le_length
def getV (k : KeyV) (ps : List PairV) : Ca.CallV × Bool := if isV k ps = true then (match ps[posV k ps]? with | some p => (p.2, true) | none => (⟨0, 0, 0, 0, 0, 0, 0, 0⟩, false)) else (⟨0, 0, 0, 0, 0, 0, 0, 0⟩, false)
theorem row_at {ps : List PairV} {i : Nat} {p : PairV} (h : ps[i]? = some p) : (ps.map rowOf)[i]? = some [.int .i64 p.1, .int .i64 p.2.id, .int .i64 p.2.kind, .int .i64 p.2.src, .int .i64 p.2.dst, .int .i64 p.2.car, .int .i64 p.2.state, .int .i64 p.2.owner, .int .i64 p.2.born] := by rw [List.getElem?_map, h]; rfl
theorem getC (room : Int) (a : Option Addr) (c : Nat) (ps : List PairV) (k : KeyV) (w : World) (h : (rS a c 9 (ps.map rowOf)).holds w) (hs : Sorted ps) (hb : ps.length ≤ 1000000) :
    Calls Try.prog 53 #[.agg #[.int .i64 room, .slice a ps.length c], .int .i64 k] w fun e w' => e = .returned (.tuple #[.agg #[.int .i64 (getV k ps).1.id, .int .i64 (getV k ps).1.kind, .int .i64 (getV k ps).1.src, .int .i64 (getV k ps).1.dst, .int .i64 (getV k ps).1.car, .int .i64 (getV k ps).1.state, .int .i64 (getV k ps).1.owner, .int .i64 (getV k ps).1.born], .bool (getV k ps).2]) ∧ Off [] w w' := by
  have H0 := Lib.hid (Hp.start [] w)
  have H := hp_old H0 h (by decide)
  clear H0
  rcases Bool.eq_false_or_eq_true (isV k ps) with q | q
  · obtain ⟨p, hp, _, hi⟩ := is_some q
    obtain ⟨y, rfl⟩ := some_of_row h (i := posV k ps) (by simpa using hi)
    have hg : getV k ps = (p.2, true) := by unfold getV; rw [if_pos q, hp]
    have HR := Lib.hid (row_at hp)
    rw [hg]
    clear h hp hg
    go_enter Try.func53, Try.ntmps53
    go_wp2_with (first
      | ((with_reducible apply g_mem); (focus (exact rfl)); first
      | ((with_reducible apply hpN_box 29 2 H); (focus (exact rfl)); (focus (exact rfl)); (focus (exact rfl)); (focus (exact rfl)); (focus (exact rfl)); intro w5 b2 H5; clear H; have H := H5; clear H5)
      | ((with_reducible apply hpN_alloc tyapi_Call 4 H); (focus (exact rfl)); (focus (exact rfl)); (focus (exact rfl)); intro w5 b4 H5; clear H; have H := H5; clear H5)
      | ((with_reducible apply hpN_alloc tyapi_Call 6 H); (focus (exact rfl)); (focus (exact rfl)); (focus (exact rfl)); intro w5 b6 H5; clear H; have H := H5; clear H5)
      | ((with_reducible apply hpA_load tyshelf_Shelf_int__api_Call_ H); (focus (exact rfl)); (focus (exact rfl)); (focus (first | (exact rfl) | (simp [Region.wanted]; done) | (simp only [Region.wanted]; go_simp; done))); (focus (repeat (first | exact List.Mem.head _ | apply List.Mem.tail))); (focus ((try simp only [List.drop_zero, List.drop_succ_cons, List.take_succ_cons, List.take_zero]); exact rfl)); (focus (exact rfl)))
      | ((with_reducible apply hpA_load tyapi_Call H); (focus (exact rfl)); (focus (exact rfl)); (focus (first | (exact rfl) | (simp [Region.wanted]; done) | (simp only [Region.wanted]; go_simp; done))); (focus (repeat (first | exact List.Mem.head _ | apply List.Mem.tail))); (focus ((try simp only [List.drop_zero, List.drop_succ_cons, List.take_succ_cons, List.take_zero]); exact rfl)); (focus (exact rfl)))
      | ((with_reducible apply hpA_store tyapi_Call H); (focus (exact rfl)); (focus (exact rfl)); (focus (exact rfl)); (focus (exact rfl)); (focus (exact rfl)); (focus (repeat (first | apply Put.head | apply Put.tail))); (focus (first | (simp; done) | (simp [Value.oneCell']; done))); (focus (first | (simp; done) | (simp [Value.oneCell']; done))); (focus ((try simp only [spl]); exact rfl)); (focus (exact rfl)); intro w5 H5; clear H; have H := H5; clear H5)
      | ((with_reducible apply hpA_load1 tyS_shelf_Pair_int_api_Call_ H); (focus (exact rfl)); (focus (exact rfl)); (focus (first | (exact rfl) | (simp [Region.wanted]; done) | (simp only [Region.wanted]; go_simp; done))); (focus (repeat (first | exact List.Mem.head _ | apply List.Mem.tail))); (focus ((try simp only [List.getElem?_cons_zero, List.getElem?_cons_succ]); exact rfl))))
      | (go_at_call 75; (with_reducible refine (findC room _ c ps k _ (hp_held H (by simp)) hs hb).mono ?_); rintro e w5 ⟨rfl, ho⟩; have H5 := Lib.hid (H.out.quiet ho); clear H ho; have H := H5; clear H5)
      | (go_at_call 75; (with_reducible refine (findC room _ c ps k _ (hp_held H (by simp)) hs hb).mono ?_); rintro e w5 ⟨rfl, ho⟩; have H5 := Lib.hid (H.out.quiet ho); clear H ho; have H := H5; clear H5)
      | ((with_reducible apply g_mem); (focus (exact rfl)); (with_reducible apply hpS_load tyshelf_Pair_int__api_Call_ H); (focus (exact rfl)); (focus (exact rfl)); (focus (first | (exact rfl) | (simp [Region.wanted]; done) | (simp only [Region.wanted]; go_simp; done))); (focus (repeat (first | exact List.Mem.head _ | apply List.Mem.tail))); (focus (exact HR.out)); (focus (exact rfl)))
      | ((with_reducible apply g_mem); (focus (exact rfl)); (with_reducible apply hpS_loadk 1 tyapi_Call H); (focus (exact rfl)); (focus (exact rfl)); (focus (first | (exact rfl) | (simp [Region.wanted]; done) | (simp only [Region.wanted]; go_simp; done))); (focus (repeat (first | exact List.Mem.head _ | apply List.Mem.tail))); (focus (exact HR.out)); (focus (exact rfl)); (focus (exact rfl)); (focus (first | exact rfl | (simp [Addr.add]; done)))))
    (try simp only [Exit.inBlock, Exit.then])
    apply hp_ret_ct tyapi_Call H
    · exact rfl
    · exact rfl
    · exact rfl
    · exact rfl
    · (repeat (first | exact List.Mem.head _ | apply List.Mem.tail))
    · exact rfl
    · exact ⟨rfl, H.out.off⟩
  · have hg : getV k ps = (⟨0, 0, 0, 0, 0, 0, 0, 0⟩, false) := by unfold getV; rw [if_neg (by simp [q])]
    rw [hg]
    clear h hg
    go_enter Try.func53, Try.ntmps53
    go_wp2_with (first
      | ((with_reducible apply g_mem); (focus (exact rfl)); first
      | ((with_reducible apply hpN_box 29 2 H); (focus (exact rfl)); (focus (exact rfl)); (focus (exact rfl)); (focus (exact rfl)); (focus (exact rfl)); intro w5 b2 H5; clear H; have H := H5; clear H5)
      | ((with_reducible apply hpN_alloc tyapi_Call 4 H); (focus (exact rfl)); (focus (exact rfl)); (focus (exact rfl)); intro w5 b4 H5; clear H; have H := H5; clear H5)
      | ((with_reducible apply hpN_alloc tyapi_Call 6 H); (focus (exact rfl)); (focus (exact rfl)); (focus (exact rfl)); intro w5 b6 H5; clear H; have H := H5; clear H5)
      | ((with_reducible apply hpA_load tyshelf_Shelf_int__api_Call_ H); (focus (exact rfl)); (focus (exact rfl)); (focus (first | (exact rfl) | (simp [Region.wanted]; done) | (simp only [Region.wanted]; go_simp; done))); (focus (repeat (first | exact List.Mem.head _ | apply List.Mem.tail))); (focus ((try simp only [List.drop_zero, List.drop_succ_cons, List.take_succ_cons, List.take_zero]); exact rfl)); (focus (exact rfl)))
      | ((with_reducible apply hpA_load tyapi_Call H); (focus (exact rfl)); (focus (exact rfl)); (focus (first | (exact rfl) | (simp [Region.wanted]; done) | (simp only [Region.wanted]; go_simp; done))); (focus (repeat (first | exact List.Mem.head _ | apply List.Mem.tail))); (focus ((try simp only [List.drop_zero, List.drop_succ_cons, List.take_succ_cons, List.take_zero]); exact rfl)); (focus (exact rfl)))
      | ((with_reducible apply hpA_store tyapi_Call H); (focus (exact rfl)); (focus (exact rfl)); (focus (exact rfl)); (focus (exact rfl)); (focus (exact rfl)); (focus (repeat (first | apply Put.head | apply Put.tail))); (focus (first | (simp; done) | (simp [Value.oneCell']; done))); (focus (first | (simp; done) | (simp [Value.oneCell']; done))); (focus ((try simp only [spl]); exact rfl)); (focus (exact rfl)); intro w5 H5; clear H; have H := H5; clear H5)
      | ((with_reducible apply hpA_load1 tyS_shelf_Pair_int_api_Call_ H); (focus (exact rfl)); (focus (exact rfl)); (focus (first | (exact rfl) | (simp [Region.wanted]; done) | (simp only [Region.wanted]; go_simp; done))); (focus (repeat (first | exact List.Mem.head _ | apply List.Mem.tail))); (focus ((try simp only [List.getElem?_cons_zero, List.getElem?_cons_succ]); exact rfl))))
      | (go_at_call 75; (with_reducible refine (findC room _ c ps k _ (hp_held H (by simp)) hs hb).mono ?_); rintro e w5 ⟨rfl, ho⟩; have H5 := Lib.hid (H.out.quiet ho); clear H ho; have H := H5; clear H5)
      | (go_at_call 75; (with_reducible refine (findC room _ c ps k _ (hp_held H (by simp)) hs hb).mono ?_); rintro e w5 ⟨rfl, ho⟩; have H5 := Lib.hid (H.out.quiet ho); clear H ho; have H := H5; clear H5)
      | ((with_reducible apply g_mem); (focus (exact rfl)); (with_reducible apply hpS_load tyshelf_Pair_int__api_Call_ H); (focus (exact rfl)); (focus (exact rfl)); (focus (first | (exact rfl) | (simp [Region.wanted]; done) | (simp only [Region.wanted]; go_simp; done))); (focus (repeat (first | exact List.Mem.head _ | apply List.Mem.tail))); (focus (exact HR.out)); (focus (exact rfl)))
      | ((with_reducible apply g_mem); (focus (exact rfl)); (with_reducible apply hpS_loadk 1 tyapi_Call H); (focus (exact rfl)); (focus (exact rfl)); (focus (first | (exact rfl) | (simp [Region.wanted]; done) | (simp only [Region.wanted]; go_simp; done))); (focus (repeat (first | exact List.Mem.head _ | apply List.Mem.tail))); (focus (exact HR.out)); (focus (exact rfl)); (focus (exact rfl)); (focus (first | exact rfl | (simp [Addr.add]; done)))))
    (try simp only [Exit.inBlock, Exit.then])
    apply hp_ret_ct tyapi_Call H
    · exact rfl
    · exact rfl
    · exact rfl
    · exact rfl
    · (repeat (first | exact List.Mem.head _ | apply List.Mem.tail))
    · exact rfl
    · exact ⟨rfl, H.out.off⟩
theorem listC (room : Int) (a : Option Addr) (c : Nat) (ps : List PairV) (w : World) (h : (rS a c 9 (ps.map rowOf)).holds w) (hb : ps.length ≤ 1000000) :
    Calls Try.prog 43 #[.agg #[.int .i64 room, .slice a ps.length c]] w fun e w' => ∃ a' c', e = .returned (.slice a' ps.length c') ∧ Gives w w' [] a' c' ps := by
  have H0 := Lib.hid (Hp.start [] w)
  have H := hp_old H0 h (by decide)
  clear H0 h
  go_enter Try.func43, Try.ntmps43
  go_wp2_with (first
    | ((with_reducible apply g_mem); (focus (exact rfl)); first
      | ((with_reducible apply hpN_box 29 1 H); (focus (exact rfl)); (focus (exact rfl)); (focus (exact rfl)); (focus (exact rfl)); (focus (exact rfl)); intro w5 b1 H5; clear H; have H := H5; clear H5)
      | ((with_reducible apply hpA_load1 tyS_shelf_Pair_int_api_Call_ H); (focus (exact rfl)); (focus (exact rfl)); (focus (first | (exact rfl) | (simp [Region.wanted]; done) | (simp only [Region.wanted]; go_simp; done))); (focus (repeat (first | exact List.Mem.head _ | apply List.Mem.tail))); (focus ((try simp only [List.getElem?_cons_zero, List.getElem?_cons_succ]); exact rfl))))
    | (go_at_call 66; (refine (cloneP _ c ps _ (hp_held H (by simp)) hb).mono ?_); rintro e w5 ⟨a5, c5, rfl, hA5, hf5, ho⟩; have H5 := hp_gotA H ho hA5 hf5; clear H ho hA5 hf5; have H := H5; clear H5)
    | ((with_reducible apply g_mem); (focus (exact rfl)); (with_reducible apply hpS_load tyshelf_Pair_int__api_Call_ H); (focus (exact rfl)); (focus (exact rfl)); (focus (first | (exact rfl) | (simp [Region.wanted]; done) | (simp only [Region.wanted]; go_simp; done))); (focus (repeat (first | exact List.Mem.head _ | apply List.Mem.tail))); (focus (exact HR.out)); (focus (exact rfl)))
    | ((with_reducible apply g_mem); (focus (exact rfl)); (with_reducible apply hpS_loadk 1 tyapi_Call H); (focus (exact rfl)); (focus (exact rfl)); (focus (first | (exact rfl) | (simp [Region.wanted]; done) | (simp only [Region.wanted]; go_simp; done))); (focus (repeat (first | exact List.Mem.head _ | apply List.Mem.tail))); (focus (exact HR.out)); (focus (exact rfl)); (focus (exact rfl)); (focus (first | exact rfl | (simp [Addr.add]; done)))))
  go_ret
  exact ⟨a5, c5, rfl, (hp_from H (List.mem_cons_self ..) []).1, (hp_from H (List.mem_cons_self ..) []).2, H.out.off⟩
/-- what a predicate says (under a name that the walk takes for a rule) -/
def asks (f : PairV → Bool) (p : PairV) : Bool := f p
theorem row_one (p : PairV) : ∀ u ∈ rowOf p, u.oneCell' = true := by simp [rowOf, Value.oneCell']
end Go.Proofs.Ytnanihffljpdbaa.Sc6
