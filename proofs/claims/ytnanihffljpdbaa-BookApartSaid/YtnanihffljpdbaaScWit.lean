/- Shelves, at one instance: one pair more. -/
import Derived.Test.YtnanihffljpdbaaProg
import Derived.Below
import Derived.WalkKit
import Derived.KernelRfl
import Derived.RowKit3
import Derived.Deep.LoopGhost
import Derived.Deep.QuietTactic
import Derived.BigQuiet
import Derived.WideLaws
import Derived.Deep.DeepCutAuto
import Derived.Deep.CutBlock
import Derived.Lib.Hide
import Derived.Laws.BitsLemmas
import Derived.Laws.Bits64
import Derived.Laws.BitsAllLaws
import Derived.IntWalk
import Derived.Outline
import Derived.WalkSpells
import Derived.Test.YtnanihffljpdbaaMem
import Derived.Test.YtnanihffljpdbaaScMtw
import Derived.Deep.RegionHeld3
namespace Go.Proofs.Ytnanihffljpdbaa.Sc6
set_option linter.unusedVariables false
set_option linter.unusedSimpArgs false
open Go.RowKit Go.Proofs.Ytnanihffljpdbaa.Mem

set_option maxRecDepth 20000
set_option maxHeartbeats 16000000

theorem with_is {room : Int} {k : KeyV} {v : Ca.CallV} {ps : List PairV} (h : isV k ps = true) : withV room k v ps = (ps.set (posV k ps) (k, v), true) := by unfold withV; rw [if_pos h]
theorem with_full {room : Int} {k : KeyV} {v : Ca.CallV} {ps : List PairV} (h : isV k ps = false) (h2 : ((ps.length : Int) == room) = true) : withV room k v ps = (ps, false) := by unfold withV; rw [if_neg (by simp [h]), if_pos h2]
theorem with_new {room : Int} {k : KeyV} {v : Ca.CallV} {ps : List PairV} (h : isV k ps = false) (h2 : ((ps.length : Int) == room) = false) : withV room k v ps = (insAt ps (posV k ps) (k, v), true) := by unfold withV; rw [if_neg (by simp [h]), if_neg (by simp at h2; simp [h2])]
theorem with1 (room : Int) (a : Option Addr) (c : Nat) (ps : List PairV) (k : KeyV) (v : Ca.CallV) (w : World) (h : (rS a c 9 (ps.map rowOf)).holds w) (hs : Sorted ps) (hb : ps.length ≤ 1000000) (q : isV k ps = true) :
    Calls Try.prog 69 #[.agg #[.int .i64 room, .slice a ps.length c], .int .i64 k, .agg #[.int .i64 v.id, .int .i64 v.kind, .int .i64 v.src, .int .i64 v.dst, .int .i64 v.car, .int .i64 v.state, .int .i64 v.owner, .int .i64 v.born]] w fun e w' => ∃ a' c', e = .returned (.tuple #[.agg #[.int .i64 room, .slice a' ps.length c'], .bool true]) ∧ Gives w w' [rS a c 9 (ps.map rowOf)] a' c' (ps.set (posV k ps) (k, v)) := by
  have H0 := Lib.hid (Hp.start [] w)
  have H := hp_old H0 h (by decide)
  clear H0 h
  obtain ⟨_, _, _, hi⟩ := is_some q
  have hne : ps ≠ [] := by intro e; rw [e] at hi; simp at hi
  have hil : posV k ps < (ps.map rowOf).length := by simpa using hi
  have hcells : (Value.agg #[.int .i64 k, .int .i64 v.id, .int .i64 v.kind, .int .i64 v.src, .int .i64 v.dst, .int .i64 v.car, .int .i64 v.state, .int .i64 v.owner, .int .i64 v.born]).cells = (rowOf (k, v)).toArray := rfl
  have hone := row_one (k, v)
  have HI := Lib.hid hil
  have HO := Lib.hid hone
  have HCE := Lib.hid hcells
  clear hone hcells hil
  go_enter Try.func69, Try.ntmps69
  go_wp2_with (first
    | ((with_reducible apply g_mem); (focus (exact rfl)); first
      | ((with_reducible apply hpN_box 29 3 H); (focus (exact rfl)); (focus (exact rfl)); (focus (exact rfl)); (focus (exact rfl)); (focus (exact rfl)); intro w5 b3 H5; clear H; have H := H5; clear H5)
      | ((with_reducible apply hpN_box 38 5 H); (focus (exact rfl)); (focus (exact rfl)); (focus (exact rfl)); (focus (exact rfl)); (focus (exact rfl)); intro w5 b5 H5; clear H; have H := H5; clear H5)
      | ((with_reducible apply hpN_alloc tyshelf_Shelf_int__api_Call_ 6 H); (focus (exact rfl)); (focus (exact rfl)); (focus (exact rfl)); intro w5 b6 H5; clear H; have H := H5; clear H5)
      | ((with_reducible apply hpA_load tyshelf_Shelf_int__api_Call_ H); (focus (exact rfl)); (focus (exact rfl)); (focus (first | (exact rfl) | (simp [Region.wanted]; done) | (simp only [Region.wanted]; go_simp; done))); (focus (repeat (first | exact List.Mem.head _ | apply List.Mem.tail))); (focus ((try simp only [List.drop_zero, List.drop_succ_cons, List.take_succ_cons, List.take_zero]); exact rfl)); (focus (exact rfl)))
      | ((with_reducible apply hpA_load tyapi_Call H); (focus (exact rfl)); (focus (exact rfl)); (focus (first | (exact rfl) | (simp [Region.wanted]; done) | (simp only [Region.wanted]; go_simp; done))); (focus (repeat (first | exact List.Mem.head _ | apply List.Mem.tail))); (focus ((try simp only [List.drop_zero, List.drop_succ_cons, List.take_succ_cons, List.take_zero]); exact rfl)); (focus (exact rfl)))
      | ((with_reducible apply hpN_alloc tyshelf_Pair_int__api_Call_ 10 H); (focus (exact rfl)); (focus (exact rfl)); (focus (exact rfl)); intro w5 b10 H5; clear H; have H := H5; clear H5)
      | ((with_reducible apply hpA_store tyshelf_Pair_int__api_Call_ H); (focus (exact rfl)); (focus (exact rfl)); (focus (exact rfl)); (focus (exact rfl)); (focus (exact rfl)); (focus (repeat (first | apply Put.head | apply Put.tail))); (focus (first | (simp; done) | (simp [Value.oneCell']; done))); (focus (first | (simp; done) | (simp [Value.oneCell']; done))); (focus ((try simp only [spl]); exact rfl)); (focus (exact rfl)); intro w5 H5; clear H; have H := H5; clear H5)
      | ((with_reducible apply hpA_load1 tyS_shelf_Pair_int_api_Call_ H); (focus (exact rfl)); (focus (exact rfl)); (focus (first | (exact rfl) | (simp [Region.wanted]; done) | (simp only [Region.wanted]; go_simp; done))); (focus (repeat (first | exact List.Mem.head _ | apply List.Mem.tail))); (focus ((try simp only [List.getElem?_cons_zero, List.getElem?_cons_succ]); exact rfl)))
      | ((with_reducible apply hpA_load tyshelf_Pair_int__api_Call_ H); (focus (exact rfl)); (focus (exact rfl)); (focus (first | (exact rfl) | (simp [Region.wanted]; done) | (simp only [Region.wanted]; go_simp; done))); (focus (repeat (first | exact List.Mem.head _ | apply List.Mem.tail))); (focus ((try simp only [List.drop_zero, List.drop_succ_cons, List.take_succ_cons, List.take_zero]); exact rfl)); (focus (exact rfl)))
      | ((with_reducible apply hpA_load1 tyint H); (focus (exact rfl)); (focus (exact rfl)); (focus (first | (exact rfl) | (simp [Region.wanted]; done) | (simp only [Region.wanted]; go_simp; done))); (focus (repeat (first | exact List.Mem.head _ | apply List.Mem.tail))); (focus ((try simp only [List.getElem?_cons_zero, List.getElem?_cons_succ]); exact rfl)))
      | ((with_reducible apply hpA_store tyshelf_Shelf_int__api_Call_ H); (focus (exact rfl)); (focus (exact rfl)); (focus (exact rfl)); (focus (exact rfl)); (focus (exact rfl)); (focus (repeat (first | apply Put.head | apply Put.tail))); (focus (first | (simp; done) | (simp [Value.oneCell']; done))); (focus (first | (simp; done) | (simp [Value.oneCell']; done))); (focus ((try simp only [spl]); exact rfl)); (focus (exact rfl)); intro w5 H5; clear H; have H := H5; clear H5)
      | ((with_reducible apply hpN_bslice Try.underlying27 tyshelf_Pair_int__api_Call_ 47 H); (focus (exact rfl)); (focus (exact rfl)); (focus (first | (exact rfl) | (simp [Region.wanted]; done) | (simp only [Region.wanted]; go_simp; done))); (focus (first | decide | (simp; done))); (focus (first | decide | (simp; done))); (focus (first | (go_simp; exact rfl) | exact rfl)); intro w5 b47 H5; clear H; have H := H5; clear H5))
    | (go_at_call 75; (with_reducible refine (findC room _ c ps k _ (hp_held H (by simp)) hs hb).mono ?_); rintro e w5 ⟨rfl, ho⟩; have H5 := Lib.hid (H.out.quiet ho); clear H ho; have H := H5; clear H5)
    | (go_at_call 75; (with_reducible refine (findC room _ c ps k _ (hp_held H (by simp)) hs hb).mono ?_); rintro e w5 ⟨rfl, ho⟩; have H5 := Lib.hid (H.out.quiet ho); clear H ho; have H := H5; clear H5)
    | (go_at_call 75; (with_reducible refine (findC room _ c ps k _ (hp_held H (by simp)) hs hb).mono ?_); rintro e w5 ⟨rfl, ho⟩; have H5 := Lib.hid (H.out.quiet ho); clear H ho; have H := H5; clear H5)
    | (go_at_call 66; (refine (cloneN _ c ps _ (hp_held H (by simp)) hb hne).mono ?_); rintro e w5 ⟨bN, c5, rfl, hA5, hf5, ho⟩; have H5 := hp_gotA H ho hA5 (by simpa [footA] using hf5); clear H ho hA5 hf5; have H := H5; clear H5)
    | (go_at_call 66; (refine (cloneP _ c ps _ (hp_held H (by simp)) hb).mono ?_); rintro e w5 ⟨a5, c5, rfl, hA5, hf5, ho⟩; have H5 := hp_gotA H ho hA5 hf5; clear H ho hA5 hf5; have H := H5; clear H5)
    | ((with_reducible apply g_mem); (focus (exact rfl)); (refine hp_rowstore (i := posV k ps) (j := 0) (r := rowOf (k, v)) tyshelf_Pair_int__api_Call_ H rfl rfl rfl (by rw [Addr.add_lit, Nat.zero_add]) rfl HCE.out ⟨rfl, HO.out⟩ rfl HI.out ?_); intro w5 H5; clear H; have H := H5; clear H5)
    | ((with_reducible apply g_mem); (focus (exact rfl)); (with_reducible apply hpS_load tyshelf_Pair_int__api_Call_ H); (focus (exact rfl)); (focus (exact rfl)); (focus (first | (exact rfl) | (simp [Region.wanted]; done) | (simp only [Region.wanted]; go_simp; done))); (focus (repeat (first | exact List.Mem.head _ | apply List.Mem.tail))); (focus (exact HR.out)); (focus (exact rfl)))
    | ((with_reducible apply g_mem); (focus (exact rfl)); (with_reducible apply hpS_loadk 1 tyapi_Call H); (focus (exact rfl)); (focus (exact rfl)); (focus (first | (exact rfl) | (simp [Region.wanted]; done) | (simp only [Region.wanted]; go_simp; done))); (focus (repeat (first | exact List.Mem.head _ | apply List.Mem.tail))); (focus (exact HR.out)); (focus (exact rfl)); (focus (exact rfl)); (focus (first | exact rfl | (simp [Addr.add]; done))))
    | ((with_reducible apply g_region 9); obtain ⟨Sx, hS0, hSH, hSd, hSq⟩ := Hp.pack2 H; (apply Hp.useCell2 hSH b3 0; (focus (repeat (first | exact List.Mem.head _ | apply List.Mem.tail))); (focus ((try simp only [List.getElem?_cons_zero, List.getElem?_cons_succ]); exact rfl)); intro hC0); (apply Hp.useCell2 hSH b3 1; (focus (repeat (first | exact List.Mem.head _ | apply List.Mem.tail))); (focus ((try simp only [List.getElem?_cons_zero, List.getElem?_cons_succ]); exact rfl)); intro hC1); (apply Hp.useCell2 hSH b10 0; (focus (repeat (first | exact List.Mem.head _ | apply List.Mem.tail))); (focus ((try simp only [List.getElem?_cons_zero, List.getElem?_cons_succ]); exact rfl)); intro hC2); (apply Hp.useCell2 hSH b10 1; (focus (repeat (first | exact List.Mem.head _ | apply List.Mem.tail))); (focus ((try simp only [List.getElem?_cons_zero, List.getElem?_cons_succ]); exact rfl)); intro hC3); (apply Hp.useCell2 hSH b10 2; (focus (repeat (first | exact List.Mem.head _ | apply List.Mem.tail))); (focus ((try simp only [List.getElem?_cons_zero, List.getElem?_cons_succ]); exact rfl)); intro hC4); (apply Hp.useCell2 hSH b10 3; (focus (repeat (first | exact List.Mem.head _ | apply List.Mem.tail))); (focus ((try simp only [List.getElem?_cons_zero, List.getElem?_cons_succ]); exact rfl)); intro hC5); (apply Hp.useCell2 hSH b10 4; (focus (repeat (first | exact List.Mem.head _ | apply List.Mem.tail))); (focus ((try simp only [List.getElem?_cons_zero, List.getElem?_cons_succ]); exact rfl)); intro hC6); (apply Hp.useCell2 hSH b10 5; (focus (repeat (first | exact List.Mem.head _ | apply List.Mem.tail))); (focus ((try simp only [List.getElem?_cons_zero, List.getElem?_cons_succ]); exact rfl)); intro hC7); (apply Hp.useCell2 hSH b10 6; (focus (repeat (first | exact List.Mem.head _ | apply List.Mem.tail))); (focus ((try simp only [List.getElem?_cons_zero, List.getElem?_cons_succ]); exact rfl)); intro hC8); (apply Hp.useCell2 hSH b10 7; (focus (repeat (first | exact List.Mem.head _ | apply List.Mem.tail))); (focus ((try simp only [List.getElem?_cons_zero, List.getElem?_cons_succ]); exact rfl)); intro hC9); (apply Hp.useCell2 hSH b10 8; (focus (repeat (first | exact List.Mem.head _ | apply List.Mem.tail))); (focus ((try simp only [List.getElem?_cons_zero, List.getElem?_cons_succ]); exact rfl)); intro hC10); go_region_held3 (Keeps Sx) (first | exact hS0 | with_reducible assumption | exact hSd _ (by assumption) | exact hSq _ _ (by assumption) (by assumption)) (first | (go_at_call 66; (refine (cloneN _ c ps _ (hp_held H (by simp)) hb hne).mono ?_); rintro e w5 ⟨bN, c5, rfl, hA5, hf5, ho⟩; have H5 := hp_gotA H ho hA5 (by simpa [footA] using hf5); clear H ho hA5 hf5; have H := H5; clear H5) | (go_at_call 66; (refine (cloneP _ c ps _ (hp_held H (by simp)) hb).mono ?_); rintro e w5 ⟨a5, c5, rfl, hA5, hf5, ho⟩; have H5 := hp_gotA H ho hA5 hf5; clear H ho hA5 hf5; have H := H5; clear H5)); clear H hS0; have H := Lib.hid (hSH _ (by assumption))))
  (try simp only [Exit.inBlock, Exit.then])
  apply hp_ret_ct tyshelf_Shelf_int__api_Call_ H
  · exact rfl
  · exact rfl
  · exact rfl
  · exact rfl
  · (repeat (first | exact List.Mem.head _ | apply List.Mem.tail))
  · exact rfl
  · exact ⟨some ⟨bN, 0, none⟩, c5, rfl, by rw [List.map_set]; exact (hp_from (e := 97) H (by simp) []).1, fun q hq => .inl (by rw [List.map_set] at hq; exact (by simpa using (hp_from (e := 97) H (by simp) []).2 q hq)), H.out.off⟩
theorem with2 (room : Int) (a : Option Addr) (c : Nat) (ps : List PairV) (k : KeyV) (v : Ca.CallV) (w : World) (h : (rS a c 9 (ps.map rowOf)).holds w) (hs : Sorted ps) (hb : ps.length ≤ 1000000) (q : isV k ps = false) (q2 : ((ps.length : Int) == room) = true) :
    Calls Try.prog 69 #[.agg #[.int .i64 room, .slice a ps.length c], .int .i64 k, .agg #[.int .i64 v.id, .int .i64 v.kind, .int .i64 v.src, .int .i64 v.dst, .int .i64 v.car, .int .i64 v.state, .int .i64 v.owner, .int .i64 v.born]] w fun e w' => ∃ a' c', e = .returned (.tuple #[.agg #[.int .i64 room, .slice a' ps.length c'], .bool false]) ∧ Gives w w' [rS a c 9 (ps.map rowOf)] a' c' ps := by
  have H0 := Lib.hid (Hp.start [] w)
  have H := hp_old H0 h (by decide)
  clear H0 h
  go_enter Try.func69, Try.ntmps69
  go_wp2_with (first
    | ((with_reducible apply g_mem); (focus (exact rfl)); first
      | ((with_reducible apply hpN_box 29 3 H); (focus (exact rfl)); (focus (exact rfl)); (focus (exact rfl)); (focus (exact rfl)); (focus (exact rfl)); intro w5 b3 H5; clear H; have H := H5; clear H5)
      | ((with_reducible apply hpN_box 38 5 H); (focus (exact rfl)); (focus (exact rfl)); (focus (exact rfl)); (focus (exact rfl)); (focus (exact rfl)); intro w5 b5 H5; clear H; have H := H5; clear H5)
      | ((with_reducible apply hpN_alloc tyshelf_Shelf_int__api_Call_ 6 H); (focus (exact rfl)); (focus (exact rfl)); (focus (exact rfl)); intro w5 b6 H5; clear H; have H := H5; clear H5)
      | ((with_reducible apply hpA_load tyshelf_Shelf_int__api_Call_ H); (focus (exact rfl)); (focus (exact rfl)); (focus (first | (exact rfl) | (simp [Region.wanted]; done) | (simp only [Region.wanted]; go_simp; done))); (focus (repeat (first | exact List.Mem.head _ | apply List.Mem.tail))); (focus ((try simp only [List.drop_zero, List.drop_succ_cons, List.take_succ_cons, List.take_zero]); exact rfl)); (focus (exact rfl)))
      | ((with_reducible apply hpA_load tyapi_Call H); (focus (exact rfl)); (focus (exact rfl)); (focus (first | (exact rfl) | (simp [Region.wanted]; done) | (simp only [Region.wanted]; go_simp; done))); (focus (repeat (first | exact List.Mem.head _ | apply List.Mem.tail))); (focus ((try simp only [List.drop_zero, List.drop_succ_cons, List.take_succ_cons, List.take_zero]); exact rfl)); (focus (exact rfl)))
      | ((with_reducible apply hpN_alloc tyshelf_Pair_int__api_Call_ 10 H); (focus (exact rfl)); (focus (exact rfl)); (focus (exact rfl)); intro w5 b10 H5; clear H; have H := H5; clear H5)
      | ((with_reducible apply hpA_store tyshelf_Pair_int__api_Call_ H); (focus (exact rfl)); (focus (exact rfl)); (focus (exact rfl)); (focus (exact rfl)); (focus (exact rfl)); (focus (repeat (first | apply Put.head | apply Put.tail))); (focus (first | (simp; done) | (simp [Value.oneCell']; done))); (focus (first | (simp; done) | (simp [Value.oneCell']; done))); (focus ((try simp only [spl]); exact rfl)); (focus (exact rfl)); intro w5 H5; clear H; have H := H5; clear H5)
      | ((with_reducible apply hpA_load1 tyS_shelf_Pair_int_api_Call_ H); (focus (exact rfl)); (focus (exact rfl)); (focus (first | (exact rfl) | (simp [Region.wanted]; done) | (simp only [Region.wanted]; go_simp; done))); (focus (repeat (first | exact List.Mem.head _ | apply List.Mem.tail))); (focus ((try simp only [List.getElem?_cons_zero, List.getElem?_cons_succ]); exact rfl)))
      | ((with_reducible apply hpA_load tyshelf_Pair_int__api_Call_ H); (focus (exact rfl)); (focus (exact rfl)); (focus (first | (exact rfl) | (simp [Region.wanted]; done) | (simp only [Region.wanted]; go_simp; done))); (focus (repeat (first | exact List.Mem.head _ | apply List.Mem.tail))); (focus ((try simp only [List.drop_zero, List.drop_succ_cons, List.take_succ_cons, List.take_zero]); exact rfl)); (focus (exact rfl)))
      | ((with_reducible apply hpA_load1 tyint H); (focus (exact rfl)); (focus (exact rfl)); (focus (first | (exact rfl) | (simp [Region.wanted]; done) | (simp only [Region.wanted]; go_simp; done))); (focus (repeat (first | exact List.Mem.head _ | apply List.Mem.tail))); (focus ((try simp only [List.getElem?_cons_zero, List.getElem?_cons_succ]); exact rfl)))
      | ((with_reducible apply hpA_store tyshelf_Shelf_int__api_Call_ H); (focus (exact rfl)); (focus (exact rfl)); (focus (exact rfl)); (focus (exact rfl)); (focus (exact rfl)); (focus (repeat (first | apply Put.head | apply Put.tail))); (focus (first | (simp; done) | (simp [Value.oneCell']; done))); (focus (first | (simp; done) | (simp [Value.oneCell']; done))); (focus ((try simp only [spl]); exact rfl)); (focus (exact rfl)); intro w5 H5; clear H; have H := H5; clear H5)
      | ((with_reducible apply hpN_bslice Try.underlying27 tyshelf_Pair_int__api_Call_ 47 H); (focus (exact rfl)); (focus (exact rfl)); (focus (first | (exact rfl) | (simp [Region.wanted]; done) | (simp only [Region.wanted]; go_simp; done))); (focus (first | decide | (simp; done))); (focus (first | decide | (simp; done))); (focus (first | (go_simp; exact rfl) | exact rfl)); intro w5 b47 H5; clear H; have H := H5; clear H5))
    | (go_at_call 75; (with_reducible refine (findC room _ c ps k _ (hp_held H (by simp)) hs hb).mono ?_); rintro e w5 ⟨rfl, ho⟩; have H5 := Lib.hid (H.out.quiet ho); clear H ho; have H := H5; clear H5)
    | (go_at_call 75; (with_reducible refine (findC room _ c ps k _ (hp_held H (by simp)) hs hb).mono ?_); rintro e w5 ⟨rfl, ho⟩; have H5 := Lib.hid (H.out.quiet ho); clear H ho; have H := H5; clear H5)
    | (go_at_call 75; (with_reducible refine (findC room _ c ps k _ (hp_held H (by simp)) hs hb).mono ?_); rintro e w5 ⟨rfl, ho⟩; have H5 := Lib.hid (H.out.quiet ho); clear H ho; have H := H5; clear H5)
    | (go_at_call 75; (with_reducible refine (findC room _ c ps k _ (hp_held H (by simp)) hs hb).mono ?_); rintro e w5 ⟨rfl, ho⟩; have H5 := Lib.hid (H.out.quiet ho); clear H ho; have H := H5; clear H5)
    | (go_at_call 66; (refine (cloneP _ c ps _ (hp_held H (by simp)) hb).mono ?_); rintro e w5 ⟨a5, c5, rfl, hA5, hf5, ho⟩; have H5 := hp_gotA H ho hA5 hf5; clear H ho hA5 hf5; have H := H5; clear H5)
    | (go_at_call 66; (refine (cloneP _ c ps _ (hp_held H (by simp)) hb).mono ?_); rintro e w5 ⟨a5, c5, rfl, hA5, hf5, ho⟩; have H5 := hp_gotA H ho hA5 hf5; clear H ho hA5 hf5; have H := H5; clear H5)
    | ((with_reducible apply g_mem); (focus (exact rfl)); (with_reducible apply hpS_load tyshelf_Pair_int__api_Call_ H); (focus (exact rfl)); (focus (exact rfl)); (focus (first | (exact rfl) | (simp [Region.wanted]; done) | (simp only [Region.wanted]; go_simp; done))); (focus (repeat (first | exact List.Mem.head _ | apply List.Mem.tail))); (focus (exact HR.out)); (focus (exact rfl)))
    | ((with_reducible apply g_mem); (focus (exact rfl)); (with_reducible apply hpS_loadk 1 tyapi_Call H); (focus (exact rfl)); (focus (exact rfl)); (focus (first | (exact rfl) | (simp [Region.wanted]; done) | (simp only [Region.wanted]; go_simp; done))); (focus (repeat (first | exact List.Mem.head _ | apply List.Mem.tail))); (focus (exact HR.out)); (focus (exact rfl)); (focus (exact rfl)); (focus (first | exact rfl | (simp [Addr.add]; done))))
    | ((with_reducible apply g_region 9); obtain ⟨Sx, hS0, hSH, hSd, hSq⟩ := Hp.pack2 H; (apply Hp.useCell2 hSH b3 0; (focus (repeat (first | exact List.Mem.head _ | apply List.Mem.tail))); (focus ((try simp only [List.getElem?_cons_zero, List.getElem?_cons_succ]); exact rfl)); intro hC0); (apply Hp.useCell2 hSH b3 1; (focus (repeat (first | exact List.Mem.head _ | apply List.Mem.tail))); (focus ((try simp only [List.getElem?_cons_zero, List.getElem?_cons_succ]); exact rfl)); intro hC1); (apply Hp.useCell2 hSH b10 0; (focus (repeat (first | exact List.Mem.head _ | apply List.Mem.tail))); (focus ((try simp only [List.getElem?_cons_zero, List.getElem?_cons_succ]); exact rfl)); intro hC2); (apply Hp.useCell2 hSH b10 1; (focus (repeat (first | exact List.Mem.head _ | apply List.Mem.tail))); (focus ((try simp only [List.getElem?_cons_zero, List.getElem?_cons_succ]); exact rfl)); intro hC3); (apply Hp.useCell2 hSH b10 2; (focus (repeat (first | exact List.Mem.head _ | apply List.Mem.tail))); (focus ((try simp only [List.getElem?_cons_zero, List.getElem?_cons_succ]); exact rfl)); intro hC4); (apply Hp.useCell2 hSH b10 3; (focus (repeat (first | exact List.Mem.head _ | apply List.Mem.tail))); (focus ((try simp only [List.getElem?_cons_zero, List.getElem?_cons_succ]); exact rfl)); intro hC5); (apply Hp.useCell2 hSH b10 4; (focus (repeat (first | exact List.Mem.head _ | apply List.Mem.tail))); (focus ((try simp only [List.getElem?_cons_zero, List.getElem?_cons_succ]); exact rfl)); intro hC6); (apply Hp.useCell2 hSH b10 5; (focus (repeat (first | exact List.Mem.head _ | apply List.Mem.tail))); (focus ((try simp only [List.getElem?_cons_zero, List.getElem?_cons_succ]); exact rfl)); intro hC7); (apply Hp.useCell2 hSH b10 6; (focus (repeat (first | exact List.Mem.head _ | apply List.Mem.tail))); (focus ((try simp only [List.getElem?_cons_zero, List.getElem?_cons_succ]); exact rfl)); intro hC8); (apply Hp.useCell2 hSH b10 7; (focus (repeat (first | exact List.Mem.head _ | apply List.Mem.tail))); (focus ((try simp only [List.getElem?_cons_zero, List.getElem?_cons_succ]); exact rfl)); intro hC9); (apply Hp.useCell2 hSH b10 8; (focus (repeat (first | exact List.Mem.head _ | apply List.Mem.tail))); (focus ((try simp only [List.getElem?_cons_zero, List.getElem?_cons_succ]); exact rfl)); intro hC10); go_region_held3 (Keeps Sx) (first | exact hS0 | with_reducible assumption | exact hSd _ (by assumption) | exact hSq _ _ (by assumption) (by assumption)) (first | (go_at_call 66; (refine (cloneP _ c ps _ (hp_held H (by simp)) hb).mono ?_); rintro e w5 ⟨a5, c5, rfl, hA5, hf5, ho⟩; have H5 := hp_gotA H ho hA5 hf5; clear H ho hA5 hf5; have H := H5; clear H5) | (go_at_call 66; (refine (cloneP _ c ps _ (hp_held H (by simp)) hb).mono ?_); rintro e w5 ⟨a5, c5, rfl, hA5, hf5, ho⟩; have H5 := hp_gotA H ho hA5 hf5; clear H ho hA5 hf5; have H := H5; clear H5)); clear H hS0; have H := Lib.hid (hSH _ (by assumption))))
  (try simp only [Exit.inBlock, Exit.then])
  apply hp_ret_ct tyshelf_Shelf_int__api_Call_ H
  · exact rfl
  · exact rfl
  · exact rfl
  · exact rfl
  · (repeat (first | exact List.Mem.head _ | apply List.Mem.tail))
  · exact rfl
  · exact ⟨a, c, rfl, hp_held H (by simp), fun q hq => .inr ⟨_, List.mem_cons_self .., rfl, hq⟩, H.out.off⟩

theorem with3 (room : Int) (a : Option Addr) (c : Nat) (ps : List PairV) (k : KeyV) (v : Ca.CallV) (w : World) (h : (rS a c 9 (ps.map rowOf)).holds w) (hs : Sorted ps) (hb : ps.length ≤ 1000000) (q : isV k ps = false) (q2 : ((ps.length : Int) == room) = false) :
    Calls Try.prog 69 #[.agg #[.int .i64 room, .slice a ps.length c], .int .i64 k, .agg #[.int .i64 v.id, .int .i64 v.kind, .int .i64 v.src, .int .i64 v.dst, .int .i64 v.car, .int .i64 v.state, .int .i64 v.owner, .int .i64 v.born]] w fun e w' => ∃ a' c', e = .returned (.tuple #[.agg #[.int .i64 room, .slice a' (insAt ps (posV k ps) (k, v)).length c'], .bool true]) ∧ Gives w w' [rS a c 9 (ps.map rowOf)] a' c' (insAt ps (posV k ps) (k, v)) := by
  have H0 := Lib.hid (Hp.start [] w)
  have H := hp_old H0 h (by decide)
  clear H0 h
  have hpos := pos_le k ps
  go_enter Try.func69, Try.ntmps69
  go_wp2_with (first
    | ((with_reducible apply g_mem); (focus (exact rfl)); first
      | ((with_reducible apply hpN_box 29 3 H); (focus (exact rfl)); (focus (exact rfl)); (focus (exact rfl)); (focus (exact rfl)); (focus (exact rfl)); intro w5 b3 H5; clear H; have H := H5; clear H5)
      | ((with_reducible apply hpN_box 38 5 H); (focus (exact rfl)); (focus (exact rfl)); (focus (exact rfl)); (focus (exact rfl)); (focus (exact rfl)); intro w5 b5 H5; clear H; have H := H5; clear H5)
      | ((with_reducible apply hpN_alloc tyshelf_Shelf_int__api_Call_ 6 H); (focus (exact rfl)); (focus (exact rfl)); (focus (exact rfl)); intro w5 b6 H5; clear H; have H := H5; clear H5)
      | ((with_reducible apply hpA_load tyshelf_Shelf_int__api_Call_ H); (focus (exact rfl)); (focus (exact rfl)); (focus (first | (exact rfl) | (simp [Region.wanted]; done) | (simp only [Region.wanted]; go_simp; done))); (focus (repeat (first | exact List.Mem.head _ | apply List.Mem.tail))); (focus ((try simp only [List.drop_zero, List.drop_succ_cons, List.take_succ_cons, List.take_zero]); exact rfl)); (focus (exact rfl)))
      | ((with_reducible apply hpA_load tyapi_Call H); (focus (exact rfl)); (focus (exact rfl)); (focus (first | (exact rfl) | (simp [Region.wanted]; done) | (simp only [Region.wanted]; go_simp; done))); (focus (repeat (first | exact List.Mem.head _ | apply List.Mem.tail))); (focus ((try simp only [List.drop_zero, List.drop_succ_cons, List.take_succ_cons, List.take_zero]); exact rfl)); (focus (exact rfl)))
      | ((with_reducible apply hpN_alloc tyshelf_Pair_int__api_Call_ 10 H); (focus (exact rfl)); (focus (exact rfl)); (focus (exact rfl)); intro w5 b10 H5; clear H; have H := H5; clear H5)
      | ((with_reducible apply hpA_store tyshelf_Pair_int__api_Call_ H); (focus (exact rfl)); (focus (exact rfl)); (focus (exact rfl)); (focus (exact rfl)); (focus (exact rfl)); (focus (repeat (first | apply Put.head | apply Put.tail))); (focus (first | (simp; done) | (simp [Value.oneCell']; done))); (focus (first | (simp; done) | (simp [Value.oneCell']; done))); (focus ((try simp only [spl]); exact rfl)); (focus (exact rfl)); intro w5 H5; clear H; have H := H5; clear H5)
      | ((with_reducible apply hpA_load1 tyS_shelf_Pair_int_api_Call_ H); (focus (exact rfl)); (focus (exact rfl)); (focus (first | (exact rfl) | (simp [Region.wanted]; done) | (simp only [Region.wanted]; go_simp; done))); (focus (repeat (first | exact List.Mem.head _ | apply List.Mem.tail))); (focus ((try simp only [List.getElem?_cons_zero, List.getElem?_cons_succ]); exact rfl)))
      | ((with_reducible apply hpA_load tyshelf_Pair_int__api_Call_ H); (focus (exact rfl)); (focus (exact rfl)); (focus (first | (exact rfl) | (simp [Region.wanted]; done) | (simp only [Region.wanted]; go_simp; done))); (focus (repeat (first | exact List.Mem.head _ | apply List.Mem.tail))); (focus ((try simp only [List.drop_zero, List.drop_succ_cons, List.take_succ_cons, List.take_zero]); exact rfl)); (focus (exact rfl)))
      | ((with_reducible apply hpA_load1 tyint H); (focus (exact rfl)); (focus (exact rfl)); (focus (first | (exact rfl) | (simp [Region.wanted]; done) | (simp only [Region.wanted]; go_simp; done))); (focus (repeat (first | exact List.Mem.head _ | apply List.Mem.tail))); (focus ((try simp only [List.getElem?_cons_zero, List.getElem?_cons_succ]); exact rfl)))
      | ((with_reducible apply hpA_store tyshelf_Shelf_int__api_Call_ H); (focus (exact rfl)); (focus (exact rfl)); (focus (exact rfl)); (focus (exact rfl)); (focus (exact rfl)); (focus (repeat (first | apply Put.head | apply Put.tail))); (focus (first | (simp; done) | (simp [Value.oneCell']; done))); (focus (first | (simp; done) | (simp [Value.oneCell']; done))); (focus ((try simp only [spl]); exact rfl)); (focus (exact rfl)); intro w5 H5; clear H; have H := H5; clear H5)
      | ((with_reducible apply hpN_bslice Try.underlying27 tyshelf_Pair_int__api_Call_ 47 H); (focus (exact rfl)); (focus (exact rfl)); (focus (first | (exact rfl) | (simp [Region.wanted]; done) | (simp only [Region.wanted]; go_simp; done))); (focus (first | decide | (simp; done))); (focus (first | decide | (simp; done))); (focus (first | (go_simp; exact rfl) | exact rfl)); intro w5 b47 H5; clear H; have H := H5; clear H5))
    | (go_at_call 75; (with_reducible refine (findC room _ c ps k _ (hp_held H (by simp)) hs hb).mono ?_); rintro e w5 ⟨rfl, ho⟩; have H5 := Lib.hid (H.out.quiet ho); clear H ho; have H := H5; clear H5)
    | (go_at_call 75; (with_reducible refine (findC room _ c ps k _ (hp_held H (by simp)) hs hb).mono ?_); rintro e w5 ⟨rfl, ho⟩; have H5 := Lib.hid (H.out.quiet ho); clear H ho; have H := H5; clear H5)
    | (go_at_call 75; (with_reducible refine (findC room _ c ps k _ (hp_held H (by simp)) hs hb).mono ?_); rintro e w5 ⟨rfl, ho⟩; have H5 := Lib.hid (H.out.quiet ho); clear H ho; have H := H5; clear H5)
    | (go_at_call 75; (with_reducible refine (findC room _ c ps k _ (hp_held H (by simp)) hs hb).mono ?_); rintro e w5 ⟨rfl, ho⟩; have H5 := Lib.hid (H.out.quiet ho); clear H ho; have H := H5; clear H5)
    | (go_at_call 75; (with_reducible refine (findC room _ c ps k _ (hp_held H (by simp)) hs hb).mono ?_); rintro e w5 ⟨rfl, ho⟩; have H5 := Lib.hid (H.out.quiet ho); clear H ho; have H := H5; clear H5)
    | (go_at_call 66; (refine (cloneP _ c ps _ (hp_held H (by simp)) hb).mono ?_); rintro e w5 ⟨a5, c5, rfl, hA5, hf5, ho⟩; have H5 := hp_gotA H ho hA5 hf5; clear H ho hA5 hf5; have H := H5; clear H5)
    | (go_at_call 66; (refine (cloneP _ c ps _ (hp_held H (by simp)) hb).mono ?_); rintro e w5 ⟨a5, c5, rfl, hA5, hf5, ho⟩; have H5 := hp_gotA H ho hA5 hf5; clear H ho hA5 hf5; have H := H5; clear H5)
    | (go_at_call 66; (refine (cloneP _ c ps _ (hp_held H (by simp)) hb).mono ?_); rintro e w5 ⟨a5, c5, rfl, hA5, hf5, ho⟩; have H5 := hp_gotA H ho hA5 hf5; clear H ho hA5 hf5; have H := H5; clear H5)
    | ((with_reducible apply g_mem); (focus (exact rfl)); (with_reducible apply hpS_load tyshelf_Pair_int__api_Call_ H); (focus (exact rfl)); (focus (exact rfl)); (focus (first | (exact rfl) | (simp [Region.wanted]; done) | (simp only [Region.wanted]; go_simp; done))); (focus (repeat (first | exact List.Mem.head _ | apply List.Mem.tail))); (focus (exact HR.out)); (focus (exact rfl)))
    | ((with_reducible apply g_mem); (focus (exact rfl)); (with_reducible apply hpS_loadk 1 tyapi_Call H); (focus (exact rfl)); (focus (exact rfl)); (focus (first | (exact rfl) | (simp [Region.wanted]; done) | (simp only [Region.wanted]; go_simp; done))); (focus (repeat (first | exact List.Mem.head _ | apply List.Mem.tail))); (focus (exact HR.out)); (focus (exact rfl)); (focus (exact rfl)); (focus (first | exact rfl | (simp [Addr.add]; done)))))
  have HX := hp_loose H 1 rfl
  clear H
  simp only [List.set_cons_zero, List.set_cons_succ, List.length_cons, List.length_nil, Nat.zero_add, Nat.reduceAdd] at HX
  obtain ⟨Sx, hS0, hSH, hSd, hSq, hSz, hSF, hSW⟩ := Hp.pack3 HX
  (apply Hp.useCell2 hSH b3 0; (focus (repeat (first | exact List.Mem.head _ | apply List.Mem.tail))); (focus ((try simp only [List.getElem?_cons_zero, List.getElem?_cons_succ]); exact rfl)); intro hC0)
  (apply Hp.useCell2 hSH b3 1; (focus (repeat (first | exact List.Mem.head _ | apply List.Mem.tail))); (focus ((try simp only [List.getElem?_cons_zero, List.getElem?_cons_succ]); exact rfl)); intro hC1)
  (apply Hp.useCell2 hSH b10 0; (focus (repeat (first | exact List.Mem.head _ | apply List.Mem.tail))); (focus ((try simp only [List.getElem?_cons_zero, List.getElem?_cons_succ]); exact rfl)); intro hD0)
  (apply Hp.useCell2 hSH b10 1; (focus (repeat (first | exact List.Mem.head _ | apply List.Mem.tail))); (focus ((try simp only [List.getElem?_cons_zero, List.getElem?_cons_succ]); exact rfl)); intro hD1)
  (apply Hp.useCell2 hSH b10 2; (focus (repeat (first | exact List.Mem.head _ | apply List.Mem.tail))); (focus ((try simp only [List.getElem?_cons_zero, List.getElem?_cons_succ]); exact rfl)); intro hD2)
  (apply Hp.useCell2 hSH b10 3; (focus (repeat (first | exact List.Mem.head _ | apply List.Mem.tail))); (focus ((try simp only [List.getElem?_cons_zero, List.getElem?_cons_succ]); exact rfl)); intro hD3)
  (apply Hp.useCell2 hSH b10 4; (focus (repeat (first | exact List.Mem.head _ | apply List.Mem.tail))); (focus ((try simp only [List.getElem?_cons_zero, List.getElem?_cons_succ]); exact rfl)); intro hD4)
  (apply Hp.useCell2 hSH b10 5; (focus (repeat (first | exact List.Mem.head _ | apply List.Mem.tail))); (focus ((try simp only [List.getElem?_cons_zero, List.getElem?_cons_succ]); exact rfl)); intro hD5)
  (apply Hp.useCell2 hSH b10 6; (focus (repeat (first | exact List.Mem.head _ | apply List.Mem.tail))); (focus ((try simp only [List.getElem?_cons_zero, List.getElem?_cons_succ]); exact rfl)); intro hD6)
  (apply Hp.useCell2 hSH b10 7; (focus (repeat (first | exact List.Mem.head _ | apply List.Mem.tail))); (focus ((try simp only [List.getElem?_cons_zero, List.getElem?_cons_succ]); exact rfl)); intro hD7)
  (apply Hp.useCell2 hSH b10 8; (focus (repeat (first | exact List.Mem.head _ | apply List.Mem.tail))); (focus ((try simp only [List.getElem?_cons_zero, List.getElem?_cons_succ]); exact rfl)); intro hD8)
  have hSX : ∀ w' x y, Keeps Sx w' → Keeps Sx ((w'.setCell ⟨b6, 0, none⟩ x).setCell ⟨b6, 1, none⟩ y) := fun w' x y h => by
    have h2 := rX_set2 ((hSH w' h).holds (rX b6 29 2) (by simp)) x y
    exact hSW _ _ b6 29 2 h (by simp) h2.2 h2.1
  have hS6 := Lib.hid (fun w' (h : Keeps Sx w') => rX_cells ((hSH w' h).holds (rX b6 29 2) (by simp)))
  generalize hw5 : w5 = wS at *
  clear hw5
  go_region_held3 (Keeps Sx) (first | exact hS0 | with_reducible assumption | exact hSd _ (by assumption) | exact hSq _ _ (by assumption) (by assumption) | exact hSq _ _ (by assumption) ((Off.refl _ _).alloc _) | exact hSX _ _ _ (by assumption)) (first
    | (go_at_call 66; (with_reducible refine (cloneP a c ps _ (hp_held (Lib.hid (hSH _ (by assumption))) (by simp)) hb).mono ?_); rintro e w6 ⟨a6, c6, rfl, hA6, hf6, ho⟩; have hK6 : Keeps Sx w6 := hSq _ _ (by assumption) ho; have hF6 : ∀ q ∈ footA a6, wS.heap.size ≤ q := fun q hq => Nat.le_trans (hSz _ (by assumption)) (hf6 q hq))
    | (go_at_call 102; (with_reducible refine (insertP a6 c6 (posV k ps) w6.heap.size ps (k, v) (w6.alloc (.cells #[.int .i64 k, .int .i64 v.id, .int .i64 v.kind, .int .i64 v.src, .int .i64 v.dst, .int .i64 v.car, .int .i64 v.state, .int .i64 v.owner, .int .i64 v.born] 97)) (rA_keep hA6 ((Off.refl [] w6).alloc _)) (blk_new w6 _ _) (rA_new hA6) hpos hb).mono ?_); rintro e w7 ⟨a7, c7, rfl, hA7, hf7, ho7⟩; have hK7 := hSF _ _ _ (hSq _ _ hK6 ((Off.refl [] w6).alloc _)) ho7 hF6; obtain ⟨u6, v6, hc6, hd6, hg6, hh6⟩ := hS6.out _ hK7)
    | (go_at_call 102; (refine (insertP a6 c6 (posV k ps) wS.heap.size ps (k, v) w6 hA6 (ho.blk (blk_new wS _ _).drew List.not_mem_nil) (fresh_new (w := wS) (o := .cells #[.int .i64 k, .int .i64 v.id, .int .i64 v.kind, .int .i64 v.src, .int .i64 v.dst, .int .i64 v.car, .int .i64 v.state, .int .i64 v.owner, .int .i64 v.born] 97) hf6) hpos hb).mono ?_); rintro e w7 ⟨a7, c7, rfl, hA7, hf7, ho7⟩; have hK7 := hSF _ _ _ hK6 ho7 hF6; obtain ⟨u6, v6, hc6, hd6, hg6, hh6⟩ := hS6.out _ hK7)
    | fail)
  all_goals
    have hF7 : ∀ q ∈ footA a7, wS.heap.size ≤ q := fun q hq => by
      rcases hf7 q hq with h1 | h1
      · exact hF6 q h1
      · exact Nat.le_trans (hSz w6 hK6) (Nat.le_trans (by first | exact Nat.le_refl _ | exact ((Off.refl [] w6).alloc _).size) h1)
    have H7 := hp_add HX (hSH _ hK7) (r := rA a7 c7 97 9 ((insAt ps (posV k ps) (k, v)).map rowOf)) hA7 (rA_lt hA7) hF7
    have H := hp_fill2 H7 2 rfl (.int .i64 room) (.slice a7 (insAt ps (posV k ps) (k, v)).length c7)
    clear H7
    go_wp2_with fail
    (try simp only [Exit.inBlock, Exit.then])
    apply hp_ret_ct tyshelf_Shelf_int__api_Call_ H
    · exact rfl
    · exact rfl
    · exact rfl
    · exact rfl
    · (repeat (first | exact List.Mem.head _ | apply List.Mem.tail))
    · exact rfl
    · exact ⟨a7, c7, rfl, (hp_from (e := 97) H (by simp) [rS a c 9 (ps.map rowOf)]).1, (hp_from (e := 97) H (by simp) [rS a c 9 (ps.map rowOf)]).2, H.out.off⟩

end Go.Proofs.Ytnanihffljpdbaa.Sc6
