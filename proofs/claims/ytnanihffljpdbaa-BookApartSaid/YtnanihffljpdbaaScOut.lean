/- Shelves, at one instance: a pair less; the order stays. -/
import Derived.Test.YtnanihffljpdbaaProg
import Derived.Below
import Derived.WalkKit
import Derived.KernelRfl
import Derived.RowKit3
import Derived.Deep.LoopGhost
import Derived.Deep.QuietTactic
import Derived.BigQuiet
import Derived.WideLaws
import Derived.Deep.DeepCutAuto
import Derived.Deep.CutBlock
import Derived.Lib.Hide
import Derived.Laws.BitsLemmas
import Derived.Laws.Bits64
import Derived.Laws.BitsAllLaws
import Derived.IntWalk
import Derived.Outline
import Derived.WalkSpells
import Derived.Test.YtnanihffljpdbaaMem
import Derived.Test.YtnanihffljpdbaaScWit
namespace Go.Proofs.Ytnanihffljpdbaa.Sc6
set_option linter.unusedVariables false
set_option linter.unusedSimpArgs false
open Go.RowKit Go.Proofs.Ytnanihffljpdbaa.Mem

set_option maxRecDepth 20000
set_option maxHeartbeats 16000000

theorem without2 (room : Int) (a : Option Addr) (c : Nat) (ps : List PairV) (k : KeyV) (w : World) (h : (rS a c 9 (ps.map rowOf)).holds w) (hs : Sorted ps) (hb : ps.length ≤ 1000000) (q : isV k ps = false) :
    Calls Try.prog 68 #[.agg #[.int .i64 room, .slice a ps.length c], .int .i64 k] w fun e w' => ∃ a' c', e = .returned (.agg #[.int .i64 room, .slice a' ps.length c']) ∧ Gives w w' [rS a c 9 (ps.map rowOf)] a' c' ps := by
  have H0 := Lib.hid (Hp.start [] w)
  have H := hp_old H0 h (by decide)
  clear H0 h
  go_enter Try.func68, Try.ntmps68
  go_wp2_with (first
    | ((with_reducible apply g_mem); (focus (exact rfl)); first
      | ((with_reducible apply hpN_box 29 2 H); (focus (exact rfl)); (focus (exact rfl)); (focus (exact rfl)); (focus (exact rfl)); (focus (exact rfl)); intro w5 b2 H5; clear H; have H := H5; clear H5)
      | ((with_reducible apply hpN_alloc tyshelf_Shelf_int__api_Call_ 4 H); (focus (exact rfl)); (focus (exact rfl)); (focus (exact rfl)); intro w5 b4 H5; clear H; have H := H5; clear H5)
      | ((with_reducible apply hpA_load tyshelf_Shelf_int__api_Call_ H); (focus (exact rfl)); (focus (exact rfl)); (focus (first | (exact rfl) | (simp [Region.wanted]; done) | (simp only [Region.wanted]; go_simp; done))); (focus (repeat (first | exact List.Mem.head _ | apply List.Mem.tail))); (focus ((try simp only [List.drop_zero, List.drop_succ_cons, List.take_succ_cons, List.take_zero]); exact rfl)); (focus (exact rfl)))
      | ((with_reducible apply hpA_store tyshelf_Shelf_int__api_Call_ H); (focus (exact rfl)); (focus (exact rfl)); (focus (exact rfl)); (focus (exact rfl)); (focus (exact rfl)); (focus (repeat (first | apply Put.head | apply Put.tail))); (focus (first | (simp; done) | (simp [Value.oneCell']; done))); (focus (first | (simp; done) | (simp [Value.oneCell']; done))); (focus ((try simp only [spl]); exact rfl)); (focus (exact rfl)); intro w5 H5; clear H; have H := H5; clear H5)
      | ((with_reducible apply hpA_load1 tyint H); (focus (exact rfl)); (focus (exact rfl)); (focus (first | (exact rfl) | (simp [Region.wanted]; done) | (simp only [Region.wanted]; go_simp; done))); (focus (repeat (first | exact List.Mem.head _ | apply List.Mem.tail))); (focus ((try simp only [List.getElem?_cons_zero, List.getElem?_cons_succ]); exact rfl)))
      | ((with_reducible apply hpA_load1 tyS_shelf_Pair_int_api_Call_ H); (focus (exact rfl)); (focus (exact rfl)); (focus (first | (exact rfl) | (simp [Region.wanted]; done) | (simp only [Region.wanted]; go_simp; done))); (focus (repeat (first | exact List.Mem.head _ | apply List.Mem.tail))); (focus ((try simp only [List.getElem?_cons_zero, List.getElem?_cons_succ]); exact rfl))))
    | (go_at_call 75; (with_reducible refine (findC room _ c ps k _ (hp_held H (by simp)) hs hb).mono ?_); rintro e w5 ⟨rfl, ho⟩; have H5 := Lib.hid (H.out.quiet ho); clear H ho; have H := H5; clear H5)
    | (go_at_call 75; (with_reducible refine (findC room _ c ps k _ (hp_held H (by simp)) hs hb).mono ?_); rintro e w5 ⟨rfl, ho⟩; have H5 := Lib.hid (H.out.quiet ho); clear H ho; have H := H5; clear H5)
    | (go_at_call 75; (with_reducible refine (findC room _ c ps k _ (hp_held H (by simp)) hs hb).mono ?_); rintro e w5 ⟨rfl, ho⟩; have H5 := Lib.hid (H.out.quiet ho); clear H ho; have H := H5; clear H5)
    | (go_at_call 75; (with_reducible refine (findC room _ c ps k _ (hp_held H (by simp)) hs hb).mono ?_); rintro e w5 ⟨rfl, ho⟩; have H5 := Lib.hid (H.out.quiet ho); clear H ho; have H := H5; clear H5)
    | (go_at_call 75; (with_reducible refine (findC room _ c ps k _ (hp_held H (by simp)) hs hb).mono ?_); rintro e w5 ⟨rfl, ho⟩; have H5 := Lib.hid (H.out.quiet ho); clear H ho; have H := H5; clear H5)
    | (go_at_call 75; (with_reducible refine (findC room _ c ps k _ (hp_held H (by simp)) hs hb).mono ?_); rintro e w5 ⟨rfl, ho⟩; have H5 := Lib.hid (H.out.quiet ho); clear H ho; have H := H5; clear H5)
    | (go_at_call 75; (with_reducible refine (findC room _ c ps k _ (hp_held H (by simp)) hs hb).mono ?_); rintro e w5 ⟨rfl, ho⟩; have H5 := Lib.hid (H.out.quiet ho); clear H ho; have H := H5; clear H5)
    | (go_at_call 66; (refine (cloneP _ c ps _ (hp_held H (by simp)) hb).mono ?_); rintro e w5 ⟨a5, c5, rfl, hA5, hf5, ho⟩; have H5 := hp_gotA H ho hA5 hf5; clear H ho hA5 hf5; have H := H5; clear H5)
    | (go_at_call 66; (refine (cloneP _ c ps _ (hp_held H (by simp)) hb).mono ?_); rintro e w5 ⟨a5, c5, rfl, hA5, hf5, ho⟩; have H5 := hp_gotA H ho hA5 hf5; clear H ho hA5 hf5; have H := H5; clear H5)
    | (go_at_call 66; (refine (cloneP _ c ps _ (hp_held H (by simp)) hb).mono ?_); rintro e w5 ⟨a5, c5, rfl, hA5, hf5, ho⟩; have H5 := hp_gotA H ho hA5 hf5; clear H ho hA5 hf5; have H := H5; clear H5)
    | (go_at_call 66; (refine (cloneP _ c ps _ (hp_held H (by simp)) hb).mono ?_); rintro e w5 ⟨a5, c5, rfl, hA5, hf5, ho⟩; have H5 := hp_gotA H ho hA5 hf5; clear H ho hA5 hf5; have H := H5; clear H5)
    | (go_at_call 66; (refine (cloneP _ c ps _ (hp_held H (by simp)) hb).mono ?_); rintro e w5 ⟨a5, c5, rfl, hA5, hf5, ho⟩; have H5 := hp_gotA H ho hA5 hf5; clear H ho hA5 hf5; have H := H5; clear H5)
    | ((with_reducible apply g_mem); (focus (exact rfl)); (with_reducible apply hpS_load tyshelf_Pair_int__api_Call_ H); (focus (exact rfl)); (focus (exact rfl)); (focus (first | (exact rfl) | (simp [Region.wanted]; done) | (simp only [Region.wanted]; go_simp; done))); (focus (repeat (first | exact List.Mem.head _ | apply List.Mem.tail))); (focus (exact HR.out)); (focus (exact rfl)))
    | ((with_reducible apply g_mem); (focus (exact rfl)); (with_reducible apply hpS_loadk 1 tyapi_Call H); (focus (exact rfl)); (focus (exact rfl)); (focus (first | (exact rfl) | (simp [Region.wanted]; done) | (simp only [Region.wanted]; go_simp; done))); (focus (repeat (first | exact List.Mem.head _ | apply List.Mem.tail))); (focus (exact HR.out)); (focus (exact rfl)); (focus (exact rfl)); (focus (first | exact rfl | (simp [Addr.add]; done))))
    | ((with_reducible apply g_region 4); obtain ⟨Sx, hS0, hSH, hSd, hSq⟩ := Hp.pack2 H; (apply Hp.useCell2 hSH b2 0; (focus (repeat (first | exact List.Mem.head _ | apply List.Mem.tail))); (focus ((try simp only [List.getElem?_cons_zero, List.getElem?_cons_succ]); exact rfl)); intro hC0); (apply Hp.useCell2 hSH b2 1; (focus (repeat (first | exact List.Mem.head _ | apply List.Mem.tail))); (focus ((try simp only [List.getElem?_cons_zero, List.getElem?_cons_succ]); exact rfl)); intro hC1); go_region_held3 (Keeps Sx) (first | exact hS0 | with_reducible assumption | exact hSd _ (by assumption) | exact hSq _ _ (by assumption) (by assumption)) (first | (go_at_call 66; (refine (cloneP _ c ps _ (hp_held H (by simp)) hb).mono ?_); rintro e w5 ⟨a5, c5, rfl, hA5, hf5, ho⟩; have H5 := hp_gotA H ho hA5 hf5; clear H ho hA5 hf5; have H := H5; clear H5) | (go_at_call 66; (refine (cloneP _ c ps _ (hp_held H (by simp)) hb).mono ?_); rintro e w5 ⟨a5, c5, rfl, hA5, hf5, ho⟩; have H5 := hp_gotA H ho hA5 hf5; clear H ho hA5 hf5; have H := H5; clear H5) | (go_at_call 66; (refine (cloneP _ c ps _ (hp_held H (by simp)) hb).mono ?_); rintro e w5 ⟨a5, c5, rfl, hA5, hf5, ho⟩; have H5 := hp_gotA H ho hA5 hf5; clear H ho hA5 hf5; have H := H5; clear H5) | (go_at_call 66; (refine (cloneP _ c ps _ (hp_held H (by simp)) hb).mono ?_); rintro e w5 ⟨a5, c5, rfl, hA5, hf5, ho⟩; have H5 := hp_gotA H ho hA5 hf5; clear H ho hA5 hf5; have H := H5; clear H5) | (go_at_call 66; (refine (cloneP _ c ps _ (hp_held H (by simp)) hb).mono ?_); rintro e w5 ⟨a5, c5, rfl, hA5, hf5, ho⟩; have H5 := hp_gotA H ho hA5 hf5; clear H ho hA5 hf5; have H := H5; clear H5)); clear H hS0; have H := Lib.hid (hSH _ (by assumption))))
  (try simp only [Exit.inBlock, Exit.then])
  apply hp_ret_c tyshelf_Shelf_int__api_Call_ H
  · exact rfl
  · exact rfl
  · exact rfl
  · (repeat (first | exact List.Mem.head _ | apply List.Mem.tail))
  · exact rfl
  · exact ⟨a, c, rfl, hp_held H (by simp), fun q hq => .inr ⟨_, List.mem_cons_self .., rfl, hq⟩, H.out.off⟩

theorem without1 (room : Int) (a : Option Addr) (c : Nat) (ps : List PairV) (k : KeyV) (w : World) (h : (rS a c 9 (ps.map rowOf)).holds w) (hs : Sorted ps) (hb : ps.length ≤ 1000000) (q : isV k ps = true) :
    Calls Try.prog 68 #[.agg #[.int .i64 room, .slice a ps.length c], .int .i64 k] w fun e w' => ∃ a' c', e = .returned (.agg #[.int .i64 room, .slice a' (delAt ps (posV k ps)).length c']) ∧ Gives w w' [rS a c 9 (ps.map rowOf)] a' c' (delAt ps (posV k ps)) := by
  have H0 := Lib.hid (Hp.start [] w)
  have H := hp_old H0 h (by decide)
  clear H0 h
  obtain ⟨_, _, _, hpos⟩ := is_some q
  have hwr : IntKind.i64.wrap ((posV k ps : Int) + 1) = (posV k ps : Int) + 1 := by rw [IntKind.wrap_i64]; omega
  go_enter Try.func68, Try.ntmps68
  go_wp2_with (first
    | ((with_reducible apply g_mem); (focus (exact rfl)); first
      | ((with_reducible apply hpN_box 29 2 H); (focus (exact rfl)); (focus (exact rfl)); (focus (exact rfl)); (focus (exact rfl)); (focus (exact rfl)); intro w5 b2 H5; clear H; have H := H5; clear H5)
      | ((with_reducible apply hpN_alloc tyshelf_Shelf_int__api_Call_ 4 H); (focus (exact rfl)); (focus (exact rfl)); (focus (exact rfl)); intro w5 b4 H5; clear H; have H := H5; clear H5)
      | ((with_reducible apply hpA_load tyshelf_Shelf_int__api_Call_ H); (focus (exact rfl)); (focus (exact rfl)); (focus (first | (exact rfl) | (simp [Region.wanted]; done) | (simp only [Region.wanted]; go_simp; done))); (focus (repeat (first | exact List.Mem.head _ | apply List.Mem.tail))); (focus ((try simp only [List.drop_zero, List.drop_succ_cons, List.take_succ_cons, List.take_zero]); exact rfl)); (focus (exact rfl)))
      | ((with_reducible apply hpA_store tyshelf_Shelf_int__api_Call_ H); (focus (exact rfl)); (focus (exact rfl)); (focus (exact rfl)); (focus (exact rfl)); (focus (exact rfl)); (focus (repeat (first | apply Put.head | apply Put.tail))); (focus (first | (simp; done) | (simp [Value.oneCell']; done))); (focus (first | (simp; done) | (simp [Value.oneCell']; done))); (focus ((try simp only [spl]); exact rfl)); (focus (exact rfl)); intro w5 H5; clear H; have H := H5; clear H5)
      | ((with_reducible apply hpA_load1 tyint H); (focus (exact rfl)); (focus (exact rfl)); (focus (first | (exact rfl) | (simp [Region.wanted]; done) | (simp only [Region.wanted]; go_simp; done))); (focus (repeat (first | exact List.Mem.head _ | apply List.Mem.tail))); (focus ((try simp only [List.getElem?_cons_zero, List.getElem?_cons_succ]); exact rfl)))
      | ((with_reducible apply hpA_load1 tyS_shelf_Pair_int_api_Call_ H); (focus (exact rfl)); (focus (exact rfl)); (focus (first | (exact rfl) | (simp [Region.wanted]; done) | (simp only [Region.wanted]; go_simp; done))); (focus (repeat (first | exact List.Mem.head _ | apply List.Mem.tail))); (focus ((try simp only [List.getElem?_cons_zero, List.getElem?_cons_succ]); exact rfl))))
    | (go_at_call 75; (with_reducible refine (findC room _ c ps k _ (hp_held H (by simp)) hs hb).mono ?_); rintro e w5 ⟨rfl, ho⟩; have H5 := Lib.hid (H.out.quiet ho); clear H ho; have H := H5; clear H5)
    | (go_at_call 75; (with_reducible refine (findC room _ c ps k _ (hp_held H (by simp)) hs hb).mono ?_); rintro e w5 ⟨rfl, ho⟩; have H5 := Lib.hid (H.out.quiet ho); clear H ho; have H := H5; clear H5)
    | (go_at_call 75; (with_reducible refine (findC room _ c ps k _ (hp_held H (by simp)) hs hb).mono ?_); rintro e w5 ⟨rfl, ho⟩; have H5 := Lib.hid (H.out.quiet ho); clear H ho; have H := H5; clear H5)
    | (go_at_call 75; (with_reducible refine (findC room _ c ps k _ (hp_held H (by simp)) hs hb).mono ?_); rintro e w5 ⟨rfl, ho⟩; have H5 := Lib.hid (H.out.quiet ho); clear H ho; have H := H5; clear H5)
    | (go_at_call 75; (with_reducible refine (findC room _ c ps k _ (hp_held H (by simp)) hs hb).mono ?_); rintro e w5 ⟨rfl, ho⟩; have H5 := Lib.hid (H.out.quiet ho); clear H ho; have H := H5; clear H5)
    | (go_at_call 75; (with_reducible refine (findC room _ c ps k _ (hp_held H (by simp)) hs hb).mono ?_); rintro e w5 ⟨rfl, ho⟩; have H5 := Lib.hid (H.out.quiet ho); clear H ho; have H := H5; clear H5)
    | (go_at_call 75; (with_reducible refine (findC room _ c ps k _ (hp_held H (by simp)) hs hb).mono ?_); rintro e w5 ⟨rfl, ho⟩; have H5 := Lib.hid (H.out.quiet ho); clear H ho; have H := H5; clear H5)
    | (go_at_call 75; (with_reducible refine (findC room _ c ps k _ (hp_held H (by simp)) hs hb).mono ?_); rintro e w5 ⟨rfl, ho⟩; have H5 := Lib.hid (H.out.quiet ho); clear H ho; have H := H5; clear H5)
    | (go_at_call 66; (refine (cloneP _ c ps _ (hp_held H (by simp)) hb).mono ?_); rintro e w5 ⟨a5, c5, rfl, hA5, hf5, ho⟩; have H5 := hp_gotA H ho hA5 hf5; clear H ho hA5 hf5; have H := H5; clear H5)
    | (go_at_call 66; (refine (cloneP _ c ps _ (hp_held H (by simp)) hb).mono ?_); rintro e w5 ⟨a5, c5, rfl, hA5, hf5, ho⟩; have H5 := hp_gotA H ho hA5 hf5; clear H ho hA5 hf5; have H := H5; clear H5)
    | (go_at_call 66; (refine (cloneP _ c ps _ (hp_held H (by simp)) hb).mono ?_); rintro e w5 ⟨a5, c5, rfl, hA5, hf5, ho⟩; have H5 := hp_gotA H ho hA5 hf5; clear H ho hA5 hf5; have H := H5; clear H5)
    | (go_at_call 66; (refine (cloneP _ c ps _ (hp_held H (by simp)) hb).mono ?_); rintro e w5 ⟨a5, c5, rfl, hA5, hf5, ho⟩; have H5 := hp_gotA H ho hA5 hf5; clear H ho hA5 hf5; have H := H5; clear H5)
    | (go_at_call 66; (refine (cloneP _ c ps _ (hp_held H (by simp)) hb).mono ?_); rintro e w5 ⟨a5, c5, rfl, hA5, hf5, ho⟩; have H5 := hp_gotA H ho hA5 hf5; clear H ho hA5 hf5; have H := H5; clear H5)
    | (go_at_call 66; (refine (cloneP _ c ps _ (hp_held H (by simp)) hb).mono ?_); rintro e w5 ⟨a5, c5, rfl, hA5, hf5, ho⟩; have H5 := hp_gotA H ho hA5 hf5; clear H ho hA5 hf5; have H := H5; clear H5)
    | ((with_reducible apply g_mem); (focus (exact rfl)); (with_reducible apply hpS_load tyshelf_Pair_int__api_Call_ H); (focus (exact rfl)); (focus (exact rfl)); (focus (first | (exact rfl) | (simp [Region.wanted]; done) | (simp only [Region.wanted]; go_simp; done))); (focus (repeat (first | exact List.Mem.head _ | apply List.Mem.tail))); (focus (exact HR.out)); (focus (exact rfl)))
    | ((with_reducible apply g_mem); (focus (exact rfl)); (with_reducible apply hpS_loadk 1 tyapi_Call H); (focus (exact rfl)); (focus (exact rfl)); (focus (first | (exact rfl) | (simp [Region.wanted]; done) | (simp only [Region.wanted]; go_simp; done))); (focus (repeat (first | exact List.Mem.head _ | apply List.Mem.tail))); (focus (exact HR.out)); (focus (exact rfl)); (focus (exact rfl)); (focus (first | exact rfl | (simp [Addr.add]; done)))))
  have HX := hp_loose H 0 rfl
  clear H
  simp only [List.set_cons_zero, List.set_cons_succ, List.length_cons, List.length_nil, Nat.zero_add, Nat.reduceAdd] at HX
  obtain ⟨Sx, hS0, hSH, hSd, hSq, hSz, hSF, hSW⟩ := Hp.pack3 HX
  (apply Hp.useCell2 hSH b2 0; (focus (repeat (first | exact List.Mem.head _ | apply List.Mem.tail))); (focus ((try simp only [List.getElem?_cons_zero, List.getElem?_cons_succ]); exact rfl)); intro hC0)
  (apply Hp.useCell2 hSH b2 1; (focus (repeat (first | exact List.Mem.head _ | apply List.Mem.tail))); (focus ((try simp only [List.getElem?_cons_zero, List.getElem?_cons_succ]); exact rfl)); intro hC1)
  have hSX : ∀ w' x y, Keeps Sx w' → Keeps Sx ((w'.setCell ⟨b4, 0, none⟩ x).setCell ⟨b4, 1, none⟩ y) := fun w' x y h => by
    have h2 := rX_set2 ((hSH w' h).holds (rX b4 29 2) (by simp)) x y
    exact hSW _ _ b4 29 2 h (by simp) h2.2 h2.1
  have hS6 := Lib.hid (fun w' (h : Keeps Sx w') => rX_cells ((hSH w' h).holds (rX b4 29 2) (by simp)))
  generalize hw5 : w5 = wS at *
  clear hw5
  go_region_held3 (Keeps Sx) (first | exact hS0 | with_reducible assumption | exact hSd _ (by assumption) | exact hSq _ _ (by assumption) (by assumption) | exact hSq _ _ (by assumption) ((Off.refl _ _).alloc _) | exact hSX _ _ _ (by assumption)) (first
    | (go_at_call 66; (with_reducible refine (cloneP a c ps _ (hp_held (Lib.hid (hSH _ (by assumption))) (by simp)) hb).mono ?_); rintro e w6 ⟨a6, c6, rfl, hA6, hf6, ho⟩; have hK6 : Keeps Sx w6 := hSq _ _ (by assumption) ho; have hF6 : ∀ q ∈ footA a6, wS.heap.size ≤ q := fun q hq => Nat.le_trans (hSz _ (by assumption)) (hf6 q hq))
    | (go_at_call 101; (with_reducible refine (deleteP a6 c6 (posV k ps) ps w6 hA6 hpos hb).mono ?_); rintro e w7 ⟨rfl, hA7, ho7⟩; have hK7 := hSF _ _ _ hK6 ho7 hF6; obtain ⟨u6, v6, hc6, hd6, hg6, hh6⟩ := hS6.out _ hK7)
    | fail)
  have H7 := hp_add HX (hSH _ hK7) (r := rA a6 c6 97 9 ((delAt ps (posV k ps)).map rowOf)) hA7 (rA_lt hA7) hF6
  have H := hp_fill2 H7 1 rfl (.int .i64 room) (.slice a6 (delAt ps (posV k ps)).length c6)
  clear H7
  go_wp2_with fail
  (try simp only [Exit.inBlock, Exit.then])
  apply hp_ret_c tyshelf_Shelf_int__api_Call_ H
  · exact rfl
  · exact rfl
  · exact rfl
  · (repeat (first | exact List.Mem.head _ | apply List.Mem.tail))
  · exact rfl
  · exact ⟨a6, c6, rfl, (hp_from (e := 97) H (by simp) [rS a c 9 (ps.map rowOf)]).1, (hp_from (e := 97) H (by simp) [rS a c 9 (ps.map rowOf)]).2, H.out.off⟩
def withoutV (k : KeyV) (ps : List PairV) : List PairV := if isV k ps = true then delAt ps (posV k ps) else ps
theorem withoutC (room : Int) (a : Option Addr) (c : Nat) (ps : List PairV) (k : KeyV) (w : World) (h : (rS a c 9 (ps.map rowOf)).holds w) (hs : Sorted ps) (hb : ps.length ≤ 1000000) :
    Calls Try.prog 68 #[.agg #[.int .i64 room, .slice a ps.length c], .int .i64 k] w fun e w' => ∃ a' c', e = .returned (.agg #[.int .i64 room, .slice a' (withoutV k ps).length c']) ∧ Gives w w' [rS a c 9 (ps.map rowOf)] a' c' (withoutV k ps) := by
  rcases Bool.eq_false_or_eq_true (isV k ps) with q | q
  · rw [withoutV, if_pos q]
    exact without1 room a c ps k w h hs hb q
  · rw [withoutV, if_neg (by simp [q])]
    exact without2 room a c ps k w h hs hb q
theorem withC (room : Int) (a : Option Addr) (c : Nat) (ps : List PairV) (k : KeyV) (v : Ca.CallV) (w : World) (h : (rS a c 9 (ps.map rowOf)).holds w) (hs : Sorted ps) (hb : ps.length ≤ 1000000) :
    Calls Try.prog 69 #[.agg #[.int .i64 room, .slice a ps.length c], .int .i64 k, .agg #[.int .i64 v.id, .int .i64 v.kind, .int .i64 v.src, .int .i64 v.dst, .int .i64 v.car, .int .i64 v.state, .int .i64 v.owner, .int .i64 v.born]] w fun e w' => ∃ a' c', e = .returned (.tuple #[.agg #[.int .i64 room, .slice a' (withV room k v ps).1.length c'], .bool (withV room k v ps).2]) ∧ Gives w w' [rS a c 9 (ps.map rowOf)] a' c' (withV room k v ps).1 := by
  rcases Bool.eq_false_or_eq_true (isV k ps) with q | q
  · rw [with_is q]
    refine (with1 room a c ps k v w h hs hb q).mono ?_
    rintro e w' ⟨a', c', rfl, hg⟩
    exact ⟨a', c', by simp, hg⟩
  · rcases Bool.eq_false_or_eq_true ((ps.length : Int) == room) with q2 | q2
    · rw [with_full q q2]
      exact with2 room a c ps k v w h hs hb q q2
    · rw [with_new q q2]
      exact with3 room a c ps k v w h hs hb q q2
/-! the order stays -/
theorem sorted_pos {ps : List PairV} (hs : Sorted ps) (k : KeyV) : (∀ x ∈ ps.take (posV k ps), ltK x.1 k = true) ∧ (∀ x ∈ ps.drop (posV k ps), ltK x.1 k = false) := by
  induction ps with
  | nil => simp
  | cons p ps ih =>
    have hs' := List.pairwise_cons.1 hs
    have ih' := ih hs'.2
    cases hp : ltK p.1 k with
    | true =>
      have e : posV k (p :: ps) = posV k ps + 1 := by simp [posV, List.countP_cons, hp]
      rw [e]
      refine ⟨fun x hx => ?_, fun x hx => ih'.2 x (by simpa using hx)⟩
      rw [List.take_succ_cons] at hx
      rcases List.mem_cons.1 hx with rfl | hx
      · exact hp
      · exact ih'.1 x hx
    | false =>
      have h0 : ∀ x ∈ p :: ps, ltK x.1 k = false := by
        intro x hx
        rcases List.mem_cons.1 hx with rfl | hx
        · exact hp
        · cases hc : ltK x.1 k with
          | false => rfl
          | true =>
            have := ltK_trans (hs'.1 x hx) hc
            rw [hp] at this
            cases this
      have e : posV k (p :: ps) = 0 := by
        unfold posV
        rw [List.countP_eq_zero]
        intro x hx
        simp [h0 x hx]
      rw [e]
      exact ⟨by simp, by simpa using h0⟩
theorem is_false_ne {ps : List PairV} (hs : Sorted ps) {k : KeyV} (h : isV k ps = false) : ∀ x ∈ ps, x.1 ≠ k := by
  intro x hx hk
  obtain ⟨i, hi, rfl⟩ := List.getElem_of_mem hx
  obtain ⟨h1, h2⟩ := sorted_pos hs k
  rcases Nat.lt_trichotomy i (posV k ps) with h3 | h3 | h3
  · have := h1 ps[i] (List.mem_take_iff_getElem.2 ⟨i, by omega, rfl⟩)
    rw [hk, ltK_irrefl] at this
    cases this
  · unfold isV at h
    rw [← h3, List.getElem?_eq_getElem hi] at h
    simp only [hk] at h
    rw [(cmp_eq k k).2 rfl] at h
    cases h
  · have hp := List.pairwise_iff_getElem.1 hs (posV k ps) i (by omega) hi h3
    have := h2 ps[posV k ps] (List.mem_drop_iff_getElem.2 ⟨0, by omega, by simp⟩)
    rw [hk] at hp
    rw [this] at hp
    cases hp
theorem sorted_set {ps : List PairV} (hs : Sorted ps) {k : KeyV} (v : Ca.CallV) (h : isV k ps = true) : Sorted (ps.set (posV k ps) (k, v)) := by
  obtain ⟨p, hp, hk, hi⟩ := is_some h
  have e : (ps.set (posV k ps) (k, v)).map (·.1) = ps.map (·.1) := by
    rw [List.map_set]
    apply List.ext_getElem?
    intro j
    rw [List.getElem?_set]
    split
    · rename_i hj
      subst hj
      rw [if_pos (by simpa using hi), List.getElem?_map, hp]
      simp [hk]
    · rfl
  unfold Sorted at *
  rw [← List.pairwise_map (f := fun p : PairV => p.1) (R := fun a b => ltK a b = true)] at *
  rw [e]
  exact hs
theorem sorted_ins {ps : List PairV} (hs : Sorted ps) {k : KeyV} (v : Ca.CallV) (h : isV k ps = false) : Sorted (insAt ps (posV k ps) (k, v)) := by
  obtain ⟨h1, h2⟩ := sorted_pos hs k
  have hne := is_false_ne hs h
  unfold Sorted insAt at *
  rw [List.pairwise_append, List.pairwise_cons]
  refine ⟨hs.sublist (List.take_sublist _ _), ⟨fun x hx => ltK_total (h2 x hx) (hne x (List.mem_of_mem_drop hx)), hs.sublist (List.drop_sublist _ _)⟩, fun x hx y hy => ?_⟩
  rcases List.mem_cons.1 hy with rfl | hy
  · exact h1 x hx
  · exact ltK_trans (h1 x hx) (ltK_total (h2 y hy) (hne y (List.mem_of_mem_drop hy)))
theorem sorted_without {ps : List PairV} (hs : Sorted ps) (k : KeyV) : Sorted (withoutV k ps) := by
  unfold withoutV
  split
  · unfold delAt
    exact hs.sublist (by
      conv => rhs; rw [← List.take_append_drop (posV k ps) ps]
      exact List.Sublist.append (List.Sublist.refl _) (List.drop_sublist_drop_left _ (by omega)))
  · exact hs
end Go.Proofs.Ytnanihffljpdbaa.Sc6
