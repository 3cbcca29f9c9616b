/- Shelves, at one instance. -/
import Derived.Test.YtnanihffljpdbaaProg
import Derived.Below
import Derived.WalkKit
import Derived.KernelRfl
import Derived.RowKit3
import Derived.Deep.LoopGhost
import Derived.Deep.QuietTactic
import Derived.BigQuiet
import Derived.WideLaws
import Derived.Deep.DeepCutAuto
import Derived.Deep.CutBlock
import Derived.Lib.Hide
import Derived.Laws.BitsLemmas
import Derived.Laws.Bits64
import Derived.Laws.BitsAllLaws
import Derived.IntWalk
import Derived.Outline
import Derived.WalkSpells
import Derived.Test.YtnanihffljpdbaaMem
import Derived.Test.YtnanihffljpdbaaScDel
import Derived.Test.YtnanihffljpdbaaScFind
namespace Go.Proofs.Ytnanihffljpdbaa.Sc6
set_option linter.unusedVariables false
set_option linter.unusedSimpArgs false
open Go.RowKit Go.Proofs.Ytnanihffljpdbaa.Mem

theorem tyshelf_Shelf_int__api_Call_ : TyI Try.prog 29 2 true [.int .i64 0, .slice none 0 0] := ⟨by kernel_rfl, by kernel_rfl, by kernel_rfl⟩
theorem tyS_shelf_Pair_int_api_Call_ : TyI Try.prog 27 1 false [.slice none 0 0] := ⟨by kernel_rfl, by kernel_rfl, by kernel_rfl⟩
theorem tyapi_Call : TyI Try.prog 38 8 true [.int .i64 0, .int .i64 0, .int .i64 0, .int .i64 0, .int .i64 0, .int .i64 0, .int .i64 0, .int .i64 0] := ⟨by kernel_rfl, by kernel_rfl, by kernel_rfl⟩
set_option maxRecDepth 20000
set_option maxHeartbeats 16000000

def insAt (ps : List PairV) (i : Nat) (p : PairV) : List PairV := ps.take i ++ p :: ps.drop i
def delAt (ps : List PairV) (i : Nat) : List PairV := ps.take i ++ ps.drop (i + 1)
theorem map_insAt (ps : List PairV) (i : Nat) (p : PairV) : (insAt ps i p).map rowOf = putIn (ps.map rowOf) i (rowOf p) := by simp [insAt, putIn, List.map_take, List.map_drop]
theorem map_delAt (ps : List PairV) (i : Nat) : (delAt ps i).map rowOf = cutAt (ps.map rowOf) i := by simp [delAt, cutAt, List.map_take, List.map_drop]
/-- what a call hands out: pairs, in new memory or in that of those that came in -/
def Gives (w w' : World) (Rs : List Res) (a : Option Addr) (c : Nat) (ps : List PairV) : Prop := (rS a c 9 (ps.map rowOf)).holds w' ∧ From w Rs (rS a c 9 (ps.map rowOf)).foot ∧ Off [] w w'
theorem cloneP (a : Option Addr) (c : Nat) (ps : List PairV) (w : World) (h : (rS a c 9 (ps.map rowOf)).holds w) (hb : ps.length ≤ 1000000) :
    Calls Try.prog 66 #[.slice a ps.length c] w fun e w' => ∃ a' c', e = .returned (.slice a' ps.length c') ∧ (rA a' c' 97 9 (ps.map rowOf)).holds w' ∧ (∀ q ∈ footA a', w.heap.size ≤ q) ∧ Off [] w w' := by
  have := cloneC a c (ps.map rowOf) w h (by simpa using hb)
  rwa [List.length_map] at this
theorem cloneN (a : Option Addr) (c : Nat) (ps : List PairV) (w : World) (h : (rS a c 9 (ps.map rowOf)).holds w) (hb : ps.length ≤ 1000000) (hn : ps ≠ []) :
    Calls Try.prog 66 #[.slice a ps.length c] w fun e w' => ∃ b c', e = .returned (.slice (some ⟨b, 0, none⟩) ps.length c') ∧ (rA (some ⟨b, 0, none⟩) c' 97 9 (ps.map rowOf)).holds w' ∧ w.heap.size ≤ b ∧ Off [] w w' := by
  refine (cloneP a c ps w h hb).mono ?_
  rintro e w' ⟨a', c', rfl, h1, h2, h3⟩
  rcases h1.1.2 with ⟨_, h0⟩ | ⟨b, cap, cur, he, _⟩
  · exact absurd (List.length_eq_zero_iff.1 (by simpa using h0)) hn
  · injection he with e1 _ _
    subst e1
    exact ⟨b, c', rfl, h1, h2 b (by simp [footA]), h3⟩
theorem insertP (a : Option Addr) (c i g : Nat) (ps : List PairV) (p : PairV) (w : World) (h : (rA a c 97 9 (ps.map rowOf)).holds w) (hg : Blk w g #[.int .i64 p.1, .int .i64 p.2.id, .int .i64 p.2.kind, .int .i64 p.2.src, .int .i64 p.2.dst, .int .i64 p.2.car, .int .i64 p.2.state, .int .i64 p.2.owner, .int .i64 p.2.born] 97) (hgf : g ∉ footA a) (hi : i ≤ ps.length) (hb : ps.length ≤ 1000000) :
    Calls Try.prog 102 #[.slice a ps.length c, .int .i64 i, .slice (some ⟨g, 0, none⟩) 1 1] w fun e w' => ∃ a' c', e = .returned (.slice a' (insAt ps i p).length c') ∧ (rA a' c' 97 9 ((insAt ps i p).map rowOf)).holds w' ∧ (∀ q ∈ footA a', q ∈ footA a ∨ w.heap.size ≤ q) ∧ Off (footA a) w w' := by
  have := insertC a c i g (ps.map rowOf) (rowOf p) w h ⟨rfl, by simp [rowOf, Value.oneCell']⟩ hg hgf (by simpa using hi) (by simpa using hb)
  rw [List.length_map, ← map_insAt, List.length_map] at this
  exact this
theorem deleteP (a : Option Addr) (c i : Nat) (ps : List PairV) (w : World) (h : (rA a c 97 9 (ps.map rowOf)).holds w) (hi : i < ps.length) (hb : ps.length ≤ 1000000) :
    Calls Try.prog 101 #[.slice a ps.length c, .int .i64 i, .int .i64 ((i : Int) + 1)] w fun e w' => e = .returned (.slice a (delAt ps i).length c) ∧ (rA a c 97 9 ((delAt ps i).map rowOf)).holds w' ∧ Off (footA a) w w' := by
  have := deleteC a c i (ps.map rowOf) w h (by simpa using hi) (by simpa using hb)
  rw [List.length_map, ← map_delAt] at this
  have e : (delAt ps i).length = ps.length - 1 := by simp [delAt]; omega
  rw [e]
  exact this
theorem findC (room : Int) (a : Option Addr) (c : Nat) (ps : List PairV) (k : KeyV) (w : World) (h : (rS a c 9 (ps.map rowOf)).holds w) (hs : Sorted ps) (hb : ps.length ≤ 1000000) :
    Calls Try.prog 75 #[.agg #[.int .i64 room, .slice a ps.length c], .int .i64 k] w fun e w' => e = .returned (.tuple #[.int .i64 (posV k ps), .bool (isV k ps)]) ∧ Off [] w w' := by
  have H0 := Lib.hid (Hp.start [] w)
  have H := hp_old H0 h (by decide)
  clear H0 h
  go_enter Try.func75, Try.ntmps75
  go_wp2_with (first
    | ((with_reducible apply g_mem); (focus (exact rfl)); first
      | ((with_reducible apply hpN_box 29 2 H); (focus (exact rfl)); (focus (exact rfl)); (focus (exact rfl)); (focus (exact rfl)); (focus (exact rfl)); intro w5 b2 H5; clear H; have H := H5; clear H5)
      | ((with_reducible apply hpA_load1 tyS_shelf_Pair_int_api_Call_ H); (focus (exact rfl)); (focus (exact rfl)); (focus (first | (exact rfl) | (simp [Region.wanted]; done) | (simp only [Region.wanted]; go_simp; done))); (focus (repeat (first | exact List.Mem.head _ | apply List.Mem.tail))); (focus ((try simp only [List.getElem?_cons_zero, List.getElem?_cons_succ]); exact rfl))))
    | (go_at_call 108; (with_reducible refine (searchC a c ps k _ (hp_held H (by simp)) hs hb).mono ?_); rintro e w5 ⟨rfl, ho⟩; have H5 := Lib.hid (H.out.quiet ho); clear H ho; have H := H5; clear H5))
  go_ret2
  exact ⟨rfl, H.out.off⟩
def withV (room : Int) (k : KeyV) (v : Ca.CallV) (ps : List PairV) : List PairV × Bool :=
  if isV k ps = true then (ps.set (posV k ps) (k, v), true)
  else if ((ps.length : Int) == room) = true then (ps, false)
  else (insAt ps (posV k ps) (k, v), true)
theorem newC (room : Int) (w : World) : Calls Try.prog 42 #[.int .i64 room] w fun e w' => e = .returned (.agg #[.int .i64 (if room < 1 ∨ 65536 < room then 0 else room), .slice none 0 0]) ∧ Off [] w w' := by
  have H := Lib.hid (Hp.start [] w)
  rcases Bool.eq_false_or_eq_true (decide (room < 1)) with q1 | q1
  · have e : (if room < 1 ∨ 65536 < room then 0 else room) = 0 := if_pos (.inl (by simpa using q1))
    rw [e]
    clear e
    go_enter Try.func42, Try.ntmps42
    go_wp2_with (first
      | ((with_reducible apply g_mem); (focus (exact rfl)); first
      | ((with_reducible apply hpN_alloc tyshelf_Shelf_int__api_Call_ 2 H); (focus (exact rfl)); (focus (exact rfl)); (focus (exact rfl)); intro w5 b2 H5; clear H; have H := H5; clear H5)
      | ((with_reducible apply hpA_store tyshelf_Shelf_int__api_Call_ H); (focus (exact rfl)); (focus (exact rfl)); (focus (exact rfl)); (focus (exact rfl)); (focus (exact rfl)); (focus (repeat (first | apply Put.head | apply Put.tail))); (focus (first | (simp; done) | (simp [Value.oneCell']; done))); (focus (first | (simp; done) | (simp [Value.oneCell']; done))); (focus ((try simp only [spl]); exact rfl)); (focus (exact rfl)); intro w5 H5; clear H; have H := H5; clear H5)))
    (try simp only [Exit.inBlock, Exit.then])
    apply hp_ret_c tyshelf_Shelf_int__api_Call_ H
    · exact rfl
    · exact rfl
    · exact rfl
    · (repeat (first | exact List.Mem.head _ | apply List.Mem.tail))
    · exact rfl
    · exact ⟨rfl, H.out.off⟩
  · rcases Bool.eq_false_or_eq_true (decide (65536 < room)) with q2 | q2
    · have e : (if room < 1 ∨ 65536 < room then 0 else room) = 0 := if_pos (.inr (by simpa using q2))
      rw [e]
      clear e
      go_enter Try.func42, Try.ntmps42
      go_wp2_with (first
        | ((with_reducible apply g_mem); (focus (exact rfl)); first
      | ((with_reducible apply hpN_alloc tyshelf_Shelf_int__api_Call_ 2 H); (focus (exact rfl)); (focus (exact rfl)); (focus (exact rfl)); intro w5 b2 H5; clear H; have H := H5; clear H5)
      | ((with_reducible apply hpA_store tyshelf_Shelf_int__api_Call_ H); (focus (exact rfl)); (focus (exact rfl)); (focus (exact rfl)); (focus (exact rfl)); (focus (exact rfl)); (focus (repeat (first | apply Put.head | apply Put.tail))); (focus (first | (simp; done) | (simp [Value.oneCell']; done))); (focus (first | (simp; done) | (simp [Value.oneCell']; done))); (focus ((try simp only [spl]); exact rfl)); (focus (exact rfl)); intro w5 H5; clear H; have H := H5; clear H5)))
      (try simp only [Exit.inBlock, Exit.then])
      apply hp_ret_c tyshelf_Shelf_int__api_Call_ H
      · exact rfl
      · exact rfl
      · exact rfl
      · (repeat (first | exact List.Mem.head _ | apply List.Mem.tail))
      · exact rfl
      · exact ⟨rfl, H.out.off⟩
    · have e : (if room < 1 ∨ 65536 < room then 0 else room) = room := if_neg (by simp at q1 q2; omega)
      rw [e]
      clear e
      go_enter Try.func42, Try.ntmps42
      go_wp2_with (first
        | ((with_reducible apply g_mem); (focus (exact rfl)); first
      | ((with_reducible apply hpN_alloc tyshelf_Shelf_int__api_Call_ 2 H); (focus (exact rfl)); (focus (exact rfl)); (focus (exact rfl)); intro w5 b2 H5; clear H; have H := H5; clear H5)
      | ((with_reducible apply hpA_store tyshelf_Shelf_int__api_Call_ H); (focus (exact rfl)); (focus (exact rfl)); (focus (exact rfl)); (focus (exact rfl)); (focus (exact rfl)); (focus (repeat (first | apply Put.head | apply Put.tail))); (focus (first | (simp; done) | (simp [Value.oneCell']; done))); (focus (first | (simp; done) | (simp [Value.oneCell']; done))); (focus ((try simp only [spl]); exact rfl)); (focus (exact rfl)); intro w5 H5; clear H; have H := H5; clear H5)))
      (try simp only [Exit.inBlock, Exit.then])
      apply hp_ret_c tyshelf_Shelf_int__api_Call_ H
      · exact rfl
      · exact rfl
      · exact rfl
      · (repeat (first | exact List.Mem.head _ | apply List.Mem.tail))
      · exact rfl
      · exact ⟨rfl, H.out.off⟩
theorem roomC (room : Int) (s : Value) (w : World) : Calls Try.prog 70 #[.agg #[.int .i64 room, s]] w fun e w' => e = .returned (.int .i64 room) ∧ Off [] w w' := by
  have H := Lib.hid (Hp.start [] w)
  go_enter Try.func70, Try.ntmps70
  go_wp2_with (first
    | ((with_reducible apply g_mem); (focus (exact rfl)); first
      | ((with_reducible apply hpN_box 29 1 H); (focus (exact rfl)); (focus (exact rfl)); (focus (exact rfl)); (focus (exact rfl)); (focus (exact rfl)); intro w5 b1 H5; clear H; have H := H5; clear H5)
      | ((with_reducible apply hpA_load1 tyint H); (focus (exact rfl)); (focus (exact rfl)); (focus (first | (exact rfl) | (simp [Region.wanted]; done) | (simp only [Region.wanted]; go_simp; done))); (focus (repeat (first | exact List.Mem.head _ | apply List.Mem.tail))); (focus ((try simp only [List.getElem?_cons_zero, List.getElem?_cons_succ]); exact rfl)))))
  go_ret
  exact ⟨rfl, H.out.off⟩
end Go.Proofs.Ytnanihffljpdbaa.Sc6
