/- ScMet ScMtw ScWit ScOut -/
import Derived.Test.YtnanihffljpdbaaProg
import Derived.Below
import Derived.WalkKit
import Derived.KernelRfl
import Derived.RowKit3
import Derived.Deep.LoopGhost
import Derived.Deep.QuietTactic
import Derived.BigQuiet
import Derived.WideLaws
import Derived.Deep.DeepCutAuto
import Derived.Deep.CutBlock
import Derived.Lib.Hide
import Derived.Laws.BitsLemmas
import Derived.Laws.Bits64
import Derived.Laws.BitsAllLaws
import Derived.IntWalk
import Derived.Outline
import Derived.WalkSpells
import Derived.Test.YtnanihffljpdbaaGA
import Derived.Test.YtnanihffljpdbaaGS
import Derived.Deep.RegionHeld3
/- Shelves, at one instance. -/
namespace Go.Proofs.Ytnanihffljpdbaa.Sc6
set_option linter.unusedVariables false
set_option linter.unusedSimpArgs false
open Go.RowKit Go.Proofs.Ytnanihffljpdbaa.Mem

theorem tyshelf_Shelf_int__api_Call_ : TyI Try.prog 29 2 true [.int .i64 0, .slice none 0 0] := ⟨by kernel_rfl, by kernel_rfl, by kernel_rfl⟩
theorem tyS_shelf_Pair_int_api_Call_ : TyI Try.prog 27 1 false [.slice none 0 0] := ⟨by kernel_rfl, by kernel_rfl, by kernel_rfl⟩
theorem tyapi_Call : TyI Try.prog 38 8 true [.int .i64 0, .int .i64 0, .int .i64 0, .int .i64 0, .int .i64 0, .int .i64 0, .int .i64 0, .int .i64 0] := ⟨by kernel_rfl, by kernel_rfl, by kernel_rfl⟩
set_option maxRecDepth 20000
set_option maxHeartbeats 16000000

def insAt (ps : List PairV) (i : Nat) (p : PairV) : List PairV := ps.take i ++ p :: ps.drop i
def delAt (ps : List PairV) (i : Nat) : List PairV := ps.take i ++ ps.drop (i + 1)
theorem map_insAt (ps : List PairV) (i : Nat) (p : PairV) : (insAt ps i p).map rowOf = putIn (ps.map rowOf) i (rowOf p) := by simp [insAt, putIn, List.map_take, List.map_drop]
theorem map_delAt (ps : List PairV) (i : Nat) : (delAt ps i).map rowOf = cutAt (ps.map rowOf) i := by simp [delAt, cutAt, List.map_take, List.map_drop]
/-- what a call hands out: pairs, in new memory or in that of those that came in -/
def Gives (w w' : World) (Rs : List Res) (a : Option Addr) (c : Nat) (ps : List PairV) : Prop := (rS a c 9 (ps.map rowOf)).holds w' ∧ From w Rs (rS a c 9 (ps.map rowOf)).foot ∧ Off [] w w'
theorem cloneP (a : Option Addr) (c : Nat) (ps : List PairV) (w : World) (h : (rS a c 9 (ps.map rowOf)).holds w) (hb : ps.length ≤ 1000000) :
    Calls Try.prog 66 #[.slice a ps.length c] w fun e w' => ∃ a' c', e = .returned (.slice a' ps.length c') ∧ (rA a' c' 97 9 (ps.map rowOf)).holds w' ∧ (∀ q ∈ footA a', w.heap.size ≤ q) ∧ Off [] w w' := by
  have := cloneC a c (ps.map rowOf) w h (by simpa using hb)
  rwa [List.length_map] at this
theorem cloneN (a : Option Addr) (c : Nat) (ps : List PairV) (w : World) (h : (rS a c 9 (ps.map rowOf)).holds w) (hb : ps.length ≤ 1000000) (hn : ps ≠ []) :
    Calls Try.prog 66 #[.slice a ps.length c] w fun e w' => ∃ b c', e = .returned (.slice (some ⟨b, 0, none⟩) ps.length c') ∧ (rA (some ⟨b, 0, none⟩) c' 97 9 (ps.map rowOf)).holds w' ∧ w.heap.size ≤ b ∧ Off [] w w' := by
  refine (cloneP a c ps w h hb).mono ?_
  rintro e w' ⟨a', c', rfl, h1, h2, h3⟩
  rcases h1.1.2 with ⟨_, h0⟩ | ⟨b, cap, cur, he, _⟩
  · exact absurd (List.length_eq_zero_iff.1 (by simpa using h0)) hn
  · injection he with e1 _ _
    subst e1
    exact ⟨b, c', rfl, h1, h2 b (by simp [footA]), h3⟩
theorem insertP (a : Option Addr) (c i g : Nat) (ps : List PairV) (p : PairV) (w : World) (h : (rA a c 97 9 (ps.map rowOf)).holds w) (hg : Blk w g #[.int .i64 p.1, .int .i64 p.2.id, .int .i64 p.2.kind, .int .i64 p.2.src, .int .i64 p.2.dst, .int .i64 p.2.car, .int .i64 p.2.state, .int .i64 p.2.owner, .int .i64 p.2.born] 97) (hgf : g ∉ footA a) (hi : i ≤ ps.length) (hb : ps.length ≤ 1000000) :
    Calls Try.prog 102 #[.slice a ps.length c, .int .i64 i, .slice (some ⟨g, 0, none⟩) 1 1] w fun e w' => ∃ a' c', e = .returned (.slice a' (insAt ps i p).length c') ∧ (rA a' c' 97 9 ((insAt ps i p).map rowOf)).holds w' ∧ (∀ q ∈ footA a', q ∈ footA a ∨ w.heap.size ≤ q) ∧ Off (footA a) w w' := by
  have := insertC a c i g (ps.map rowOf) (rowOf p) w h ⟨rfl, by simp [rowOf, Value.oneCell']⟩ hg hgf (by simpa using hi) (by simpa using hb)
  rw [List.length_map, ← map_insAt, List.length_map] at this
  exact this
theorem deleteP (a : Option Addr) (c i : Nat) (ps : List PairV) (w : World) (h : (rA a c 97 9 (ps.map rowOf)).holds w) (hi : i < ps.length) (hb : ps.length ≤ 1000000) :
    Calls Try.prog 101 #[.slice a ps.length c, .int .i64 i, .int .i64 ((i : Int) + 1)] w fun e w' => e = .returned (.slice a (delAt ps i).length c) ∧ (rA a c 97 9 ((delAt ps i).map rowOf)).holds w' ∧ Off (footA a) w w' := by
  have := deleteC a c i (ps.map rowOf) w h (by simpa using hi) (by simpa using hb)
  rw [List.length_map, ← map_delAt] at this
  have e : (delAt ps i).length = ps.length - 1 := by simp [delAt]; omega
  rw [e]
  exact this
theorem findC (room : Int) (a : Option Addr) (c : Nat) (ps : List PairV) (k : KeyV) (w : World) (h : (rS a c 9 (ps.map rowOf)).holds w) (hs : Sorted ps) (hb : ps.length ≤ 1000000) :
    Calls Try.prog 75 #[.agg #[.int .i64 room, .slice a ps.length c], .int .i64 k] w fun e w' => e = .returned (.tuple #[.int .i64 (posV k ps), .bool (isV k ps)]) ∧ Off [] w w' := by
  have H0 := Lib.hid (Hp.start [] w)
  have H := hp_old H0 h (by decide)
  clear H0 h
  go_enter Try.func75, Try.ntmps75
  go_wp2_with (first
    | ((with_reducible apply g_mem); (focus (exact rfl)); first
      | ((with_reducible apply hpN_box 29 2 H); (focus (exact rfl)); (focus (exact rfl)); (focus (exact rfl)); (focus (exact rfl)); (focus (exact rfl)); intro w5 b2 H5; clear H; have H := H5; clear H5)
      | ((with_reducible apply hpA_load1 tyS_shelf_Pair_int_api_Call_ H); (focus (exact rfl)); (focus (exact rfl)); (focus (first | (exact rfl) | (simp [Region.wanted]; done) | (simp only [Region.wanted]; go_simp; done))); (focus (repeat (first | exact List.Mem.head _ | apply List.Mem.tail))); (focus ((try simp only [List.getElem?_cons_zero, List.getElem?_cons_succ]); exact rfl))))
    | (go_at_call 108; (with_reducible refine (searchC a c ps k _ (hp_held H (by simp)) hs hb).mono ?_); rintro e w5 ⟨rfl, ho⟩; have H5 := Lib.hid (H.out.quiet ho); clear H ho; have H := H5; clear H5))
  go_ret2
  exact ⟨rfl, H.out.off⟩
def withV (room : Int) (k : KeyV) (v : Ca.CallV) (ps : List PairV) : List PairV × Bool :=
  if isV k ps = true then (ps.set (posV k ps) (k, v), true)
  else if ((ps.length : Int) == room) = true then (ps, false)
  else (insAt ps (posV k ps) (k, v), true)
theorem newC (room : Int) (w : World) : Calls Try.prog 42 #[.int .i64 room] w fun e w' => e = .returned (.agg #[.int .i64 (if room < 1 ∨ 65536 < room then 0 else room), .slice none 0 0]) ∧ Off [] w w' := by
  have H := Lib.hid (Hp.start [] w)
  rcases Bool.eq_false_or_eq_true (decide (room < 1)) with q1 | q1
  · have e : (if room < 1 ∨ 65536 < room then 0 else room) = 0 := if_pos (.inl (by simpa using q1))
    rw [e]
    clear e
    go_enter Try.func42, Try.ntmps42
    go_wp2_with (first
      | ((with_reducible apply g_mem); (focus (exact rfl)); first
      | ((with_reducible apply hpN_alloc tyshelf_Shelf_int__api_Call_ 2 H); (focus (exact rfl)); (focus (exact rfl)); (focus (exact rfl)); intro w5 b2 H5; clear H; have H := H5; clear H5)
      | ((with_reducible apply hpA_store tyshelf_Shelf_int__api_Call_ H); (focus (exact rfl)); (focus (exact rfl)); (focus (exact rfl)); (focus (exact rfl)); (focus (exact rfl)); (focus (repeat (first | apply Put.head | apply Put.tail))); (focus (first | (simp; done) | (simp [Value.oneCell']; done))); (focus (first | (simp; done) | (simp [Value.oneCell']; done))); (focus ((try simp only [spl]); exact rfl)); (focus (exact rfl)); intro w5 H5; clear H; have H := H5; clear H5)))
    (try simp only [Exit.inBlock, Exit.then])
    apply hp_ret_c tyshelf_Shelf_int__api_Call_ H
    · exact rfl
    · exact rfl
    · exact rfl
    · (repeat (first | exact List.Mem.head _ | apply List.Mem.tail))
    · exact rfl
    · exact ⟨rfl, H.out.off⟩
  · rcases Bool.eq_false_or_eq_true (decide (65536 < room)) with q2 | q2
    · have e : (if room < 1 ∨ 65536 < room then 0 else room) = 0 := if_pos (.inr (by simpa using q2))
      rw [e]
      clear e
      go_enter Try.func42, Try.ntmps42
      go_wp2_with (first
        | ((with_reducible apply g_mem); (focus (exact rfl)); first
      | ((with_reducible apply hpN_alloc tyshelf_Shelf_int__api_Call_ 2 H); (focus (exact rfl)); (focus (exact rfl)); (focus (exact rfl)); intro w5 b2 H5; clear H; have H := H5; clear H5)
      | ((with_reducible apply hpA_store tyshelf_Shelf_int__api_Call_ H); (focus (exact rfl)); (focus (exact rfl)); (focus (exact rfl)); (focus (exact rfl)); (focus (exact rfl)); (focus (repeat (first | apply Put.head | apply Put.tail))); (focus (first | (simp; done) | (simp [Value.oneCell']; done))); (focus (first | (simp; done) | (simp [Value.oneCell']; done))); (focus ((try simp only [spl]); exact rfl)); (focus (exact rfl)); intro w5 H5; clear H; have H := H5; clear H5)))
      (try simp only [Exit.inBlock, Exit.then])
      apply hp_ret_c tyshelf_Shelf_int__api_Call_ H
      · exact rfl
      · exact rfl
      · exact rfl
      · (repeat (first | exact List.Mem.head _ | apply List.Mem.tail))
      · exact rfl
      · exact ⟨rfl, H.out.off⟩
    · have e : (if room < 1 ∨ 65536 < room then 0 else room) = room := if_neg (by simp at q1 q2; omega)
      rw [e]
      clear e
      go_enter Try.func42, Try.ntmps42
      go_wp2_with (first
        | ((with_reducible apply g_mem); (focus (exact rfl)); first
      | ((with_reducible apply hpN_alloc tyshelf_Shelf_int__api_Call_ 2 H); (focus (exact rfl)); (focus (exact rfl)); (focus (exact rfl)); intro w5 b2 H5; clear H; have H := H5; clear H5)
      | ((with_reducible apply hpA_store tyshelf_Shelf_int__api_Call_ H); (focus (exact rfl)); (focus (exact rfl)); (focus (exact rfl)); (focus (exact rfl)); (focus (exact rfl)); (focus (repeat (first | apply Put.head | apply Put.tail))); (focus (first | (simp; done) | (simp [Value.oneCell']; done))); (focus (first | (simp; done) | (simp [Value.oneCell']; done))); (focus ((try simp only [spl]); exact rfl)); (focus (exact rfl)); intro w5 H5; clear H; have H := H5; clear H5)))
      (try simp only [Exit.inBlock, Exit.then])
      apply hp_ret_c tyshelf_Shelf_int__api_Call_ H
      · exact rfl
      · exact rfl
      · exact rfl
      · (repeat (first | exact List.Mem.head _ | apply List.Mem.tail))
      · exact rfl
      · exact ⟨rfl, H.out.off⟩
theorem roomC (room : Int) (s : Value) (w : World) : Calls Try.prog 70 #[.agg #[.int .i64 room, s]] w fun e w' => e = .returned (.int .i64 room) ∧ Off [] w w' := by
  have H := Lib.hid (Hp.start [] w)
  go_enter Try.func70, Try.ntmps70
  go_wp2_with (first
    | ((with_reducible apply g_mem); (focus (exact rfl)); first
      | ((with_reducible apply hpN_box 29 1 H); (focus (exact rfl)); (focus (exact rfl)); (focus (exact rfl)); (focus (exact rfl)); (focus (exact rfl)); intro w5 b1 H5; clear H; have H := H5; clear H5)
      | ((with_reducible apply hpA_load1 tyint H); (focus (exact rfl)); (focus (exact rfl)); (focus (first | (exact rfl) | (simp [Region.wanted]; done) | (simp only [Region.wanted]; go_simp; done))); (focus (repeat (first | exact List.Mem.head _ | apply List.Mem.tail))); (focus ((try simp only [List.getElem?_cons_zero, List.getElem?_cons_succ]); exact rfl)))))
  go_ret
  exact ⟨rfl, H.out.off⟩
end Go.Proofs.Ytnanihffljpdbaa.Sc6

/- Shelves, at one instance: what is handed out. -/
namespace Go.Proofs.Ytnanihffljpdbaa.Sc6
set_option linter.unusedVariables false
set_option linter.unusedSimpArgs false
open Go.RowKit Go.Proofs.Ytnanihffljpdbaa.Mem

set_option maxRecDepth 20000
set_option maxHeartbeats 16000000

theorem elK : ElI Try.prog 70 3 1 8 := ElI.of (by kernel_rfl) (by kernel_rfl) (by decide)
theorem is_some {k : KeyV} {ps : List PairV} (h : isV k ps = true) : ∃ p, ps[posV k ps]? = some p ∧ p.1 = k ∧ posV k ps < ps.length := by
  unfold isV at h
  cases hp : ps[posV k ps]? with
  | none => rw [hp] at h; cases h
  | some p =>
    rw [hp] at h
    exact ⟨p, rfl, (cmp_eq _ _).1 (by simpa using h), (List.getElem?_eq_some_iff.1 hp).1⟩
theorem pos_le (k : KeyV) (ps : List PairV) : posV k ps ≤ ps.length := List.countP_le_length
def getV (k : KeyV) (ps : List PairV) : Ca.CallV × Bool := if isV k ps = true then (match ps[posV k ps]? with | some p => (p.2, true) | none => (⟨0, 0, 0, 0, 0, 0, 0, 0⟩, false)) else (⟨0, 0, 0, 0, 0, 0, 0, 0⟩, false)
theorem row_at {ps : List PairV} {i : Nat} {p : PairV} (h : ps[i]? = some p) : (ps.map rowOf)[i]? = some [.int .i64 p.1, .int .i64 p.2.id, .int .i64 p.2.kind, .int .i64 p.2.src, .int .i64 p.2.dst, .int .i64 p.2.car, .int .i64 p.2.state, .int .i64 p.2.owner, .int .i64 p.2.born] := by rw [List.getElem?_map, h]; rfl
theorem getC (room : Int) (a : Option Addr) (c : Nat) (ps : List PairV) (k : KeyV) (w : World) (h : (rS a c 9 (ps.map rowOf)).holds w) (hs : Sorted ps) (hb : ps.length ≤ 1000000) :
    Calls Try.prog 53 #[.agg #[.int .i64 room, .slice a ps.length c], .int .i64 k] w fun e w' => e = .returned (.tuple #[.agg #[.int .i64 (getV k ps).1.id, .int .i64 (getV k ps).1.kind, .int .i64 (getV k ps).1.src, .int .i64 (getV k ps).1.dst, .int .i64 (getV k ps).1.car, .int .i64 (getV k ps).1.state, .int .i64 (getV k ps).1.owner, .int .i64 (getV k ps).1.born], .bool (getV k ps).2]) ∧ Off [] w w' := by
  have H0 := Lib.hid (Hp.start [] w)
  have H := hp_old H0 h (by decide)
  clear H0
  rcases Bool.eq_false_or_eq_true (isV k ps) with q | q
  · obtain ⟨p, hp, _, hi⟩ := is_some q
    obtain ⟨y, rfl⟩ := some_of_row h (i := posV k ps) (by simpa using hi)
    have hg : getV k ps = (p.2, true) := by unfold getV; rw [if_pos q, hp]
    have HR := Lib.hid (row_at hp)
    rw [hg]
    clear h hp hg
    go_enter Try.func53, Try.ntmps53
    go_wp2_with (first
      | ((with_reducible apply g_mem); (focus (exact rfl)); first
      | ((with_reducible apply hpN_box 29 2 H); (focus (exact rfl)); (focus (exact rfl)); (focus (exact rfl)); (focus (exact rfl)); (focus (exact rfl)); intro w5 b2 H5; clear H; have H := H5; clear H5)
      | ((with_reducible apply hpN_alloc tyapi_Call 4 H); (focus (exact rfl)); (focus (exact rfl)); (focus (exact rfl)); intro w5 b4 H5; clear H; have H := H5; clear H5)
      | ((with_reducible apply hpN_alloc tyapi_Call 6 H); (focus (exact rfl)); (focus (exact rfl)); (focus (exact rfl)); intro w5 b6 H5; clear H; have H := H5; clear H5)
      | ((with_reducible apply hpA_load tyshelf_Shelf_int__api_Call_ H); (focus (exact rfl)); (focus (exact rfl)); (focus (first | (exact rfl) | (simp [Region.wanted]; done) | (simp only [Region.wanted]; go_simp; done))); (focus (repeat (first | exact List.Mem.head _ | apply List.Mem.tail))); (focus ((try simp only [List.drop_zero, List.drop_succ_cons, List.take_succ_cons, List.take_zero]); exact rfl)); (focus (exact rfl)))
      | ((with_reducible apply hpA_load tyapi_Call H); (focus (exact rfl)); (focus (exact rfl)); (focus (first | (exact rfl) | (simp [Region.wanted]; done) | (simp only [Region.wanted]; go_simp; done))); (focus (repeat (first | exact List.Mem.head _ | apply List.Mem.tail))); (focus ((try simp only [List.drop_zero, List.drop_succ_cons, List.take_succ_cons, List.take_zero]); exact rfl)); (focus (exact rfl)))
      | ((with_reducible apply hpA_store tyapi_Call H); (focus (exact rfl)); (focus (exact rfl)); (focus (exact rfl)); (focus (exact rfl)); (focus (exact rfl)); (focus (repeat (first | apply Put.head | apply Put.tail))); (focus (first | (simp; done) | (simp [Value.oneCell']; done))); (focus (first | (simp; done) | (simp [Value.oneCell']; done))); (focus ((try simp only [spl]); exact rfl)); (focus (exact rfl)); intro w5 H5; clear H; have H := H5; clear H5)
      | ((with_reducible apply hpA_load1 tyS_shelf_Pair_int_api_Call_ H); (focus (exact rfl)); (focus (exact rfl)); (focus (first | (exact rfl) | (simp [Region.wanted]; done) | (simp only [Region.wanted]; go_simp; done))); (focus (repeat (first | exact List.Mem.head _ | apply List.Mem.tail))); (focus ((try simp only [List.getElem?_cons_zero, List.getElem?_cons_succ]); exact rfl))))
      | (go_at_call 75; (with_reducible refine (findC room _ c ps k _ (hp_held H (by simp)) hs hb).mono ?_); rintro e w5 ⟨rfl, ho⟩; have H5 := Lib.hid (H.out.quiet ho); clear H ho; have H := H5; clear H5)
      | (go_at_call 75; (with_reducible refine (findC room _ c ps k _ (hp_held H (by simp)) hs hb).mono ?_); rintro e w5 ⟨rfl, ho⟩; have H5 := Lib.hid (H.out.quiet ho); clear H ho; have H := H5; clear H5)
      | ((with_reducible apply g_mem); (focus (exact rfl)); (with_reducible apply hpS_load tyshelf_Pair_int__api_Call_ H); (focus (exact rfl)); (focus (exact rfl)); (focus (first | (exact rfl) | (simp [Region.wanted]; done) | (simp only [Region.wanted]; go_simp; done))); (focus (repeat (first | exact List.Mem.head _ | apply List.Mem.tail))); (focus (exact HR.out)); (focus (exact rfl)))
      | ((with_reducible apply g_mem); (focus (exact rfl)); (with_reducible apply hpS_loadk 1 tyapi_Call H); (focus (exact rfl)); (focus (exact rfl)); (focus (first | (exact rfl) | (simp [Region.wanted]; done) | (simp only [Region.wanted]; go_simp; done))); (focus (repeat (first | exact List.Mem.head _ | apply List.Mem.tail))); (focus (exact HR.out)); (focus (exact rfl)); (focus (exact rfl)); (focus (first | exact rfl | (simp [Addr.add]; done)))))
    (try simp only [Exit.inBlock, Exit.then])
    apply hp_ret_ct tyapi_Call H
    · exact rfl
    · exact rfl
    · exact rfl
    · exact rfl
    · (repeat (first | exact List.Mem.head _ | apply List.Mem.tail))
    · exact rfl
    · exact ⟨rfl, H.out.off⟩
  · have hg : getV k ps = (⟨0, 0, 0, 0, 0, 0, 0, 0⟩, false) := by unfold getV; rw [if_neg (by simp [q])]
    rw [hg]
    clear h hg
    go_enter Try.func53, Try.ntmps53
    go_wp2_with (first
      | ((with_reducible apply g_mem); (focus (exact rfl)); first
      | ((with_reducible apply hpN_box 29 2 H); (focus (exact rfl)); (focus (exact rfl)); (focus (exact rfl)); (focus (exact rfl)); (focus (exact rfl)); intro w5 b2 H5; clear H; have H := H5; clear H5)
      | ((with_reducible apply hpN_alloc tyapi_Call 4 H); (focus (exact rfl)); (focus (exact rfl)); (focus (exact rfl)); intro w5 b4 H5; clear H; have H := H5; clear H5)
      | ((with_reducible apply hpN_alloc tyapi_Call 6 H); (focus (exact rfl)); (focus (exact rfl)); (focus (exact rfl)); intro w5 b6 H5; clear H; have H := H5; clear H5)
      | ((with_reducible apply hpA_load tyshelf_Shelf_int__api_Call_ H); (focus (exact rfl)); (focus (exact rfl)); (focus (first | (exact rfl) | (simp [Region.wanted]; done) | (simp only [Region.wanted]; go_simp; done))); (focus (repeat (first | exact List.Mem.head _ | apply List.Mem.tail))); (focus ((try simp only [List.drop_zero, List.drop_succ_cons, List.take_succ_cons, List.take_zero]); exact rfl)); (focus (exact rfl)))
      | ((with_reducible apply hpA_load tyapi_Call H); (focus (exact rfl)); (focus (exact rfl)); (focus (first | (exact rfl) | (simp [Region.wanted]; done) | (simp only [Region.wanted]; go_simp; done))); (focus (repeat (first | exact List.Mem.head _ | apply List.Mem.tail))); (focus ((try simp only [List.drop_zero, List.drop_succ_cons, List.take_succ_cons, List.take_zero]); exact rfl)); (focus (exact rfl)))
      | ((with_reducible apply hpA_store tyapi_Call H); (focus (exact rfl)); (focus (exact rfl)); (focus (exact rfl)); (focus (exact rfl)); (focus (exact rfl)); (focus (repeat (first | apply Put.head | apply Put.tail))); (focus (first | (simp; done) | (simp [Value.oneCell']; done))); (focus (first | (simp; done) | (simp [Value.oneCell']; done))); (focus ((try simp only [spl]); exact rfl)); (focus (exact rfl)); intro w5 H5; clear H; have H := H5; clear H5)
      | ((with_reducible apply hpA_load1 tyS_shelf_Pair_int_api_Call_ H); (focus (exact rfl)); (focus (exact rfl)); (focus (first | (exact rfl) | (simp [Region.wanted]; done) | (simp only [Region.wanted]; go_simp; done))); (focus (repeat (first | exact List.Mem.head _ | apply List.Mem.tail))); (focus ((try simp only [List.getElem?_cons_zero, List.getElem?_cons_succ]); exact rfl))))
      | (go_at_call 75; (with_reducible refine (findC room _ c ps k _ (hp_held H (by simp)) hs hb).mono ?_); rintro e w5 ⟨rfl, ho⟩; have H5 := Lib.hid (H.out.quiet ho); clear H ho; have H := H5; clear H5)
      | (go_at_call 75; (with_reducible refine (findC room _ c ps k _ (hp_held H (by simp)) hs hb).mono ?_); rintro e w5 ⟨rfl, ho⟩; have H5 := Lib.hid (H.out.quiet ho); clear H ho; have H := H5; clear H5)
      | ((with_reducible apply g_mem); (focus (exact rfl)); (with_reducible apply hpS_load tyshelf_Pair_int__api_Call_ H); (focus (exact rfl)); (focus (exact rfl)); (focus (first | (exact rfl) | (simp [Region.wanted]; done) | (simp only [Region.wanted]; go_simp; done))); (focus (repeat (first | exact List.Mem.head _ | apply List.Mem.tail))); (focus (exact HR.out)); (focus (exact rfl)))
      | ((with_reducible apply g_mem); (focus (exact rfl)); (with_reducible apply hpS_loadk 1 tyapi_Call H); (focus (exact rfl)); (focus (exact rfl)); (focus (first | (exact rfl) | (simp [Region.wanted]; done) | (simp only [Region.wanted]; go_simp; done))); (focus (repeat (first | exact List.Mem.head _ | apply List.Mem.tail))); (focus (exact HR.out)); (focus (exact rfl)); (focus (exact rfl)); (focus (first | exact rfl | (simp [Addr.add]; done)))))
    (try simp only [Exit.inBlock, Exit.then])
    apply hp_ret_ct tyapi_Call H
    · exact rfl
    · exact rfl
    · exact rfl
    · exact rfl
    · (repeat (first | exact List.Mem.head _ | apply List.Mem.tail))
    · exact rfl
    · exact ⟨rfl, H.out.off⟩
theorem listC (room : Int) (a : Option Addr) (c : Nat) (ps : List PairV) (w : World) (h : (rS a c 9 (ps.map rowOf)).holds w) (hb : ps.length ≤ 1000000) :
    Calls Try.prog 43 #[.agg #[.int .i64 room, .slice a ps.length c]] w fun e w' => ∃ a' c', e = .returned (.slice a' ps.length c') ∧ Gives w w' [] a' c' ps := by
  have H0 := Lib.hid (Hp.start [] w)
  have H := hp_old H0 h (by decide)
  clear H0 h
  go_enter Try.func43, Try.ntmps43
  go_wp2_with (first
    | ((with_reducible apply g_mem); (focus (exact rfl)); first
      | ((with_reducible apply hpN_box 29 1 H); (focus (exact rfl)); (focus (exact rfl)); (focus (exact rfl)); (focus (exact rfl)); (focus (exact rfl)); intro w5 b1 H5; clear H; have H := H5; clear H5)
      | ((with_reducible apply hpA_load1 tyS_shelf_Pair_int_api_Call_ H); (focus (exact rfl)); (focus (exact rfl)); (focus (first | (exact rfl) | (simp [Region.wanted]; done) | (simp only [Region.wanted]; go_simp; done))); (focus (repeat (first | exact List.Mem.head _ | apply List.Mem.tail))); (focus ((try simp only [List.getElem?_cons_zero, List.getElem?_cons_succ]); exact rfl))))
    | (go_at_call 66; (refine (cloneP _ c ps _ (hp_held H (by simp)) hb).mono ?_); rintro e w5 ⟨a5, c5, rfl, hA5, hf5, ho⟩; have H5 := hp_gotA H ho hA5 hf5; clear H ho hA5 hf5; have H := H5; clear H5)
    | ((with_reducible apply g_mem); (focus (exact rfl)); (with_reducible apply hpS_load tyshelf_Pair_int__api_Call_ H); (focus (exact rfl)); (focus (exact rfl)); (focus (first | (exact rfl) | (simp [Region.wanted]; done) | (simp only [Region.wanted]; go_simp; done))); (focus (repeat (first | exact List.Mem.head _ | apply List.Mem.tail))); (focus (exact HR.out)); (focus (exact rfl)))
    | ((with_reducible apply g_mem); (focus (exact rfl)); (with_reducible apply hpS_loadk 1 tyapi_Call H); (focus (exact rfl)); (focus (exact rfl)); (focus (first | (exact rfl) | (simp [Region.wanted]; done) | (simp only [Region.wanted]; go_simp; done))); (focus (repeat (first | exact List.Mem.head _ | apply List.Mem.tail))); (focus (exact HR.out)); (focus (exact rfl)); (focus (exact rfl)); (focus (first | exact rfl | (simp [Addr.add]; done)))))
  go_ret
  exact ⟨a5, c5, rfl, (hp_from H (List.mem_cons_self ..) []).1, (hp_from H (List.mem_cons_self ..) []).2, H.out.off⟩
/-- what a predicate says (under a name that the walk takes for a rule) -/
def asks (f : PairV → Bool) (p : PairV) : Bool := f p
theorem row_one (p : PairV) : ∀ u ∈ rowOf p, u.oneCell' = true := by simp [rowOf, Value.oneCell']
theorem row_cons {ps : List PairV} {i : Nat} (hi : i < ps.length) : ∃ p, ps[i]? = some p ∧ ps.take (i + 1) = ps.take i ++ [p] := ⟨ps[i], List.getElem?_eq_getElem hi, List.take_succ_eq_append_getElem hi⟩

end Go.Proofs.Ytnanihffljpdbaa.Sc6

/- Shelves, at one instance: one pair more. -/
namespace Go.Proofs.Ytnanihffljpdbaa.Sc6
set_option linter.unusedVariables false
set_option linter.unusedSimpArgs false
open Go.RowKit Go.Proofs.Ytnanihffljpdbaa.Mem

set_option maxRecDepth 20000
set_option maxHeartbeats 16000000

theorem with_is {room : Int} {k : KeyV} {v : Ca.CallV} {ps : List PairV} (h : isV k ps = true) : withV room k v ps = (ps.set (posV k ps) (k, v), true) := by unfold withV; rw [if_pos h]
theorem with_full {room : Int} {k : KeyV} {v : Ca.CallV} {ps : List PairV} (h : isV k ps = false) (h2 : ((ps.length : Int) == room) = true) : withV room k v ps = (ps, false) := by unfold withV; rw [if_neg (by simp [h]), if_pos h2]
theorem with_new {room : Int} {k : KeyV} {v : Ca.CallV} {ps : List PairV} (h : isV k ps = false) (h2 : ((ps.length : Int) == room) = false) : withV room k v ps = (insAt ps (posV k ps) (k, v), true) := by unfold withV; rw [if_neg (by simp [h]), if_neg (by simp at h2; simp [h2])]
theorem with1 (room : Int) (a : Option Addr) (c : Nat) (ps : List PairV) (k : KeyV) (v : Ca.CallV) (w : World) (h : (rS a c 9 (ps.map rowOf)).holds w) (hs : Sorted ps) (hb : ps.length ≤ 1000000) (q : isV k ps = true) :
    Calls Try.prog 69 #[.agg #[.int .i64 room, .slice a ps.length c], .int .i64 k, .agg #[.int .i64 v.id, .int .i64 v.kind, .int .i64 v.src, .int .i64 v.dst, .int .i64 v.car, .int .i64 v.state, .int .i64 v.owner, .int .i64 v.born]] w fun e w' => ∃ a' c', e = .returned (.tuple #[.agg #[.int .i64 room, .slice a' ps.length c'], .bool true]) ∧ Gives w w' [rS a c 9 (ps.map rowOf)] a' c' (ps.set (posV k ps) (k, v)) := by
  have H0 := Lib.hid (Hp.start [] w)
  have H := hp_old H0 h (by decide)
  clear H0 h
  obtain ⟨_, _, _, hi⟩ := is_some q
  have hne : ps ≠ [] := by intro e; rw [e] at hi; simp at hi
  have hil : posV k ps < (ps.map rowOf).length := by simpa using hi
  have hcells : (Value.agg #[.int .i64 k, .int .i64 v.id, .int .i64 v.kind, .int .i64 v.src, .int .i64 v.dst, .int .i64 v.car, .int .i64 v.state, .int .i64 v.owner, .int .i64 v.born]).cells = (rowOf (k, v)).toArray := rfl
  have hone := row_one (k, v)
  have HI := Lib.hid hil
  have HO := Lib.hid hone
  have HCE := Lib.hid hcells
  clear hone hcells hil
  go_enter Try.func69, Try.ntmps69
  go_wp2_with (first
    | ((with_reducible apply g_mem); (focus (exact rfl)); first
      | ((with_reducible apply hpN_box 29 3 H); (focus (exact rfl)); (focus (exact rfl)); (focus (exact rfl)); (focus (exact rfl)); (focus (exact rfl)); intro w5 b3 H5; clear H; have H := H5; clear H5)
      | ((with_reducible apply hpN_box 38 5 H); (focus (exact rfl)); (focus (exact rfl)); (focus (exact rfl)); (focus (exact rfl)); (focus (exact rfl)); intro w5 b5 H5; clear H; have H := H5; clear H5)
      | ((with_reducible apply hpN_alloc tyshelf_Shelf_int__api_Call_ 6 H); (focus (exact rfl)); (focus (exact rfl)); (focus (exact rfl)); intro w5 b6 H5; clear H; have H := H5; clear H5)
      | ((with_reducible apply hpA_load tyshelf_Shelf_int__api_Call_ H); (focus (exact rfl)); (focus (exact rfl)); (focus (first | (exact rfl) | (simp [Region.wanted]; done) | (simp only [Region.wanted]; go_simp; done))); (focus (repeat (first | exact List.Mem.head _ | apply List.Mem.tail))); (focus ((try simp only [List.drop_zero, List.drop_succ_cons, List.take_succ_cons, List.take_zero]); exact rfl)); (focus (exact rfl)))
      | ((with_reducible apply hpA_load tyapi_Call H); (focus (exact rfl)); (focus (exact rfl)); (focus (first | (exact rfl) | (simp [Region.wanted]; done) | (simp only [Region.wanted]; go_simp; done))); (focus (repeat (first | exact List.Mem.head _ | apply List.Mem.tail))); (focus ((try simp only [List.drop_zero, List.drop_succ_cons, List.take_succ_cons, List.take_zero]); exact rfl)); (focus (exact rfl)))
      | ((with_reducible apply hpN_alloc tyshelf_Pair_int__api_Call_ 10 H); (focus (exact rfl)); (focus (exact rfl)); (focus (exact rfl)); intro w5 b10 H5; clear H; have H := H5; clear H5)
      | ((with_reducible apply hpA_store tyshelf_Pair_int__api_Call_ H); (focus (exact rfl)); (focus (exact rfl)); (focus (exact rfl)); (focus (exact rfl)); (focus (exact rfl)); (focus (repeat (first | apply Put.head | apply Put.tail))); (focus (first | (simp; done) | (simp [Value.oneCell']; done))); (focus (first | (simp; done) | (simp [Value.oneCell']; done))); (focus ((try simp only [spl]); exact rfl)); (focus (exact rfl)); intro w5 H5; clear H; have H := H5; clear H5)
      | ((with_reducible apply hpA_load1 tyS_shelf_Pair_int_api_Call_ H); (focus (exact rfl)); (focus (exact rfl)); (focus (first | (exact rfl) | (simp [Region.wanted]; done) | (simp only [Region.wanted]; go_simp; done))); (focus (repeat (first | exact List.Mem.head _ | apply List.Mem.tail))); (focus ((try simp only [List.getElem?_cons_zero, List.getElem?_cons_succ]); exact rfl)))
      | ((with_reducible apply hpA_load tyshelf_Pair_int__api_Call_ H); (focus (exact rfl)); (focus (exact rfl)); (focus (first | (exact rfl) | (simp [Region.wanted]; done) | (simp only [Region.wanted]; go_simp; done))); (focus (repeat (first | exact List.Mem.head _ | apply List.Mem.tail))); (focus ((try simp only [List.drop_zero, List.drop_succ_cons, List.take_succ_cons, List.take_zero]); exact rfl)); (focus (exact rfl)))
      | ((with_reducible apply hpA_load1 tyint H); (focus (exact rfl)); (focus (exact rfl)); (focus (first | (exact rfl) | (simp [Region.wanted]; done) | (simp only [Region.wanted]; go_simp; done))); (focus (repeat (first | exact List.Mem.head _ | apply List.Mem.tail))); (focus ((try simp only [List.getElem?_cons_zero, List.getElem?_cons_succ]); exact rfl)))
      | ((with_reducible apply hpA_store tyshelf_Shelf_int__api_Call_ H); (focus (exact rfl)); (focus (exact rfl)); (focus (exact rfl)); (focus (exact rfl)); (focus (exact rfl)); (focus (repeat (first | apply Put.head | apply Put.tail))); (focus (first | (simp; done) | (simp [Value.oneCell']; done))); (focus (first | (simp; done) | (simp [Value.oneCell']; done))); (focus ((try simp only [spl]); exact rfl)); (focus (exact rfl)); intro w5 H5; clear H; have H := H5; clear H5)
      | ((with_reducible apply hpN_bslice Try.underlying27 tyshelf_Pair_int__api_Call_ 47 H); (focus (exact rfl)); (focus (exact rfl)); (focus (first | (exact rfl) | (simp [Region.wanted]; done) | (simp only [Region.wanted]; go_simp; done))); (focus (first | decide | (simp; done))); (focus (first | decide | (simp; done))); (focus (first | (go_simp; exact rfl) | exact rfl)); intro w5 b47 H5; clear H; have H := H5; clear H5))
    | (go_at_call 75; (with_reducible refine (findC room _ c ps k _ (hp_held H (by simp)) hs hb).mono ?_); rintro e w5 ⟨rfl, ho⟩; have H5 := Lib.hid (H.out.quiet ho); clear H ho; have H := H5; clear H5)
    | (go_at_call 75; (with_reducible refine (findC room _ c ps k _ (hp_held H (by simp)) hs hb).mono ?_); rintro e w5 ⟨rfl, ho⟩; have H5 := Lib.hid (H.out.quiet ho); clear H ho; have H := H5; clear H5)
    | (go_at_call 75; (with_reducible refine (findC room _ c ps k _ (hp_held H (by simp)) hs hb).mono ?_); rintro e w5 ⟨rfl, ho⟩; have H5 := Lib.hid (H.out.quiet ho); clear H ho; have H := H5; clear H5)
    | (go_at_call 66; (refine (cloneN _ c ps _ (hp_held H (by simp)) hb hne).mono ?_); rintro e w5 ⟨bN, c5, rfl, hA5, hf5, ho⟩; have H5 := hp_gotA H ho hA5 (by simpa [footA] using hf5); clear H ho hA5 hf5; have H := H5; clear H5)
    | (go_at_call 66; (refine (cloneP _ c ps _ (hp_held H (by simp)) hb).mono ?_); rintro e w5 ⟨a5, c5, rfl, hA5, hf5, ho⟩; have H5 := hp_gotA H ho hA5 hf5; clear H ho hA5 hf5; have H := H5; clear H5)
    | ((with_reducible apply g_mem); (focus (exact rfl)); (refine hp_rowstore (i := posV k ps) (j := 0) (r := rowOf (k, v)) tyshelf_Pair_int__api_Call_ H rfl rfl rfl (by rw [Addr.add_lit, Nat.zero_add]) rfl HCE.out ⟨rfl, HO.out⟩ rfl HI.out ?_); intro w5 H5; clear H; have H := H5; clear H5)
    | ((with_reducible apply g_mem); (focus (exact rfl)); (with_reducible apply hpS_load tyshelf_Pair_int__api_Call_ H); (focus (exact rfl)); (focus (exact rfl)); (focus (first | (exact rfl) | (simp [Region.wanted]; done) | (simp only [Region.wanted]; go_simp; done))); (focus (repeat (first | exact List.Mem.head _ | apply List.Mem.tail))); (focus (exact HR.out)); (focus (exact rfl)))
    | ((with_reducible apply g_mem); (focus (exact rfl)); (with_reducible apply hpS_loadk 1 tyapi_Call H); (focus (exact rfl)); (focus (exact rfl)); (focus (first | (exact rfl) | (simp [Region.wanted]; done) | (simp only [Region.wanted]; go_simp; done))); (focus (repeat (first | exact List.Mem.head _ | apply List.Mem.tail))); (focus (exact HR.out)); (focus (exact rfl)); (focus (exact rfl)); (focus (first | exact rfl | (simp [Addr.add]; done))))
    | ((with_reducible apply g_region 9); obtain ⟨Sx, hS0, hSH, hSd, hSq⟩ := Hp.pack2 H; (apply Hp.useCell2 hSH b3 0; (focus (repeat (first | exact List.Mem.head _ | apply List.Mem.tail))); (focus ((try simp only [List.getElem?_cons_zero, List.getElem?_cons_succ]); exact rfl)); intro hC0); (apply Hp.useCell2 hSH b3 1; (focus (repeat (first | exact List.Mem.head _ | apply List.Mem.tail))); (focus ((try simp only [List.getElem?_cons_zero, List.getElem?_cons_succ]); exact rfl)); intro hC1); (apply Hp.useCell2 hSH b10 0; (focus (repeat (first | exact List.Mem.head _ | apply List.Mem.tail))); (focus ((try simp only [List.getElem?_cons_zero, List.getElem?_cons_succ]); exact rfl)); intro hC2); (apply Hp.useCell2 hSH b10 1; (focus (repeat (first | exact List.Mem.head _ | apply List.Mem.tail))); (focus ((try simp only [List.getElem?_cons_zero, List.getElem?_cons_succ]); exact rfl)); intro hC3); (apply Hp.useCell2 hSH b10 2; (focus (repeat (first | exact List.Mem.head _ | apply List.Mem.tail))); (focus ((try simp only [List.getElem?_cons_zero, List.getElem?_cons_succ]); exact rfl)); intro hC4); (apply Hp.useCell2 hSH b10 3; (focus (repeat (first | exact List.Mem.head _ | apply List.Mem.tail))); (focus ((try simp only [List.getElem?_cons_zero, List.getElem?_cons_succ]); exact rfl)); intro hC5); (apply Hp.useCell2 hSH b10 4; (focus (repeat (first | exact List.Mem.head _ | apply List.Mem.tail))); (focus ((try simp only [List.getElem?_cons_zero, List.getElem?_cons_succ]); exact rfl)); intro hC6); (apply Hp.useCell2 hSH b10 5; (focus (repeat (first | exact List.Mem.head _ | apply List.Mem.tail))); (focus ((try simp only [List.getElem?_cons_zero, List.getElem?_cons_succ]); exact rfl)); intro hC7); (apply Hp.useCell2 hSH b10 6; (focus (repeat (first | exact List.Mem.head _ | apply List.Mem.tail))); (focus ((try simp only [List.getElem?_cons_zero, List.getElem?_cons_succ]); exact rfl)); intro hC8); (apply Hp.useCell2 hSH b10 7; (focus (repeat (first | exact List.Mem.head _ | apply List.Mem.tail))); (focus ((try simp only [List.getElem?_cons_zero, List.getElem?_cons_succ]); exact rfl)); intro hC9); (apply Hp.useCell2 hSH b10 8; (focus (repeat (first | exact List.Mem.head _ | apply List.Mem.tail))); (focus ((try simp only [List.getElem?_cons_zero, List.getElem?_cons_succ]); exact rfl)); intro hC10); go_region_held3 (Keeps Sx) (first | exact hS0 | with_reducible assumption | exact hSd _ (by assumption) | exact hSq _ _ (by assumption) (by assumption)) (first | (go_at_call 66; (refine (cloneN _ c ps _ (hp_held H (by simp)) hb hne).mono ?_); rintro e w5 ⟨bN, c5, rfl, hA5, hf5, ho⟩; have H5 := hp_gotA H ho hA5 (by simpa [footA] using hf5); clear H ho hA5 hf5; have H := H5; clear H5) | (go_at_call 66; (refine (cloneP _ c ps _ (hp_held H (by simp)) hb).mono ?_); rintro e w5 ⟨a5, c5, rfl, hA5, hf5, ho⟩; have H5 := hp_gotA H ho hA5 hf5; clear H ho hA5 hf5; have H := H5; clear H5)); clear H hS0; have H := Lib.hid (hSH _ (by assumption))))
  (try simp only [Exit.inBlock, Exit.then])
  apply hp_ret_ct tyshelf_Shelf_int__api_Call_ H
  · exact rfl
  · exact rfl
  · exact rfl
  · exact rfl
  · (repeat (first | exact List.Mem.head _ | apply List.Mem.tail))
  · exact rfl
  · exact ⟨some ⟨bN, 0, none⟩, c5, rfl, by rw [List.map_set]; exact (hp_from (e := 97) H (by simp) []).1, fun q hq => .inl (by rw [List.map_set] at hq; exact (by simpa using (hp_from (e := 97) H (by simp) []).2 q hq)), H.out.off⟩
theorem with2 (room : Int) (a : Option Addr) (c : Nat) (ps : List PairV) (k : KeyV) (v : Ca.CallV) (w : World) (h : (rS a c 9 (ps.map rowOf)).holds w) (hs : Sorted ps) (hb : ps.length ≤ 1000000) (q : isV k ps = false) (q2 : ((ps.length : Int) == room) = true) :
    Calls Try.prog 69 #[.agg #[.int .i64 room, .slice a ps.length c], .int .i64 k, .agg #[.int .i64 v.id, .int .i64 v.kind, .int .i64 v.src, .int .i64 v.dst, .int .i64 v.car, .int .i64 v.state, .int .i64 v.owner, .int .i64 v.born]] w fun e w' => ∃ a' c', e = .returned (.tuple #[.agg #[.int .i64 room, .slice a' ps.length c'], .bool false]) ∧ Gives w w' [rS a c 9 (ps.map rowOf)] a' c' ps := by
  have H0 := Lib.hid (Hp.start [] w)
  have H := hp_old H0 h (by decide)
  clear H0 h
  go_enter Try.func69, Try.ntmps69
  go_wp2_with (first
    | ((with_reducible apply g_mem); (focus (exact rfl)); first
      | ((with_reducible apply hpN_box 29 3 H); (focus (exact rfl)); (focus (exact rfl)); (focus (exact rfl)); (focus (exact rfl)); (focus (exact rfl)); intro w5 b3 H5; clear H; have H := H5; clear H5)
      | ((with_reducible apply hpN_box 38 5 H); (focus (exact rfl)); (focus (exact rfl)); (focus (exact rfl)); (focus (exact rfl)); (focus (exact rfl)); intro w5 b5 H5; clear H; have H := H5; clear H5)
      | ((with_reducible apply hpN_alloc tyshelf_Shelf_int__api_Call_ 6 H); (focus (exact rfl)); (focus (exact rfl)); (focus (exact rfl)); intro w5 b6 H5; clear H; have H := H5; clear H5)
      | ((with_reducible apply hpA_load tyshelf_Shelf_int__api_Call_ H); (focus (exact rfl)); (focus (exact rfl)); (focus (first | (exact rfl) | (simp [Region.wanted]; done) | (simp only [Region.wanted]; go_simp; done))); (focus (repeat (first | exact List.Mem.head _ | apply List.Mem.tail))); (focus ((try simp only [List.drop_zero, List.drop_succ_cons, List.take_succ_cons, List.take_zero]); exact rfl)); (focus (exact rfl)))
      | ((with_reducible apply hpA_load tyapi_Call H); (focus (exact rfl)); (focus (exact rfl)); (focus (first | (exact rfl) | (simp [Region.wanted]; done) | (simp only [Region.wanted]; go_simp; done))); (focus (repeat (first | exact List.Mem.head _ | apply List.Mem.tail))); (focus ((try simp only [List.drop_zero, List.drop_succ_cons, List.take_succ_cons, List.take_zero]); exact rfl)); (focus (exact rfl)))
      | ((with_reducible apply hpN_alloc tyshelf_Pair_int__api_Call_ 10 H); (focus (exact rfl)); (focus (exact rfl)); (focus (exact rfl)); intro w5 b10 H5; clear H; have H := H5; clear H5)
      | ((with_reducible apply hpA_store tyshelf_Pair_int__api_Call_ H); (focus (exact rfl)); (focus (exact rfl)); (focus (exact rfl)); (focus (exact rfl)); (focus (exact rfl)); (focus (repeat (first | apply Put.head | apply Put.tail))); (focus (first | (simp; done) | (simp [Value.oneCell']; done))); (focus (first | (simp; done) | (simp [Value.oneCell']; done))); (focus ((try simp only [spl]); exact rfl)); (focus (exact rfl)); intro w5 H5; clear H; have H := H5; clear H5)
      | ((with_reducible apply hpA_load1 tyS_shelf_Pair_int_api_Call_ H); (focus (exact rfl)); (focus (exact rfl)); (focus (first | (exact rfl) | (simp [Region.wanted]; done) | (simp only [Region.wanted]; go_simp; done))); (focus (repeat (first | exact List.Mem.head _ | apply List.Mem.tail))); (focus ((try simp only [List.getElem?_cons_zero, List.getElem?_cons_succ]); exact rfl)))
      | ((with_reducible apply hpA_load tyshelf_Pair_int__api_Call_ H); (focus (exact rfl)); (focus (exact rfl)); (focus (first | (exact rfl) | (simp [Region.wanted]; done) | (simp only [Region.wanted]; go_simp; done))); (focus (repeat (first | exact List.Mem.head _ | apply List.Mem.tail))); (focus ((try simp only [List.drop_zero, List.drop_succ_cons, List.take_succ_cons, List.take_zero]); exact rfl)); (focus (exact rfl)))
      | ((with_reducible apply hpA_load1 tyint H); (focus (exact rfl)); (focus (exact rfl)); (focus (first | (exact rfl) | (simp [Region.wanted]; done) | (simp only [Region.wanted]; go_simp; done))); (focus (repeat (first | exact List.Mem.head _ | apply List.Mem.tail))); (focus ((try simp only [List.getElem?_cons_zero, List.getElem?_cons_succ]); exact rfl)))
      | ((with_reducible apply hpA_store tyshelf_Shelf_int__api_Call_ H); (focus (exact rfl)); (focus (exact rfl)); (focus (exact rfl)); (focus (exact rfl)); (focus (exact rfl)); (focus (repeat (first | apply Put.head | apply Put.tail))); (focus (first | (simp; done) | (simp [Value.oneCell']; done))); (focus (first | (simp; done) | (simp [Value.oneCell']; done))); (focus ((try simp only [spl]); exact rfl)); (focus (exact rfl)); intro w5 H5; clear H; have H := H5; clear H5)
      | ((with_reducible apply hpN_bslice Try.underlying27 tyshelf_Pair_int__api_Call_ 47 H); (focus (exact rfl)); (focus (exact rfl)); (focus (first | (exact rfl) | (simp [Region.wanted]; done) | (simp only [Region.wanted]; go_simp; done))); (focus (first | decide | (simp; done))); (focus (first | decide | (simp; done))); (focus (first | (go_simp; exact rfl) | exact rfl)); intro w5 b47 H5; clear H; have H := H5; clear H5))
    | (go_at_call 75; (with_reducible refine (findC room _ c ps k _ (hp_held H (by simp)) hs hb).mono ?_); rintro e w5 ⟨rfl, ho⟩; have H5 := Lib.hid (H.out.quiet ho); clear H ho; have H := H5; clear H5)
    | (go_at_call 75; (with_reducible refine (findC room _ c ps k _ (hp_held H (by simp)) hs hb).mono ?_); rintro e w5 ⟨rfl, ho⟩; have H5 := Lib.hid (H.out.quiet ho); clear H ho; have H := H5; clear H5)
    | (go_at_call 75; (with_reducible refine (findC room _ c ps k _ (hp_held H (by simp)) hs hb).mono ?_); rintro e w5 ⟨rfl, ho⟩; have H5 := Lib.hid (H.out.quiet ho); clear H ho; have H := H5; clear H5)
    | (go_at_call 75; (with_reducible refine (findC room _ c ps k _ (hp_held H (by simp)) hs hb).mono ?_); rintro e w5 ⟨rfl, ho⟩; have H5 := Lib.hid (H.out.quiet ho); clear H ho; have H := H5; clear H5)
    | (go_at_call 66; (refine (cloneP _ c ps _ (hp_held H (by simp)) hb).mono ?_); rintro e w5 ⟨a5, c5, rfl, hA5, hf5, ho⟩; have H5 := hp_gotA H ho hA5 hf5; clear H ho hA5 hf5; have H := H5; clear H5)
    | (go_at_call 66; (refine (cloneP _ c ps _ (hp_held H (by simp)) hb).mono ?_); rintro e w5 ⟨a5, c5, rfl, hA5, hf5, ho⟩; have H5 := hp_gotA H ho hA5 hf5; clear H ho hA5 hf5; have H := H5; clear H5)
    | ((with_reducible apply g_mem); (focus (exact rfl)); (with_reducible apply hpS_load tyshelf_Pair_int__api_Call_ H); (focus (exact rfl)); (focus (exact rfl)); (focus (first | (exact rfl) | (simp [Region.wanted]; done) | (simp only [Region.wanted]; go_simp; done))); (focus (repeat (first | exact List.Mem.head _ | apply List.Mem.tail))); (focus (exact HR.out)); (focus (exact rfl)))
    | ((with_reducible apply g_mem); (focus (exact rfl)); (with_reducible apply hpS_loadk 1 tyapi_Call H); (focus (exact rfl)); (focus (exact rfl)); (focus (first | (exact rfl) | (simp [Region.wanted]; done) | (simp only [Region.wanted]; go_simp; done))); (focus (repeat (first | exact List.Mem.head _ | apply List.Mem.tail))); (focus (exact HR.out)); (focus (exact rfl)); (focus (exact rfl)); (focus (first | exact rfl | (simp [Addr.add]; done))))
    | ((with_reducible apply g_region 9); obtain ⟨Sx, hS0, hSH, hSd, hSq⟩ := Hp.pack2 H; (apply Hp.useCell2 hSH b3 0; (focus (repeat (first | exact List.Mem.head _ | apply List.Mem.tail))); (focus ((try simp only [List.getElem?_cons_zero, List.getElem?_cons_succ]); exact rfl)); intro hC0); (apply Hp.useCell2 hSH b3 1; (focus (repeat (first | exact List.Mem.head _ | apply List.Mem.tail))); (focus ((try simp only [List.getElem?_cons_zero, List.getElem?_cons_succ]); exact rfl)); intro hC1); (apply Hp.useCell2 hSH b10 0; (focus (repeat (first | exact List.Mem.head _ | apply List.Mem.tail))); (focus ((try simp only [List.getElem?_cons_zero, List.getElem?_cons_succ]); exact rfl)); intro hC2); (apply Hp.useCell2 hSH b10 1; (focus (repeat (first | exact List.Mem.head _ | apply List.Mem.tail))); (focus ((try simp only [List.getElem?_cons_zero, List.getElem?_cons_succ]); exact rfl)); intro hC3); (apply Hp.useCell2 hSH b10 2; (focus (repeat (first | exact List.Mem.head _ | apply List.Mem.tail))); (focus ((try simp only [List.getElem?_cons_zero, List.getElem?_cons_succ]); exact rfl)); intro hC4); (apply Hp.useCell2 hSH b10 3; (focus (repeat (first | exact List.Mem.head _ | apply List.Mem.tail))); (focus ((try simp only [List.getElem?_cons_zero, List.getElem?_cons_succ]); exact rfl)); intro hC5); (apply Hp.useCell2 hSH b10 4; (focus (repeat (first | exact List.Mem.head _ | apply List.Mem.tail))); (focus ((try simp only [List.getElem?_cons_zero, List.getElem?_cons_succ]); exact rfl)); intro hC6); (apply Hp.useCell2 hSH b10 5; (focus (repeat (first | exact List.Mem.head _ | apply List.Mem.tail))); (focus ((try simp only [List.getElem?_cons_zero, List.getElem?_cons_succ]); exact rfl)); intro hC7); (apply Hp.useCell2 hSH b10 6; (focus (repeat (first | exact List.Mem.head _ | apply List.Mem.tail))); (focus ((try simp only [List.getElem?_cons_zero, List.getElem?_cons_succ]); exact rfl)); intro hC8); (apply Hp.useCell2 hSH b10 7; (focus (repeat (first | exact List.Mem.head _ | apply List.Mem.tail))); (focus ((try simp only [List.getElem?_cons_zero, List.getElem?_cons_succ]); exact rfl)); intro hC9); (apply Hp.useCell2 hSH b10 8; (focus (repeat (first | exact List.Mem.head _ | apply List.Mem.tail))); (focus ((try simp only [List.getElem?_cons_zero, List.getElem?_cons_succ]); exact rfl)); intro hC10); go_region_held3 (Keeps Sx) (first | exact hS0 | with_reducible assumption | exact hSd _ (by assumption) | exact hSq _ _ (by assumption) (by assumption)) (first | (go_at_call 66; (refine (cloneP _ c ps _ (hp_held H (by simp)) hb).mono ?_); rintro e w5 ⟨a5, c5, rfl, hA5, hf5, ho⟩; have H5 := hp_gotA H ho hA5 hf5; clear H ho hA5 hf5; have H := H5; clear H5) | (go_at_call 66; (refine (cloneP _ c ps _ (hp_held H (by simp)) hb).mono ?_); rintro e w5 ⟨a5, c5, rfl, hA5, hf5, ho⟩; have H5 := hp_gotA H ho hA5 hf5; clear H ho hA5 hf5; have H := H5; clear H5)); clear H hS0; have H := Lib.hid (hSH _ (by assumption))))
  (try simp only [Exit.inBlock, Exit.then])
  apply hp_ret_ct tyshelf_Shelf_int__api_Call_ H
  · exact rfl
  · exact rfl
  · exact rfl
  · exact rfl
  · (repeat (first | exact List.Mem.head _ | apply List.Mem.tail))
  · exact rfl
  · exact ⟨a, c, rfl, hp_held H (by simp), fun q hq => .inr ⟨_, List.mem_cons_self .., rfl, hq⟩, H.out.off⟩

theorem with3 (room : Int) (a : Option Addr) (c : Nat) (ps : List PairV) (k : KeyV) (v : Ca.CallV) (w : World) (h : (rS a c 9 (ps.map rowOf)).holds w) (hs : Sorted ps) (hb : ps.length ≤ 1000000) (q : isV k ps = false) (q2 : ((ps.length : Int) == room) = false) :
    Calls Try.prog 69 #[.agg #[.int .i64 room, .slice a ps.length c], .int .i64 k, .agg #[.int .i64 v.id, .int .i64 v.kind, .int .i64 v.src, .int .i64 v.dst, .int .i64 v.car, .int .i64 v.state, .int .i64 v.owner, .int .i64 v.born]] w fun e w' => ∃ a' c', e = .returned (.tuple #[.agg #[.int .i64 room, .slice a' (insAt ps (posV k ps) (k, v)).length c'], .bool true]) ∧ Gives w w' [rS a c 9 (ps.map rowOf)] a' c' (insAt ps (posV k ps) (k, v)) := by
  have H0 := Lib.hid (Hp.start [] w)
  have H := hp_old H0 h (by decide)
  clear H0 h
  have hpos := pos_le k ps
  go_enter Try.func69, Try.ntmps69
  go_wp2_with (first
    | ((with_reducible apply g_mem); (focus (exact rfl)); first
      | ((with_reducible apply hpN_box 29 3 H); (focus (exact rfl)); (focus (exact rfl)); (focus (exact rfl)); (focus (exact rfl)); (focus (exact rfl)); intro w5 b3 H5; clear H; have H := H5; clear H5)
      | ((with_reducible apply hpN_box 38 5 H); (focus (exact rfl)); (focus (exact rfl)); (focus (exact rfl)); (focus (exact rfl)); (focus (exact rfl)); intro w5 b5 H5; clear H; have H := H5; clear H5)
      | ((with_reducible apply hpN_alloc tyshelf_Shelf_int__api_Call_ 6 H); (focus (exact rfl)); (focus (exact rfl)); (focus (exact rfl)); intro w5 b6 H5; clear H; have H := H5; clear H5)
      | ((with_reducible apply hpA_load tyshelf_Shelf_int__api_Call_ H); (focus (exact rfl)); (focus (exact rfl)); (focus (first | (exact rfl) | (simp [Region.wanted]; done) | (simp only [Region.wanted]; go_simp; done))); (focus (repeat (first | exact List.Mem.head _ | apply List.Mem.tail))); (focus ((try simp only [List.drop_zero, List.drop_succ_cons, List.take_succ_cons, List.take_zero]); exact rfl)); (focus (exact rfl)))
      | ((with_reducible apply hpA_load tyapi_Call H); (focus (exact rfl)); (focus (exact rfl)); (focus (first | (exact rfl) | (simp [Region.wanted]; done) | (simp only [Region.wanted]; go_simp; done))); (focus (repeat (first | exact List.Mem.head _ | apply List.Mem.tail))); (focus ((try simp only [List.drop_zero, List.drop_succ_cons, List.take_succ_cons, List.take_zero]); exact rfl)); (focus (exact rfl)))
      | ((with_reducible apply hpN_alloc tyshelf_Pair_int__api_Call_ 10 H); (focus (exact rfl)); (focus (exact rfl)); (focus (exact rfl)); intro w5 b10 H5; clear H; have H := H5; clear H5)
      | ((with_reducible apply hpA_store tyshelf_Pair_int__api_Call_ H); (focus (exact rfl)); (focus (exact rfl)); (focus (exact rfl)); (focus (exact rfl)); (focus (exact rfl)); (focus (repeat (first | apply Put.head | apply Put.tail))); (focus (first | (simp; done) | (simp [Value.oneCell']; done))); (focus (first | (simp; done) | (simp [Value.oneCell']; done))); (focus ((try simp only [spl]); exact rfl)); (focus (exact rfl)); intro w5 H5; clear H; have H := H5; clear H5)
      | ((with_reducible apply hpA_load1 tyS_shelf_Pair_int_api_Call_ H); (focus (exact rfl)); (focus (exact rfl)); (focus (first | (exact rfl) | (simp [Region.wanted]; done) | (simp only [Region.wanted]; go_simp; done))); (focus (repeat (first | exact List.Mem.head _ | apply List.Mem.tail))); (focus ((try simp only [List.getElem?_cons_zero, List.getElem?_cons_succ]); exact rfl)))
      | ((with_reducible apply hpA_load tyshelf_Pair_int__api_Call_ H); (focus (exact rfl)); (focus (exact rfl)); (focus (first | (exact rfl) | (simp [Region.wanted]; done) | (simp only [Region.wanted]; go_simp; done))); (focus (repeat (first | exact List.Mem.head _ | apply List.Mem.tail))); (focus ((try simp only [List.drop_zero, List.drop_succ_cons, List.take_succ_cons, List.take_zero]); exact rfl)); (focus (exact rfl)))
      | ((with_reducible apply hpA_load1 tyint H); (focus (exact rfl)); (focus (exact rfl)); (focus (first | (exact rfl) | (simp [Region.wanted]; done) | (simp only [Region.wanted]; go_simp; done))); (focus (repeat (first | exact List.Mem.head _ | apply List.Mem.tail))); (focus ((try simp only [List.getElem?_cons_zero, List.getElem?_cons_succ]); exact rfl)))
      | ((with_reducible apply hpA_store tyshelf_Shelf_int__api_Call_ H); (focus (exact rfl)); (focus (exact rfl)); (focus (exact rfl)); (focus (exact rfl)); (focus (exact rfl)); (focus (repeat (first | apply Put.head | apply Put.tail))); (focus (first | (simp; done) | (simp [Value.oneCell']; done))); (focus (first | (simp; done) | (simp [Value.oneCell']; done))); (focus ((try simp only [spl]); exact rfl)); (focus (exact rfl)); intro w5 H5; clear H; have H := H5; clear H5)
      | ((with_reducible apply hpN_bslice Try.underlying27 tyshelf_Pair_int__api_Call_ 47 H); (focus (exact rfl)); (focus (exact rfl)); (focus (first | (exact rfl) | (simp [Region.wanted]; done) | (simp only [Region.wanted]; go_simp; done))); (focus (first | decide | (simp; done))); (focus (first | decide | (simp; done))); (focus (first | (go_simp; exact rfl) | exact rfl)); intro w5 b47 H5; clear H; have H := H5; clear H5))
    | (go_at_call 75; (with_reducible refine (findC room _ c ps k _ (hp_held H (by simp)) hs hb).mono ?_); rintro e w5 ⟨rfl, ho⟩; have H5 := Lib.hid (H.out.quiet ho); clear H ho; have H := H5; clear H5)
    | (go_at_call 75; (with_reducible refine (findC room _ c ps k _ (hp_held H (by simp)) hs hb).mono ?_); rintro e w5 ⟨rfl, ho⟩; have H5 := Lib.hid (H.out.quiet ho); clear H ho; have H := H5; clear H5)
    | (go_at_call 75; (with_reducible refine (findC room _ c ps k _ (hp_held H (by simp)) hs hb).mono ?_); rintro e w5 ⟨rfl, ho⟩; have H5 := Lib.hid (H.out.quiet ho); clear H ho; have H := H5; clear H5)
    | (go_at_call 75; (with_reducible refine (findC room _ c ps k _ (hp_held H (by simp)) hs hb).mono ?_); rintro e w5 ⟨rfl, ho⟩; have H5 := Lib.hid (H.out.quiet ho); clear H ho; have H := H5; clear H5)
    | (go_at_call 75; (with_reducible refine (findC room _ c ps k _ (hp_held H (by simp)) hs hb).mono ?_); rintro e w5 ⟨rfl, ho⟩; have H5 := Lib.hid (H.out.quiet ho); clear H ho; have H := H5; clear H5)
    | (go_at_call 66; (refine (cloneP _ c ps _ (hp_held H (by simp)) hb).mono ?_); rintro e w5 ⟨a5, c5, rfl, hA5, hf5, ho⟩; have H5 := hp_gotA H ho hA5 hf5; clear H ho hA5 hf5; have H := H5; clear H5)
    | (go_at_call 66; (refine (cloneP _ c ps _ (hp_held H (by simp)) hb).mono ?_); rintro e w5 ⟨a5, c5, rfl, hA5, hf5, ho⟩; have H5 := hp_gotA H ho hA5 hf5; clear H ho hA5 hf5; have H := H5; clear H5)
    | (go_at_call 66; (refine (cloneP _ c ps _ (hp_held H (by simp)) hb).mono ?_); rintro e w5 ⟨a5, c5, rfl, hA5, hf5, ho⟩; have H5 := hp_gotA H ho hA5 hf5; clear H ho hA5 hf5; have H := H5; clear H5)
    | ((with_reducible apply g_mem); (focus (exact rfl)); (with_reducible apply hpS_load tyshelf_Pair_int__api_Call_ H); (focus (exact rfl)); (focus (exact rfl)); (focus (first | (exact rfl) | (simp [Region.wanted]; done) | (simp only [Region.wanted]; go_simp; done))); (focus (repeat (first | exact List.Mem.head _ | apply List.Mem.tail))); (focus (exact HR.out)); (focus (exact rfl)))
    | ((with_reducible apply g_mem); (focus (exact rfl)); (with_reducible apply hpS_loadk 1 tyapi_Call H); (focus (exact rfl)); (focus (exact rfl)); (focus (first | (exact rfl) | (simp [Region.wanted]; done) | (simp only [Region.wanted]; go_simp; done))); (focus (repeat (first | exact List.Mem.head _ | apply List.Mem.tail))); (focus (exact HR.out)); (focus (exact rfl)); (focus (exact rfl)); (focus (first | exact rfl | (simp [Addr.add]; done)))))
  have HX := hp_loose H 1 rfl
  clear H
  simp only [List.set_cons_zero, List.set_cons_succ, List.length_cons, List.length_nil, Nat.zero_add, Nat.reduceAdd] at HX
  obtain ⟨Sx, hS0, hSH, hSd, hSq, hSz, hSF, hSW⟩ := Hp.pack3 HX
  (apply Hp.useCell2 hSH b3 0; (focus (repeat (first | exact List.Mem.head _ | apply List.Mem.tail))); (focus ((try simp only [List.getElem?_cons_zero, List.getElem?_cons_succ]); exact rfl)); intro hC0)
  (apply Hp.useCell2 hSH b3 1; (focus (repeat (first | exact List.Mem.head _ | apply List.Mem.tail))); (focus ((try simp only [List.getElem?_cons_zero, List.getElem?_cons_succ]); exact rfl)); intro hC1)
  (apply Hp.useCell2 hSH b10 0; (focus (repeat (first | exact List.Mem.head _ | apply List.Mem.tail))); (focus ((try simp only [List.getElem?_cons_zero, List.getElem?_cons_succ]); exact rfl)); intro hD0)
  (apply Hp.useCell2 hSH b10 1; (focus (repeat (first | exact List.Mem.head _ | apply List.Mem.tail))); (focus ((try simp only [List.getElem?_cons_zero, List.getElem?_cons_succ]); exact rfl)); intro hD1)
  (apply Hp.useCell2 hSH b10 2; (focus (repeat (first | exact List.Mem.head _ | apply List.Mem.tail))); (focus ((try simp only [List.getElem?_cons_zero, List.getElem?_cons_succ]); exact rfl)); intro hD2)
  (apply Hp.useCell2 hSH b10 3; (focus (repeat (first | exact List.Mem.head _ | apply List.Mem.tail))); (focus ((try simp only [List.getElem?_cons_zero, List.getElem?_cons_succ]); exact rfl)); intro hD3)
  (apply Hp.useCell2 hSH b10 4; (focus (repeat (first | exact List.Mem.head _ | apply List.Mem.tail))); (focus ((try simp only [List.getElem?_cons_zero, List.getElem?_cons_succ]); exact rfl)); intro hD4)
  (apply Hp.useCell2 hSH b10 5; (focus (repeat (first | exact List.Mem.head _ | apply List.Mem.tail))); (focus ((try simp only [List.getElem?_cons_zero, List.getElem?_cons_succ]); exact rfl)); intro hD5)
  (apply Hp.useCell2 hSH b10 6; (focus (repeat (first | exact List.Mem.head _ | apply List.Mem.tail))); (focus ((try simp only [List.getElem?_cons_zero, List.getElem?_cons_succ]); exact rfl)); intro hD6)
  (apply Hp.useCell2 hSH b10 7; (focus (repeat (first | exact List.Mem.head _ | apply List.Mem.tail))); (focus ((try simp only [List.getElem?_cons_zero, List.getElem?_cons_succ]); exact rfl)); intro hD7)
  (apply Hp.useCell2 hSH b10 8; (focus (repeat (first | exact List.Mem.head _ | apply List.Mem.tail))); (focus ((try simp only [List.getElem?_cons_zero, List.getElem?_cons_succ]); exact rfl)); intro hD8)
  have hSX : ∀ w' x y, Keeps Sx w' → Keeps Sx ((w'.setCell ⟨b6, 0, none⟩ x).setCell ⟨b6, 1, none⟩ y) := fun w' x y h => by
    have h2 := rX_set2 ((hSH w' h).holds (rX b6 29 2) (by simp)) x y
    exact hSW _ _ b6 29 2 h (by simp) h2.2 h2.1
  have hS6 := Lib.hid (fun w' (h : Keeps Sx w') => rX_cells ((hSH w' h).holds (rX b6 29 2) (by simp)))
  generalize hw5 : w5 = wS at *
  clear hw5
  go_region_held3 (Keeps Sx) (first | exact hS0 | with_reducible assumption | exact hSd _ (by assumption) | exact hSq _ _ (by assumption) (by assumption) | exact hSq _ _ (by assumption) ((Off.refl _ _).alloc _) | exact hSX _ _ _ (by assumption)) (first
    | (go_at_call 66; (with_reducible refine (cloneP a c ps _ (hp_held (Lib.hid (hSH _ (by assumption))) (by simp)) hb).mono ?_); rintro e w6 ⟨a6, c6, rfl, hA6, hf6, ho⟩; have hK6 : Keeps Sx w6 := hSq _ _ (by assumption) ho; have hF6 : ∀ q ∈ footA a6, wS.heap.size ≤ q := fun q hq => Nat.le_trans (hSz _ (by assumption)) (hf6 q hq))
    | (go_at_call 102; (with_reducible refine (insertP a6 c6 (posV k ps) w6.heap.size ps (k, v) (w6.alloc (.cells #[.int .i64 k, .int .i64 v.id, .int .i64 v.kind, .int .i64 v.src, .int .i64 v.dst, .int .i64 v.car, .int .i64 v.state, .int .i64 v.owner, .int .i64 v.born] 97)) (rA_keep hA6 ((Off.refl [] w6).alloc _)) (blk_new w6 _ _) (rA_new hA6) hpos hb).mono ?_); rintro e w7 ⟨a7, c7, rfl, hA7, hf7, ho7⟩; have hK7 := hSF _ _ _ (hSq _ _ hK6 ((Off.refl [] w6).alloc _)) ho7 hF6; obtain ⟨u6, v6, hc6, hd6, hg6, hh6⟩ := hS6.out _ hK7)
    | (go_at_call 102; (refine (insertP a6 c6 (posV k ps) wS.heap.size ps (k, v) w6 hA6 (ho.blk (blk_new wS _ _).drew List.not_mem_nil) (fresh_new (w := wS) (o := .cells #[.int .i64 k, .int .i64 v.id, .int .i64 v.kind, .int .i64 v.src, .int .i64 v.dst, .int .i64 v.car, .int .i64 v.state, .int .i64 v.owner, .int .i64 v.born] 97) hf6) hpos hb).mono ?_); rintro e w7 ⟨a7, c7, rfl, hA7, hf7, ho7⟩; have hK7 := hSF _ _ _ hK6 ho7 hF6; obtain ⟨u6, v6, hc6, hd6, hg6, hh6⟩ := hS6.out _ hK7)
    | fail)
  all_goals
    have hF7 : ∀ q ∈ footA a7, wS.heap.size ≤ q := fun q hq => by
      rcases hf7 q hq with h1 | h1
      · exact hF6 q h1
      · exact Nat.le_trans (hSz w6 hK6) (Nat.le_trans (by first | exact Nat.le_refl _ | exact ((Off.refl [] w6).alloc _).size) h1)
    have H7 := hp_add HX (hSH _ hK7) (r := rA a7 c7 97 9 ((insAt ps (posV k ps) (k, v)).map rowOf)) hA7 (rA_lt hA7) hF7
    have H := hp_fill2 H7 2 rfl (.int .i64 room) (.slice a7 (insAt ps (posV k ps) (k, v)).length c7)
    clear H7
    go_wp2_with fail
    (try simp only [Exit.inBlock, Exit.then])
    apply hp_ret_ct tyshelf_Shelf_int__api_Call_ H
    · exact rfl
    · exact rfl
    · exact rfl
    · exact rfl
    · (repeat (first | exact List.Mem.head _ | apply List.Mem.tail))
    · exact rfl
    · exact ⟨a7, c7, rfl, (hp_from (e := 97) H (by simp) [rS a c 9 (ps.map rowOf)]).1, (hp_from (e := 97) H (by simp) [rS a c 9 (ps.map rowOf)]).2, H.out.off⟩

end Go.Proofs.Ytnanihffljpdbaa.Sc6

/- Shelves, at one instance: a pair less; the order stays. -/
namespace Go.Proofs.Ytnanihffljpdbaa.Sc6
set_option linter.unusedVariables false
set_option linter.unusedSimpArgs false
open Go.RowKit Go.Proofs.Ytnanihffljpdbaa.Mem

set_option maxRecDepth 20000
set_option maxHeartbeats 16000000

theorem without2 (room : Int) (a : Option Addr) (c : Nat) (ps : List PairV) (k : KeyV) (w : World) (h : (rS a c 9 (ps.map rowOf)).holds w) (hs : Sorted ps) (hb : ps.length ≤ 1000000) (q : isV k ps = false) :
    Calls Try.prog 68 #[.agg #[.int .i64 room, .slice a ps.length c], .int .i64 k] w fun e w' => ∃ a' c', e = .returned (.agg #[.int .i64 room, .slice a' ps.length c']) ∧ Gives w w' [rS a c 9 (ps.map rowOf)] a' c' ps := by
  have H0 := Lib.hid (Hp.start [] w)
  have H := hp_old H0 h (by decide)
  clear H0 h
  go_enter Try.func68, Try.ntmps68
  go_wp2_with (first
    | ((with_reducible apply g_mem); (focus (exact rfl)); first
      | ((with_reducible apply hpN_box 29 2 H); (focus (exact rfl)); (focus (exact rfl)); (focus (exact rfl)); (focus (exact rfl)); (focus (exact rfl)); intro w5 b2 H5; clear H; have H := H5; clear H5)
      | ((with_reducible apply hpN_alloc tyshelf_Shelf_int__api_Call_ 4 H); (focus (exact rfl)); (focus (exact rfl)); (focus (exact rfl)); intro w5 b4 H5; clear H; have H := H5; clear H5)
      | ((with_reducible apply hpA_load tyshelf_Shelf_int__api_Call_ H); (focus (exact rfl)); (focus (exact rfl)); (focus (first | (exact rfl) | (simp [Region.wanted]; done) | (simp only [Region.wanted]; go_simp; done))); (focus (repeat (first | exact List.Mem.head _ | apply List.Mem.tail))); (focus ((try simp only [List.drop_zero, List.drop_succ_cons, List.take_succ_cons, List.take_zero]); exact rfl)); (focus (exact rfl)))
      | ((with_reducible apply hpA_store tyshelf_Shelf_int__api_Call_ H); (focus (exact rfl)); (focus (exact rfl)); (focus (exact rfl)); (focus (exact rfl)); (focus (exact rfl)); (focus (repeat (first | apply Put.head | apply Put.tail))); (focus (first | (simp; done) | (simp [Value.oneCell']; done))); (focus (first | (simp; done) | (simp [Value.oneCell']; done))); (focus ((try simp only [spl]); exact rfl)); (focus (exact rfl)); intro w5 H5; clear H; have H := H5; clear H5)
      | ((with_reducible apply hpA_load1 tyint H); (focus (exact rfl)); (focus (exact rfl)); (focus (first | (exact rfl) | (simp [Region.wanted]; done) | (simp only [Region.wanted]; go_simp; done))); (focus (repeat (first | exact List.Mem.head _ | apply List.Mem.tail))); (focus ((try simp only [List.getElem?_cons_zero, List.getElem?_cons_succ]); exact rfl)))
      | ((with_reducible apply hpA_load1 tyS_shelf_Pair_int_api_Call_ H); (focus (exact rfl)); (focus (exact rfl)); (focus (first | (exact rfl) | (simp [Region.wanted]; done) | (simp only [Region.wanted]; go_simp; done))); (focus (repeat (first | exact List.Mem.head _ | apply List.Mem.tail))); (focus ((try simp only [List.getElem?_cons_zero, List.getElem?_cons_succ]); exact rfl))))
    | (go_at_call 75; (with_reducible refine (findC room _ c ps k _ (hp_held H (by simp)) hs hb).mono ?_); rintro e w5 ⟨rfl, ho⟩; have H5 := Lib.hid (H.out.quiet ho); clear H ho; have H := H5; clear H5)
    | (go_at_call 75; (with_reducible refine (findC room _ c ps k _ (hp_held H (by simp)) hs hb).mono ?_); rintro e w5 ⟨rfl, ho⟩; have H5 := Lib.hid (H.out.quiet ho); clear H ho; have H := H5; clear H5)
    | (go_at_call 75; (with_reducible refine (findC room _ c ps k _ (hp_held H (by simp)) hs hb).mono ?_); rintro e w5 ⟨rfl, ho⟩; have H5 := Lib.hid (H.out.quiet ho); clear H ho; have H := H5; clear H5)
    | (go_at_call 75; (with_reducible refine (findC room _ c ps k _ (hp_held H (by simp)) hs hb).mono ?_); rintro e w5 ⟨rfl, ho⟩; have H5 := Lib.hid (H.out.quiet ho); clear H ho; have H := H5; clear H5)
    | (go_at_call 75; (with_reducible refine (findC room _ c ps k _ (hp_held H (by simp)) hs hb).mono ?_); rintro e w5 ⟨rfl, ho⟩; have H5 := Lib.hid (H.out.quiet ho); clear H ho; have H := H5; clear H5)
    | (go_at_call 75; (with_reducible refine (findC room _ c ps k _ (hp_held H (by simp)) hs hb).mono ?_); rintro e w5 ⟨rfl, ho⟩; have H5 := Lib.hid (H.out.quiet ho); clear H ho; have H := H5; clear H5)
    | (go_at_call 75; (with_reducible refine (findC room _ c ps k _ (hp_held H (by simp)) hs hb).mono ?_); rintro e w5 ⟨rfl, ho⟩; have H5 := Lib.hid (H.out.quiet ho); clear H ho; have H := H5; clear H5)
    | (go_at_call 66; (refine (cloneP _ c ps _ (hp_held H (by simp)) hb).mono ?_); rintro e w5 ⟨a5, c5, rfl, hA5, hf5, ho⟩; have H5 := hp_gotA H ho hA5 hf5; clear H ho hA5 hf5; have H := H5; clear H5)
    | (go_at_call 66; (refine (cloneP _ c ps _ (hp_held H (by simp)) hb).mono ?_); rintro e w5 ⟨a5, c5, rfl, hA5, hf5, ho⟩; have H5 := hp_gotA H ho hA5 hf5; clear H ho hA5 hf5; have H := H5; clear H5)
    | (go_at_call 66; (refine (cloneP _ c ps _ (hp_held H (by simp)) hb).mono ?_); rintro e w5 ⟨a5, c5, rfl, hA5, hf5, ho⟩; have H5 := hp_gotA H ho hA5 hf5; clear H ho hA5 hf5; have H := H5; clear H5)
    | (go_at_call 66; (refine (cloneP _ c ps _ (hp_held H (by simp)) hb).mono ?_); rintro e w5 ⟨a5, c5, rfl, hA5, hf5, ho⟩; have H5 := hp_gotA H ho hA5 hf5; clear H ho hA5 hf5; have H := H5; clear H5)
    | (go_at_call 66; (refine (cloneP _ c ps _ (hp_held H (by simp)) hb).mono ?_); rintro e w5 ⟨a5, c5, rfl, hA5, hf5, ho⟩; have H5 := hp_gotA H ho hA5 hf5; clear H ho hA5 hf5; have H := H5; clear H5)
    | ((with_reducible apply g_mem); (focus (exact rfl)); (with_reducible apply hpS_load tyshelf_Pair_int__api_Call_ H); (focus (exact rfl)); (focus (exact rfl)); (focus (first | (exact rfl) | (simp [Region.wanted]; done) | (simp only [Region.wanted]; go_simp; done))); (focus (repeat (first | exact List.Mem.head _ | apply List.Mem.tail))); (focus (exact HR.out)); (focus (exact rfl)))
    | ((with_reducible apply g_mem); (focus (exact rfl)); (with_reducible apply hpS_loadk 1 tyapi_Call H); (focus (exact rfl)); (focus (exact rfl)); (focus (first | (exact rfl) | (simp [Region.wanted]; done) | (simp only [Region.wanted]; go_simp; done))); (focus (repeat (first | exact List.Mem.head _ | apply List.Mem.tail))); (focus (exact HR.out)); (focus (exact rfl)); (focus (exact rfl)); (focus (first | exact rfl | (simp [Addr.add]; done))))
    | ((with_reducible apply g_region 4); obtain ⟨Sx, hS0, hSH, hSd, hSq⟩ := Hp.pack2 H; (apply Hp.useCell2 hSH b2 0; (focus (repeat (first | exact List.Mem.head _ | apply List.Mem.tail))); (focus ((try simp only [List.getElem?_cons_zero, List.getElem?_cons_succ]); exact rfl)); intro hC0); (apply Hp.useCell2 hSH b2 1; (focus (repeat (first | exact List.Mem.head _ | apply List.Mem.tail))); (focus ((try simp only [List.getElem?_cons_zero, List.getElem?_cons_succ]); exact rfl)); intro hC1); go_region_held3 (Keeps Sx) (first | exact hS0 | with_reducible assumption | exact hSd _ (by assumption) | exact hSq _ _ (by assumption) (by assumption)) (first | (go_at_call 66; (refine (cloneP _ c ps _ (hp_held H (by simp)) hb).mono ?_); rintro e w5 ⟨a5, c5, rfl, hA5, hf5, ho⟩; have H5 := hp_gotA H ho hA5 hf5; clear H ho hA5 hf5; have H := H5; clear H5) | (go_at_call 66; (refine (cloneP _ c ps _ (hp_held H (by simp)) hb).mono ?_); rintro e w5 ⟨a5, c5, rfl, hA5, hf5, ho⟩; have H5 := hp_gotA H ho hA5 hf5; clear H ho hA5 hf5; have H := H5; clear H5) | (go_at_call 66; (refine (cloneP _ c ps _ (hp_held H (by simp)) hb).mono ?_); rintro e w5 ⟨a5, c5, rfl, hA5, hf5, ho⟩; have H5 := hp_gotA H ho hA5 hf5; clear H ho hA5 hf5; have H := H5; clear H5) | (go_at_call 66; (refine (cloneP _ c ps _ (hp_held H (by simp)) hb).mono ?_); rintro e w5 ⟨a5, c5, rfl, hA5, hf5, ho⟩; have H5 := hp_gotA H ho hA5 hf5; clear H ho hA5 hf5; have H := H5; clear H5) | (go_at_call 66; (refine (cloneP _ c ps _ (hp_held H (by simp)) hb).mono ?_); rintro e w5 ⟨a5, c5, rfl, hA5, hf5, ho⟩; have H5 := hp_gotA H ho hA5 hf5; clear H ho hA5 hf5; have H := H5; clear H5)); clear H hS0; have H := Lib.hid (hSH _ (by assumption))))
  (try simp only [Exit.inBlock, Exit.then])
  apply hp_ret_c tyshelf_Shelf_int__api_Call_ H
  · exact rfl
  · exact rfl
  · exact rfl
  · (repeat (first | exact List.Mem.head _ | apply List.Mem.tail))
  · exact rfl
  · exact ⟨a, c, rfl, hp_held H (by simp), fun q hq => .inr ⟨_, List.mem_cons_self .., rfl, hq⟩, H.out.off⟩

theorem without1 (room : Int) (a : Option Addr) (c : Nat) (ps : List PairV) (k : KeyV) (w : World) (h : (rS a c 9 (ps.map rowOf)).holds w) (hs : Sorted ps) (hb : ps.length ≤ 1000000) (q : isV k ps = true) :
    Calls Try.prog 68 #[.agg #[.int .i64 room, .slice a ps.length c], .int .i64 k] w fun e w' => ∃ a' c', e = .returned (.agg #[.int .i64 room, .slice a' (delAt ps (posV k ps)).length c']) ∧ Gives w w' [rS a c 9 (ps.map rowOf)] a' c' (delAt ps (posV k ps)) := by
  have H0 := Lib.hid (Hp.start [] w)
  have H := hp_old H0 h (by decide)
  clear H0 h
  obtain ⟨_, _, _, hpos⟩ := is_some q
  have hwr : IntKind.i64.wrap ((posV k ps : Int) + 1) = (posV k ps : Int) + 1 := by rw [IntKind.wrap_i64]; omega
  go_enter Try.func68, Try.ntmps68
  go_wp2_with (first
    | ((with_reducible apply g_mem); (focus (exact rfl)); first
      | ((with_reducible apply hpN_box 29 2 H); (focus (exact rfl)); (focus (exact rfl)); (focus (exact rfl)); (focus (exact rfl)); (focus (exact rfl)); intro w5 b2 H5; clear H; have H := H5; clear H5)
      | ((with_reducible apply hpN_alloc tyshelf_Shelf_int__api_Call_ 4 H); (focus (exact rfl)); (focus (exact rfl)); (focus (exact rfl)); intro w5 b4 H5; clear H; have H := H5; clear H5)
      | ((with_reducible apply hpA_load tyshelf_Shelf_int__api_Call_ H); (focus (exact rfl)); (focus (exact rfl)); (focus (first | (exact rfl) | (simp [Region.wanted]; done) | (simp only [Region.wanted]; go_simp; done))); (focus (repeat (first | exact List.Mem.head _ | apply List.Mem.tail))); (focus ((try simp only [List.drop_zero, List.drop_succ_cons, List.take_succ_cons, List.take_zero]); exact rfl)); (focus (exact rfl)))
      | ((with_reducible apply hpA_store tyshelf_Shelf_int__api_Call_ H); (focus (exact rfl)); (focus (exact rfl)); (focus (exact rfl)); (focus (exact rfl)); (focus (exact rfl)); (focus (repeat (first | apply Put.head | apply Put.tail))); (focus (first | (simp; done) | (simp [Value.oneCell']; done))); (focus (first | (simp; done) | (simp [Value.oneCell']; done))); (focus ((try simp only [spl]); exact rfl)); (focus (exact rfl)); intro w5 H5; clear H; have H := H5; clear H5)
      | ((with_reducible apply hpA_load1 tyint H); (focus (exact rfl)); (focus (exact rfl)); (focus (first | (exact rfl) | (simp [Region.wanted]; done) | (simp only [Region.wanted]; go_simp; done))); (focus (repeat (first | exact List.Mem.head _ | apply List.Mem.tail))); (focus ((try simp only [List.getElem?_cons_zero, List.getElem?_cons_succ]); exact rfl)))
      | ((with_reducible apply hpA_load1 tyS_shelf_Pair_int_api_Call_ H); (focus (exact rfl)); (focus (exact rfl)); (focus (first | (exact rfl) | (simp [Region.wanted]; done) | (simp only [Region.wanted]; go_simp; done))); (focus (repeat (first | exact List.Mem.head _ | apply List.Mem.tail))); (focus ((try simp only [List.getElem?_cons_zero, List.getElem?_cons_succ]); exact rfl))))
    | (go_at_call 75; (with_reducible refine (findC room _ c ps k _ (hp_held H (by simp)) hs hb).mono ?_); rintro e w5 ⟨rfl, ho⟩; have H5 := Lib.hid (H.out.quiet ho); clear H ho; have H := H5; clear H5)
    | (go_at_call 75; (with_reducible refine (findC room _ c ps k _ (hp_held H (by simp)) hs hb).mono ?_); rintro e w5 ⟨rfl, ho⟩; have H5 := Lib.hid (H.out.quiet ho); clear H ho; have H := H5; clear H5)
    | (go_at_call 75; (with_reducible refine (findC room _ c ps k _ (hp_held H (by simp)) hs hb).mono ?_); rintro e w5 ⟨rfl, ho⟩; have H5 := Lib.hid (H.out.quiet ho); clear H ho; have H := H5; clear H5)
    | (go_at_call 75; (with_reducible refine (findC room _ c ps k _ (hp_held H (by simp)) hs hb).mono ?_); rintro e w5 ⟨rfl, ho⟩; have H5 := Lib.hid (H.out.quiet ho); clear H ho; have H := H5; clear H5)
    | (go_at_call 75; (with_reducible refine (findC room _ c ps k _ (hp_held H (by simp)) hs hb).mono ?_); rintro e w5 ⟨rfl, ho⟩; have H5 := Lib.hid (H.out.quiet ho); clear H ho; have H := H5; clear H5)
    | (go_at_call 75; (with_reducible refine (findC room _ c ps k _ (hp_held H (by simp)) hs hb).mono ?_); rintro e w5 ⟨rfl, ho⟩; have H5 := Lib.hid (H.out.quiet ho); clear H ho; have H := H5; clear H5)
    | (go_at_call 75; (with_reducible refine (findC room _ c ps k _ (hp_held H (by simp)) hs hb).mono ?_); rintro e w5 ⟨rfl, ho⟩; have H5 := Lib.hid (H.out.quiet ho); clear H ho; have H := H5; clear H5)
    | (go_at_call 75; (with_reducible refine (findC room _ c ps k _ (hp_held H (by simp)) hs hb).mono ?_); rintro e w5 ⟨rfl, ho⟩; have H5 := Lib.hid (H.out.quiet ho); clear H ho; have H := H5; clear H5)
    | (go_at_call 66; (refine (cloneP _ c ps _ (hp_held H (by simp)) hb).mono ?_); rintro e w5 ⟨a5, c5, rfl, hA5, hf5, ho⟩; have H5 := hp_gotA H ho hA5 hf5; clear H ho hA5 hf5; have H := H5; clear H5)
    | (go_at_call 66; (refine (cloneP _ c ps _ (hp_held H (by simp)) hb).mono ?_); rintro e w5 ⟨a5, c5, rfl, hA5, hf5, ho⟩; have H5 := hp_gotA H ho hA5 hf5; clear H ho hA5 hf5; have H := H5; clear H5)
    | (go_at_call 66; (refine (cloneP _ c ps _ (hp_held H (by simp)) hb).mono ?_); rintro e w5 ⟨a5, c5, rfl, hA5, hf5, ho⟩; have H5 := hp_gotA H ho hA5 hf5; clear H ho hA5 hf5; have H := H5; clear H5)
    | (go_at_call 66; (refine (cloneP _ c ps _ (hp_held H (by simp)) hb).mono ?_); rintro e w5 ⟨a5, c5, rfl, hA5, hf5, ho⟩; have H5 := hp_gotA H ho hA5 hf5; clear H ho hA5 hf5; have H := H5; clear H5)
    | (go_at_call 66; (refine (cloneP _ c ps _ (hp_held H (by simp)) hb).mono ?_); rintro e w5 ⟨a5, c5, rfl, hA5, hf5, ho⟩; have H5 := hp_gotA H ho hA5 hf5; clear H ho hA5 hf5; have H := H5; clear H5)
    | (go_at_call 66; (refine (cloneP _ c ps _ (hp_held H (by simp)) hb).mono ?_); rintro e w5 ⟨a5, c5, rfl, hA5, hf5, ho⟩; have H5 := hp_gotA H ho hA5 hf5; clear H ho hA5 hf5; have H := H5; clear H5)
    | ((with_reducible apply g_mem); (focus (exact rfl)); (with_reducible apply hpS_load tyshelf_Pair_int__api_Call_ H); (focus (exact rfl)); (focus (exact rfl)); (focus (first | (exact rfl) | (simp [Region.wanted]; done) | (simp only [Region.wanted]; go_simp; done))); (focus (repeat (first | exact List.Mem.head _ | apply List.Mem.tail))); (focus (exact HR.out)); (focus (exact rfl)))
    | ((with_reducible apply g_mem); (focus (exact rfl)); (with_reducible apply hpS_loadk 1 tyapi_Call H); (focus (exact rfl)); (focus (exact rfl)); (focus (first | (exact rfl) | (simp [Region.wanted]; done) | (simp only [Region.wanted]; go_simp; done))); (focus (repeat (first | exact List.Mem.head _ | apply List.Mem.tail))); (focus (exact HR.out)); (focus (exact rfl)); (focus (exact rfl)); (focus (first | exact rfl | (simp [Addr.add]; done)))))
  have HX := hp_loose H 0 rfl
  clear H
  simp only [List.set_cons_zero, List.set_cons_succ, List.length_cons, List.length_nil, Nat.zero_add, Nat.reduceAdd] at HX
  obtain ⟨Sx, hS0, hSH, hSd, hSq, hSz, hSF, hSW⟩ := Hp.pack3 HX
  (apply Hp.useCell2 hSH b2 0; (focus (repeat (first | exact List.Mem.head _ | apply List.Mem.tail))); (focus ((try simp only [List.getElem?_cons_zero, List.getElem?_cons_succ]); exact rfl)); intro hC0)
  (apply Hp.useCell2 hSH b2 1; (focus (repeat (first | exact List.Mem.head _ | apply List.Mem.tail))); (focus ((try simp only [List.getElem?_cons_zero, List.getElem?_cons_succ]); exact rfl)); intro hC1)
  have hSX : ∀ w' x y, Keeps Sx w' → Keeps Sx ((w'.setCell ⟨b4, 0, none⟩ x).setCell ⟨b4, 1, none⟩ y) := fun w' x y h => by
    have h2 := rX_set2 ((hSH w' h).holds (rX b4 29 2) (by simp)) x y
    exact hSW _ _ b4 29 2 h (by simp) h2.2 h2.1
  have hS6 := Lib.hid (fun w' (h : Keeps Sx w') => rX_cells ((hSH w' h).holds (rX b4 29 2) (by simp)))
  generalize hw5 : w5 = wS at *
  clear hw5
  go_region_held3 (Keeps Sx) (first | exact hS0 | with_reducible assumption | exact hSd _ (by assumption) | exact hSq _ _ (by assumption) (by assumption) | exact hSq _ _ (by assumption) ((Off.refl _ _).alloc _) | exact hSX _ _ _ (by assumption)) (first
    | (go_at_call 66; (with_reducible refine (cloneP a c ps _ (hp_held (Lib.hid (hSH _ (by assumption))) (by simp)) hb).mono ?_); rintro e w6 ⟨a6, c6, rfl, hA6, hf6, ho⟩; have hK6 : Keeps Sx w6 := hSq _ _ (by assumption) ho; have hF6 : ∀ q ∈ footA a6, wS.heap.size ≤ q := fun q hq => Nat.le_trans (hSz _ (by assumption)) (hf6 q hq))
    | (go_at_call 101; (with_reducible refine (deleteP a6 c6 (posV k ps) ps w6 hA6 hpos hb).mono ?_); rintro e w7 ⟨rfl, hA7, ho7⟩; have hK7 := hSF _ _ _ hK6 ho7 hF6; obtain ⟨u6, v6, hc6, hd6, hg6, hh6⟩ := hS6.out _ hK7)
    | fail)
  have H7 := hp_add HX (hSH _ hK7) (r := rA a6 c6 97 9 ((delAt ps (posV k ps)).map rowOf)) hA7 (rA_lt hA7) hF6
  have H := hp_fill2 H7 1 rfl (.int .i64 room) (.slice a6 (delAt ps (posV k ps)).length c6)
  clear H7
  go_wp2_with fail
  (try simp only [Exit.inBlock, Exit.then])
  apply hp_ret_c tyshelf_Shelf_int__api_Call_ H
  · exact rfl
  · exact rfl
  · exact rfl
  · (repeat (first | exact List.Mem.head _ | apply List.Mem.tail))
  · exact rfl
  · exact ⟨a6, c6, rfl, (hp_from (e := 97) H (by simp) [rS a c 9 (ps.map rowOf)]).1, (hp_from (e := 97) H (by simp) [rS a c 9 (ps.map rowOf)]).2, H.out.off⟩
def withoutV (k : KeyV) (ps : List PairV) : List PairV := if isV k ps = true then delAt ps (posV k ps) else ps
theorem withoutC (room : Int) (a : Option Addr) (c : Nat) (ps : List PairV) (k : KeyV) (w : World) (h : (rS a c 9 (ps.map rowOf)).holds w) (hs : Sorted ps) (hb : ps.length ≤ 1000000) :
    Calls Try.prog 68 #[.agg #[.int .i64 room, .slice a ps.length c], .int .i64 k] w fun e w' => ∃ a' c', e = .returned (.agg #[.int .i64 room, .slice a' (withoutV k ps).length c']) ∧ Gives w w' [rS a c 9 (ps.map rowOf)] a' c' (withoutV k ps) := by
  rcases Bool.eq_false_or_eq_true (isV k ps) with q | q
  · rw [withoutV, if_pos q]
    exact without1 room a c ps k w h hs hb q
  · rw [withoutV, if_neg (by simp [q])]
    exact without2 room a c ps k w h hs hb q
theorem withC (room : Int) (a : Option Addr) (c : Nat) (ps : List PairV) (k : KeyV) (v : Ca.CallV) (w : World) (h : (rS a c 9 (ps.map rowOf)).holds w) (hs : Sorted ps) (hb : ps.length ≤ 1000000) :
    Calls Try.prog 69 #[.agg #[.int .i64 room, .slice a ps.length c], .int .i64 k, .agg #[.int .i64 v.id, .int .i64 v.kind, .int .i64 v.src, .int .i64 v.dst, .int .i64 v.car, .int .i64 v.state, .int .i64 v.owner, .int .i64 v.born]] w fun e w' => ∃ a' c', e = .returned (.tuple #[.agg #[.int .i64 room, .slice a' (withV room k v ps).1.length c'], .bool (withV room k v ps).2]) ∧ Gives w w' [rS a c 9 (ps.map rowOf)] a' c' (withV room k v ps).1 := by
  rcases Bool.eq_false_or_eq_true (isV k ps) with q | q
  · rw [with_is q]
    refine (with1 room a c ps k v w h hs hb q).mono ?_
    rintro e w' ⟨a', c', rfl, hg⟩
    exact ⟨a', c', by simp, hg⟩
  · rcases Bool.eq_false_or_eq_true ((ps.length : Int) == room) with q2 | q2
    · rw [with_full q q2]
      exact with2 room a c ps k v w h hs hb q q2
    · rw [with_new q q2]
      exact with3 room a c ps k v w h hs hb q q2
/-! the order stays -/
theorem sorted_pos {ps : List PairV} (hs : Sorted ps) (k : KeyV) : (∀ x ∈ ps.take (posV k ps), ltK x.1 k = true) ∧ (∀ x ∈ ps.drop (posV k ps), ltK x.1 k = false) := by
  induction ps with
  | nil => simp
  | cons p ps ih =>
    have hs' := List.pairwise_cons.1 hs
    have ih' := ih hs'.2
    cases hp : ltK p.1 k with
    | true =>
      have e : posV k (p :: ps) = posV k ps + 1 := by simp [posV, List.countP_cons, hp]
      rw [e]
      refine ⟨fun x hx => ?_, fun x hx => ih'.2 x (by simpa using hx)⟩
      rw [List.take_succ_cons] at hx
      rcases List.mem_cons.1 hx with rfl | hx
      · exact hp
      · exact ih'.1 x hx
    | false =>
      have h0 : ∀ x ∈ p :: ps, ltK x.1 k = false := by
        intro x hx
        rcases List.mem_cons.1 hx with rfl | hx
        · exact hp
        · cases hc : ltK x.1 k with
          | false => rfl
          | true =>
            have := ltK_trans (hs'.1 x hx) hc
            rw [hp] at this
            cases this
      have e : posV k (p :: ps) = 0 := by
        unfold posV
        rw [List.countP_eq_zero]
        intro x hx
        simp [h0 x hx]
      rw [e]
      exact ⟨by simp, by simpa using h0⟩
theorem is_false_ne {ps : List PairV} (hs : Sorted ps) {k : KeyV} (h : isV k ps = false) : ∀ x ∈ ps, x.1 ≠ k := by
  intro x hx hk
  obtain ⟨i, hi, rfl⟩ := List.getElem_of_mem hx
  obtain ⟨h1, h2⟩ := sorted_pos hs k
  rcases Nat.lt_trichotomy i (posV k ps) with h3 | h3 | h3
  · have := h1 ps[i] (List.mem_take_iff_getElem.2 ⟨i, by omega, rfl⟩)
    rw [hk, ltK_irrefl] at this
    cases this
  · unfold isV at h
    rw [← h3, List.getElem?_eq_getElem hi] at h
    simp only [hk] at h
    rw [(cmp_eq k k).2 rfl] at h
    cases h
  · have hp := List.pairwise_iff_getElem.1 hs (posV k ps) i (by omega) hi h3
    have := h2 ps[posV k ps] (List.mem_drop_iff_getElem.2 ⟨0, by omega, by simp⟩)
    rw [hk] at hp
    rw [this] at hp
    cases hp
theorem sorted_set {ps : List PairV} (hs : Sorted ps) {k : KeyV} (v : Ca.CallV) (h : isV k ps = true) : Sorted (ps.set (posV k ps) (k, v)) := by
  obtain ⟨p, hp, hk, hi⟩ := is_some h
  have e : (ps.set (posV k ps) (k, v)).map (·.1) = ps.map (·.1) := by
    rw [List.map_set]
    apply List.ext_getElem?
    intro j
    rw [List.getElem?_set]
    split
    · rename_i hj
      subst hj
      rw [if_pos (by simpa using hi), List.getElem?_map, hp]
      simp [hk]
    · rfl
  unfold Sorted at *
  rw [← List.pairwise_map (f := fun p : PairV => p.1) (R := fun a b => ltK a b = true)] at *
  rw [e]
  exact hs
theorem sorted_ins {ps : List PairV} (hs : Sorted ps) {k : KeyV} (v : Ca.CallV) (h : isV k ps = false) : Sorted (insAt ps (posV k ps) (k, v)) := by
  obtain ⟨h1, h2⟩ := sorted_pos hs k
  have hne := is_false_ne hs h
  unfold Sorted insAt at *
  rw [List.pairwise_append, List.pairwise_cons]
  refine ⟨hs.sublist (List.take_sublist _ _), ⟨fun x hx => ltK_total (h2 x hx) (hne x (List.mem_of_mem_drop hx)), hs.sublist (List.drop_sublist _ _)⟩, fun x hx y hy => ?_⟩
  rcases List.mem_cons.1 hy with rfl | hy
  · exact h1 x hx
  · exact ltK_trans (h1 x hx) (ltK_total (h2 y hy) (hne y (List.mem_of_mem_drop hy)))
theorem sorted_with {ps : List PairV} (hs : Sorted ps) (room : Int) (k : KeyV) (v : Ca.CallV) : Sorted (withV room k v ps).1 := by
  unfold withV
  split
  · rename_i h
    exact sorted_set hs v h
  · rename_i h
    split
    · exact hs
    · exact sorted_ins hs v (by simpa using h)
theorem sorted_without {ps : List PairV} (hs : Sorted ps) (k : KeyV) : Sorted (withoutV k ps) := by
  unfold withoutV
  split
  · unfold delAt
    exact hs.sublist (by
      conv => rhs; rw [← List.take_append_drop (posV k ps) ps]
      exact List.Sublist.append (List.Sublist.refl _) (List.drop_sublist_drop_left _ (by omega)))
  · exact hs
theorem sorted_keep {ps : List PairV} (hs : Sorted ps) (f : PairV → Bool) : Sorted (ps.filter f) := hs.sublist List.filter_sublist

end Go.Proofs.Ytnanihffljpdbaa.Sc6
