/- Where a key is, in pairs by rising keys. -/
import Derived.Test.YtnanihffljpdbaaProg
import Derived.Below
import Derived.WalkKit
import Derived.KernelRfl
import Derived.RowKit3
import Derived.Deep.LoopGhost
import Derived.Deep.QuietTactic
import Derived.BigQuiet
import Derived.WideLaws
import Derived.Deep.DeepCutAuto
import Derived.Deep.CutBlock
import Derived.Lib.Hide
import Derived.Laws.BitsLemmas
import Derived.Laws.Bits64
import Derived.Laws.BitsAllLaws
import Derived.IntWalk
import Derived.Outline
import Derived.WalkSpells
import Derived.Test.YtnanihffljpdbaaMem
import Derived.Test.YtnanihffljpdbaaCall1
import Derived.Test.YtnanihffljpdbaaSl2
import Derived.Sort.Walk0
import Derived.Shelf.SlSorted.Search
namespace Go.Proofs.Ytnanihffljpdbaa.Sc6
set_option linter.unusedVariables false
set_option linter.unusedSimpArgs false
open Go.RowKit Go.Proofs.Ytnanihffljpdbaa.Mem

theorem tyshelf_Pair_int__api_Call_ : TyI Try.prog 97 9 true [.int .i64 0, .int .i64 0, .int .i64 0, .int .i64 0, .int .i64 0, .int .i64 0, .int .i64 0, .int .i64 0, .int .i64 0] := ⟨by kernel_rfl, by kernel_rfl, by kernel_rfl⟩
theorem tyint : TyI Try.prog 3 1 false [.int .i64 0] := ⟨by kernel_rfl, by kernel_rfl, by kernel_rfl⟩

abbrev KeyV := Int
def ltK (x y : Int) : Bool := decide (x < y)
def cmpV (x y : Int) : Int := if ltK x y = true then -1 else if decide (y < x) = true then 1 else 0
theorem cmp_lt (x y : Int) : cmpV x y < 0 ↔ ltK x y = true := by
  unfold cmpV ltK
  simp only [decide_eq_true_eq]
  repeat' split
  all_goals first | omega | (simp; done) | (simp; omega)
theorem cmp_eq (x y : Int) : cmpV x y = 0 ↔ x = y := by
  unfold cmpV ltK
  simp only [decide_eq_true_eq]
  repeat' split
  all_goals first | omega | (simp; done) | (simp; omega)
theorem ltK_trans {x y z : Int} (h1 : ltK x y = true) (h2 : ltK y z = true) : ltK x z = true := by
  unfold ltK at *
  simp at *
  omega
theorem ltK_irrefl (x : Int) : ltK x x = false := by simp [ltK]
theorem ltK_total {x y : Int} (h1 : ltK x y = false) (h2 : x ≠ y) : ltK y x = true := by
  unfold ltK at *
  simp at *
  omega

/-- a pair, as it lies in memory -/
abbrev PairV := KeyV × Ca.CallV
def rowOf (p : PairV) : List Value := [.int .i64 p.1, .int .i64 p.2.id, .int .i64 p.2.kind, .int .i64 p.2.src, .int .i64 p.2.dst, .int .i64 p.2.car, .int .i64 p.2.state, .int .i64 p.2.owner, .int .i64 p.2.born]
def Sorted (ps : List PairV) : Prop := ps.Pairwise fun a b => ltK a.1 b.1 = true
def posV (k : KeyV) (ps : List PairV) : Nat := ps.countP fun p => ltK p.1 k
def isV (k : KeyV) (ps : List PairV) : Bool := match ps[posV k ps]? with
  | some p => cmpV p.1 k == 0
  | none => false
theorem count_at {α : Type} (f : α → Bool) (l : List α) (i : Nat) (hi : i ≤ l.length) (h1 : ∀ x ∈ l.take i, f x = true) (h2 : ∀ x ∈ l.drop i, f x = false) : l.countP f = i := by
  rw [← List.take_append_drop i l, List.countP_append, List.countP_eq_length.2 h1, List.countP_eq_zero.2 (fun x hx => by simp [h2 x hx]), List.length_take]
  omega
theorem sorted_left {ps : List PairV} (hs : Sorted ps) {k : KeyV} {m : Nat} (hm : m < ps.length) (h : ltK ps[m].1 k = true) : ∀ x ∈ ps.take (m + 1), ltK x.1 k = true := by
  intro x hx
  obtain ⟨i, hi, rfl⟩ := List.getElem_of_mem hx
  rw [List.length_take] at hi
  rw [List.getElem_take]
  rcases Nat.lt_or_ge i m with h1 | h1
  · exact ltK_trans (List.pairwise_iff_getElem.1 hs i m (by omega) hm h1) h
  · obtain rfl : i = m := by omega
    exact h
theorem sorted_right {ps : List PairV} (hs : Sorted ps) {k : KeyV} {m : Nat} (hm : m < ps.length) (h : ltK ps[m].1 k = false) : ∀ x ∈ ps.drop m, ltK x.1 k = false := by
  intro x hx
  obtain ⟨i, hi, rfl⟩ := List.getElem_of_mem hx
  rw [List.getElem_drop]
  rw [List.length_drop] at hi
  rcases Nat.eq_zero_or_pos i with rfl | h1
  · exact h
  · cases hc : ltK ps[m + i].1 k with
    | false => rfl
    | true =>
      have := ltK_trans (List.pairwise_iff_getElem.1 hs m (m + i) hm (by omega) (by omega)) hc
      rw [h] at this
      cases this
theorem isNaN (x : KeyV) (w : World) : Calls Try.prog 117 #[.int .i64 x] w fun e w' => e = .returned (.bool false) ∧ w' = w := by
  go_enter Try.func117, Try.ntmps117
  go_wp2
  go_ret
  exact ⟨by simp, rfl⟩
set_option maxRecDepth 20000 in
theorem compareC (x y : KeyV) (w : World) : Calls Try.prog 110 #[.int .i64 x, .int .i64 y] w fun e w' => e = .returned (.int .i64 (cmpV x y)) ∧ w' = w := by
  go_enter Try.func110, Try.ntmps110
  go_wp2_with (go_at_call 117; refine (isNaN _ _).mono ?_; rintro e w5 ⟨rfl, rfl⟩)
  all_goals
    go_ret
    exact ⟨by first | (simp_all [cmpV, ltK]; done) | (simp_all [cmpV, ltK]; have hx : ∀ a b : Int, a ≤ b → b ≤ a → (0 : Int) = if b < a then -1 else if a < b then 1 else 0 := (fun a b h1 h2 => by rw [if_neg (by omega), if_neg (by omega)]); exact hx _ _ (by assumption) (by assumption)), rfl⟩
set_option maxRecDepth 20000 in
set_option maxHeartbeats 16000000 in
theorem find1C (p : PairV) (k : KeyV) (w : World) : Calls Try.prog 109 #[.agg #[.int .i64 p.1, .int .i64 p.2.id, .int .i64 p.2.kind, .int .i64 p.2.src, .int .i64 p.2.dst, .int .i64 p.2.car, .int .i64 p.2.state, .int .i64 p.2.owner, .int .i64 p.2.born], .int .i64 k] w fun e w' => e = .returned (.int .i64 (cmpV p.1 k)) ∧ Off [] w w' := by
  have H := Lib.hid (Hp.start [] w)
  go_enter Try.func109, Try.ntmps109
  go_wp2_with (first
    | ((with_reducible apply g_mem); (focus (exact rfl)); first
      | ((with_reducible apply hpN_box 97 2 H); (focus (exact rfl)); (focus (exact rfl)); (focus (exact rfl)); (focus (exact rfl)); (focus (exact rfl)); intro w5 b2 H5; clear H; have H := H5; clear H5)
      | ((with_reducible apply hpA_load1 tyint H); (focus (exact rfl)); (focus (exact rfl)); (focus (first | (exact rfl) | (simp [Region.wanted]; done) | (simp only [Region.wanted]; go_simp; done))); (focus (repeat (first | exact List.Mem.head _ | apply List.Mem.tail))); (focus ((try simp only [List.getElem?_cons_zero, List.getElem?_cons_succ]); exact rfl))))
    | (go_at_call 110; (with_reducible refine (compareC _ _ _).mono ?_); rintro e w5 ⟨rfl, rfl⟩))
  go_ret
  exact ⟨rfl, H.out.off⟩
set_option maxRecDepth 20000 in
set_option maxHeartbeats 16000000 in
theorem searchC (a : Option Addr) (c : Nat) (ps : List PairV) (k : KeyV) (w : World) (h : (rS a c 9 (ps.map rowOf)).holds w) (hs : Sorted ps) (hb : ps.length ≤ 1000000) :
    Calls Try.prog 108 #[.slice a ps.length c, .int .i64 k, .func (.func 109) #[] #[]] w fun e w' => e = .returned (.tuple #[.int .i64 (posV k ps), .bool (isV k ps)]) ∧ Off [] w w' := by
  have H0 := Lib.hid (Hp.start [] w)
  have H := hp_old H0 h (by decide)
  clear H0
  have HN := Lib.hid (fun i (hi : i < ps.length) => some_of_row h (i := i) (by simpa using hi))
  clear h
  generalize hn : ps.length = n at *
  go_enter Try.func108, Try.ntmps108
  go_wp2_with fail
  go_loopw [9, 10] (fun vi vj wr => ∃ i j : Nat, i ≤ j ∧ j ≤ n ∧ vi = .int .i64 i ∧ vj = .int .i64 j ∧ Hid (∀ x ∈ ps.take i, ltK x.1 k = true) ∧ Hid (∀ x ∈ ps.drop j, ltK x.1 k = false) ∧ Hid (Hp [] w wr [rS a c 9 (ps.map rowOf)])) (fun vi vj _ => (intOf vj - intOf vi).toNat)
  case atStart => exact ⟨0, n, by omega, by omega, rfl, rfl, Lib.hid (by simp), Lib.hid (by simp [← hn]), H⟩
  case round =>
    clear H
    obtain ⟨i, j, hij, hj, rfl, rfl, h1, h2, H⟩ := hrel
    by_cases hlt : i < j
    · obtain ⟨y, hy⟩ := HN.out ((i + j) / 2) (by omega)
      obtain ⟨p, hp⟩ : ∃ p, ps[(i + j) / 2]? = some p := ⟨_, List.getElem?_eq_getElem (by omega)⟩
      have hml : (i + j) / 2 < ps.length := by omega
      have hpe : ps[(i + j) / 2] = p := by rw [List.getElem?_eq_getElem hml] at hp; injection hp
      have hrow : (ps.map rowOf)[(i + j) / 2]? = some [.int .i64 p.1, .int .i64 p.2.id, .int .i64 p.2.kind, .int .i64 p.2.src, .int .i64 p.2.dst, .int .i64 p.2.car, .int .i64 p.2.state, .int .i64 p.2.owner, .int .i64 p.2.born] := by rw [List.getElem?_map, hp]; rfl
      have HR := Lib.hid hrow
      have hL : ltK p.1 k = true → ∀ x ∈ ps.take ((i + j) / 2 + 1), ltK x.1 k = true := fun h => sorted_left hs hml (by rw [hpe]; exact h)
      have hG : ltK p.1 k = false → ∀ x ∈ ps.drop ((i + j) / 2), ltK x.1 k = false := fun h => sorted_right hs hml (by rw [hpe]; exact h)
      have HL := Lib.hid hL
      have HG := Lib.hid hG
      obtain rfl := hy
      clear hrow hp hpe hL hG
      rcases Bool.eq_false_or_eq_true (decide (cmpV p.1 k < 0)) with q | q
      · go_wp2_with (first
          | ((with_reducible apply g_mem); (focus (exact rfl)); (with_reducible apply hpS_load tyshelf_Pair_int__api_Call_ H); (focus (exact rfl)); (focus (exact rfl)); (focus (first | (exact rfl) | (simp [Region.wanted]; done) | (simp only [Region.wanted]; go_simp; done))); (focus (repeat (first | exact List.Mem.head _ | apply List.Mem.tail))); (focus (exact HR.out)); (focus (exact rfl)))
          | (go_at_call 109; (refine (find1C p k _).mono ?_); rintro e w5 ⟨rfl, ho⟩; have H5 := Lib.hid (H.out.quiet ho); clear H ho; have H := H5; clear H5))
        go_roundw
        case rel => exact ⟨(i + j) / 2 + 1, j, by omega, hj, by go_num, rfl, Lib.hid (HL.out ((cmp_lt _ _).1 (by simpa using q))), h2, H⟩
        case measure => simp [intOf]; omega
      · go_wp2_with (first
          | ((with_reducible apply g_mem); (focus (exact rfl)); (with_reducible apply hpS_load tyshelf_Pair_int__api_Call_ H); (focus (exact rfl)); (focus (exact rfl)); (focus (first | (exact rfl) | (simp [Region.wanted]; done) | (simp only [Region.wanted]; go_simp; done))); (focus (repeat (first | exact List.Mem.head _ | apply List.Mem.tail))); (focus (exact HR.out)); (focus (exact rfl)))
          | (go_at_call 109; (refine (find1C p k _).mono ?_); rintro e w5 ⟨rfl, ho⟩; have H5 := Lib.hid (H.out.quiet ho); clear H ho; have H := H5; clear H5))
        go_roundw
        case rel => exact ⟨i, (i + j) / 2, by omega, by omega, rfl, by go_num, h1, Lib.hid (HG.out (by cases hc : ltK p.1 k with | false => rfl | true => exact absurd ((cmp_lt _ _).2 hc) (by simpa using q))), H⟩
        case measure => simp [intOf]; omega
    · obtain rfl : i = j := by omega
      have hpos : posV k ps = i := count_at _ ps i (by omega) h1.out h2.out
      rcases Nat.lt_or_ge i n with hin | hin
      · obtain ⟨y, hy⟩ := HN.out i (by omega)
        obtain ⟨p, hp⟩ : ∃ p, ps[i]? = some p := ⟨_, List.getElem?_eq_getElem (by omega)⟩
        have HR := Lib.hid (show (ps.map rowOf)[i]? = some [.int .i64 p.1, .int .i64 p.2.id, .int .i64 p.2.kind, .int .i64 p.2.src, .int .i64 p.2.dst, .int .i64 p.2.car, .int .i64 p.2.state, .int .i64 p.2.owner, .int .i64 p.2.born] by rw [List.getElem?_map, hp]; rfl)
        have HI := Lib.hid (show isV k ps = (cmpV p.1 k == 0) by unfold isV; rw [hpos, hp])
        obtain rfl := hy
        clear hp
        go_wp2_with (first
          | ((with_reducible apply g_mem); (focus (exact rfl)); (with_reducible apply hpS_load tyshelf_Pair_int__api_Call_ H); (focus (exact rfl)); (focus (exact rfl)); (focus (first | (exact rfl) | (simp [Region.wanted]; done) | (simp only [Region.wanted]; go_simp; done))); (focus (repeat (first | exact List.Mem.head _ | apply List.Mem.tail))); (focus (exact HR.out)); (focus (exact rfl)))
          | (go_at_call 109; (refine (find1C p k _).mono ?_); rintro e w5 ⟨rfl, ho⟩; have H5 := Lib.hid (H.out.quiet ho); clear H ho; have H := H5; clear H5))
        go_ret2
        exact ⟨by rw [HI.out, hpos]; rfl, H.out.off⟩
      · have HI := Lib.hid (show isV k ps = false by unfold isV; rw [hpos, List.getElem?_eq_none (by omega)])
        go_wp2_with fail
        go_ret2
        exact ⟨by rw [HI.out, hpos]; rfl, H.out.off⟩

end Go.Proofs.Ytnanihffljpdbaa.Sc6
