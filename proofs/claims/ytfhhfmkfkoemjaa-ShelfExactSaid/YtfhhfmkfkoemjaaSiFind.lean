/- Where a key is, in pairs by rising keys. -/
import Derived.Test.YtfhhfmkfkoemjaaProg
import Derived.Below
import Derived.WalkKit
import Derived.KernelRfl
import Derived.RowKit3
import Derived.Deep.LoopGhost
import Derived.Deep.QuietTactic
import Derived.BigQuiet
import Derived.WideLaws
import Derived.Deep.DeepCutAuto
import Derived.Deep.CutBlock
import Derived.Lib.Hide
import Derived.Laws.BitsLemmas
import Derived.Laws.Bits64
import Derived.Laws.BitsAllLaws
import Derived.IntWalk
import Derived.Outline
import Derived.WalkSpells
import Derived.Test.YtfhhfmkfkoemjaaMem
import Derived.Test.YtfhhfmkfkoemjaaSl2
import Derived.Sort.Walk0
import Derived.Shelf.SlSorted.Search
namespace Go.Proofs.Ytfhhfmkfkoemjaa.Si6
set_option linter.unusedVariables false
set_option linter.unusedSimpArgs false
open Go.RowKit Go.Proofs.Ytfhhfmkfkoemjaa.Mem

theorem tyshelf_Pair_string__int_ : TyI Try.prog 62 2 true [.string ⟨#[]⟩, .int .i64 0] := ⟨by kernel_rfl, by kernel_rfl, by kernel_rfl⟩
theorem tystring : TyI Try.prog 9 1 false [.string ⟨#[]⟩] := ⟨by kernel_rfl, by kernel_rfl, by kernel_rfl⟩

abbrev KeyV := ByteArray
def ltK (x y : KeyV) : Bool := Op.bytesLess x.toList y.toList
def cmpV (x y : KeyV) : Int := if ltK x y = true then -1 else if (!(ltK x y || x.toList == y.toList)) = true then 1 else 0
theorem ltK_eq (x y : KeyV) : ltK x y = decide (x.toList < y.toList) := bytesLess_eq _ _
theorem cmp_lt (x y : KeyV) : cmpV x y < 0 ↔ ltK x y = true := by
  unfold cmpV
  split
  · simp [*]
  · split <;> simp [*]
theorem cmp_eq (x y : KeyV) : cmpV x y = 0 ↔ x = y := by
  unfold cmpV
  rw [ltK_eq]
  constructor
  · intro h
    split at h
    · cases h
    · split at h
      · cases h
      · rename_i h1 h2
        simp at h1 h2
        have h3 := h2 h1
        rw [ByteArray.toList_eq, ByteArray.toList_eq] at h3
        exact ByteArray.ext (Array.toList_inj.1 h3)
  · rintro rfl
    simp
theorem ltK_trans {x y z : KeyV} (h1 : ltK x y = true) (h2 : ltK y z = true) : ltK x z = true := by
  rw [ltK_eq] at *
  simp at *
  exact List.lt_trans h1 h2
theorem ltK_irrefl (x : KeyV) : ltK x x = false := by
  rw [ltK_eq]
  simp
theorem ltK_total {x y : KeyV} (h1 : ltK x y = false) (h2 : x ≠ y) : ltK y x = true := by
  rw [ltK_eq] at *
  simp only [decide_eq_false_iff_not, decide_eq_true_eq] at *
  refine Classical.byContradiction fun h3 => ?_
  have h := List.le_antisymm (List.not_lt.1 h3) (List.not_lt.1 h1)
  rw [ByteArray.toList_eq, ByteArray.toList_eq] at h
  exact absurd (ByteArray.ext (Array.toList_inj.1 h)) h2

/-- a pair, as it lies in memory -/
abbrev PairV := KeyV × Int
def rowOf (p : PairV) : List Value := [.string p.1, .int .i64 p.2]
theorem row_wf (ps : List PairV) : Wf 2 (ps.map rowOf) := by
  intro r hr
  obtain ⟨p, _, rfl⟩ := List.mem_map.1 hr
  exact ⟨rfl, by simp [rowOf, Value.oneCell']⟩
def Sorted (ps : List PairV) : Prop := ps.Pairwise fun a b => ltK a.1 b.1 = true
def posV (k : KeyV) (ps : List PairV) : Nat := ps.countP fun p => ltK p.1 k
def isV (k : KeyV) (ps : List PairV) : Bool := match ps[posV k ps]? with
  | some p => cmpV p.1 k == 0
  | none => false
theorem count_at {α : Type} (f : α → Bool) (l : List α) (i : Nat) (hi : i ≤ l.length) (h1 : ∀ x ∈ l.take i, f x = true) (h2 : ∀ x ∈ l.drop i, f x = false) : l.countP f = i := by
  rw [← List.take_append_drop i l, List.countP_append, List.countP_eq_length.2 h1, List.countP_eq_zero.2 (fun x hx => by simp [h2 x hx]), List.length_take]
  omega
theorem sorted_left {ps : List PairV} (hs : Sorted ps) {k : KeyV} {m : Nat} (hm : m < ps.length) (h : ltK ps[m].1 k = true) : ∀ x ∈ ps.take (m + 1), ltK x.1 k = true := by
  intro x hx
  obtain ⟨i, hi, rfl⟩ := List.getElem_of_mem hx
  rw [List.length_take] at hi
  rw [List.getElem_take]
  rcases Nat.lt_or_ge i m with h1 | h1
  · exact ltK_trans (List.pairwise_iff_getElem.1 hs i m (by omega) hm h1) h
  · obtain rfl : i = m := by omega
    exact h
theorem sorted_right {ps : List PairV} (hs : Sorted ps) {k : KeyV} {m : Nat} (hm : m < ps.length) (h : ltK ps[m].1 k = false) : ∀ x ∈ ps.drop m, ltK x.1 k = false := by
  intro x hx
  obtain ⟨i, hi, rfl⟩ := List.getElem_of_mem hx
  rw [List.getElem_drop]
  rw [List.length_drop] at hi
  rcases Nat.eq_zero_or_pos i with rfl | h1
  · exact h
  · cases hc : ltK ps[m + i].1 k with
    | false => rfl
    | true =>
      have := ltK_trans (List.pairwise_iff_getElem.1 hs m (m + i) hm (by omega) (by omega)) hc
      rw [h] at this
      cases this
theorem isNaN (x : KeyV) (w : World) : Calls Try.prog 117 #[.string x] w fun e w' => e = .returned (.bool false) ∧ w' = w := by
  go_enter Try.func117, Try.ntmps117
  go_wp2
  go_ret
  exact ⟨by simp, rfl⟩
set_option maxRecDepth 20000 in
theorem compareC (x y : KeyV) (w : World) : Calls Try.prog 89 #[.string x, .string y] w fun e w' => e = .returned (.int .i64 (cmpV x y)) ∧ w' = w := by
  go_enter Try.func89, Try.ntmps89
  go_wp2_with (go_at_call 117; refine (isNaN _ _).mono ?_; rintro e w5 ⟨rfl, rfl⟩)
  all_goals
    go_ret
    exact ⟨by first | (simp_all [cmpV, ltK]; done) | (simp_all [cmpV, ltK]; have hx : ∀ a b : Int, a ≤ b → b ≤ a → (0 : Int) = if b < a then -1 else if a < b then 1 else 0 := (fun a b h1 h2 => by rw [if_neg (by omega), if_neg (by omega)]); exact hx _ _ (by assumption) (by assumption)), rfl⟩
set_option maxRecDepth 20000 in
set_option maxHeartbeats 16000000 in
theorem find1C (p : PairV) (k : KeyV) (w : World) : Calls Try.prog 88 #[.agg #[.string p.1, .int .i64 p.2], .string k] w fun e w' => e = .returned (.int .i64 (cmpV p.1 k)) ∧ Off [] w w' := by
  have H := Lib.hid (Hp.start [] w)
  go_enter Try.func88, Try.ntmps88
  go_wp2_with (first
    | ((with_reducible apply g_mem); (focus (exact rfl)); first
      | ((with_reducible apply hpN_box 62 2 H); (focus (exact rfl)); (focus (exact rfl)); (focus (exact rfl)); (focus (exact rfl)); (focus (exact rfl)); intro w5 b2 H5; clear H; have H := H5; clear H5)
      | ((with_reducible apply hpA_load1 tystring H); (focus (exact rfl)); (focus (exact rfl)); (focus (first | (exact rfl) | (simp [Region.wanted]; done) | (simp only [Region.wanted]; go_simp; done))); (focus (repeat (first | exact List.Mem.head _ | apply List.Mem.tail))); (focus ((try simp only [List.getElem?_cons_zero, List.getElem?_cons_succ]); exact rfl))))
    | (go_at_call 89; (with_reducible refine (compareC _ _ _).mono ?_); rintro e w5 ⟨rfl, rfl⟩))
  go_ret
  exact ⟨rfl, H.out.off⟩
set_option maxRecDepth 20000 in
set_option maxHeartbeats 16000000 in
theorem searchC (a : Option Addr) (c : Nat) (ps : List PairV) (k : KeyV) (w : World) (h : (rS a c 2 (ps.map rowOf)).holds w) (hs : Sorted ps) (hb : ps.length ≤ 1000000) :
    Calls Try.prog 87 #[.slice a ps.length c, .string k, .func (.func 88) #[] #[]] w fun e w' => e = .returned (.tuple #[.int .i64 (posV k ps), .bool (isV k ps)]) ∧ Off [] w w' := by
  have H0 := Lib.hid (Hp.start [] w)
  have H := hp_old H0 h (by decide)
  clear H0
  have HN := Lib.hid (fun i (hi : i < ps.length) => some_of_row h (i := i) (by simpa using hi))
  clear h
  generalize hn : ps.length = n at *
  go_enter Try.func87, Try.ntmps87
  go_wp2_with fail
  go_loopw [9, 10] (fun vi vj wr => ∃ i j : Nat, i ≤ j ∧ j ≤ n ∧ vi = .int .i64 i ∧ vj = .int .i64 j ∧ Hid (∀ x ∈ ps.take i, ltK x.1 k = true) ∧ Hid (∀ x ∈ ps.drop j, ltK x.1 k = false) ∧ Hid (Hp [] w wr [rS a c 2 (ps.map rowOf)])) (fun vi vj _ => (intOf vj - intOf vi).toNat)
  case atStart => exact ⟨0, n, by omega, by omega, rfl, rfl, Lib.hid (by simp), Lib.hid (by simp [← hn]), H⟩
  case round =>
    clear H
    obtain ⟨i, j, hij, hj, rfl, rfl, h1, h2, H⟩ := hrel
    by_cases hlt : i < j
    · obtain ⟨y, hy⟩ := HN.out ((i + j) / 2) (by omega)
      obtain ⟨p, hp⟩ : ∃ p, ps[(i + j) / 2]? = some p := ⟨_, List.getElem?_eq_getElem (by omega)⟩
      have hml : (i + j) / 2 < ps.length := by omega
      have hpe : ps[(i + j) / 2] = p := by rw [List.getElem?_eq_getElem hml] at hp; injection hp
      have hrow : (ps.map rowOf)[(i + j) / 2]? = some [.string p.1, .int .i64 p.2] := by rw [List.getElem?_map, hp]; rfl
      have HR := Lib.hid hrow
      have hL : ltK p.1 k = true → ∀ x ∈ ps.take ((i + j) / 2 + 1), ltK x.1 k = true := fun h => sorted_left hs hml (by rw [hpe]; exact h)
      have hG : ltK p.1 k = false → ∀ x ∈ ps.drop ((i + j) / 2), ltK x.1 k = false := fun h => sorted_right hs hml (by rw [hpe]; exact h)
      have HL := Lib.hid hL
      have HG := Lib.hid hG
      obtain rfl := hy
      clear hrow hp hpe hL hG
      rcases Bool.eq_false_or_eq_true (decide (cmpV p.1 k < 0)) with q | q
      · go_wp2_with (first
          | ((with_reducible apply g_mem); (focus (exact rfl)); (with_reducible apply hpS_load tyshelf_Pair_string__int_ H); (focus (exact rfl)); (focus (exact rfl)); (focus (first | (exact rfl) | (simp [Region.wanted]; done) | (simp only [Region.wanted]; go_simp; done))); (focus (repeat (first | exact List.Mem.head _ | apply List.Mem.tail))); (focus (exact HR.out)); (focus (exact rfl)))
          | (go_at_call 88; (refine (find1C p k _).mono ?_); rintro e w5 ⟨rfl, ho⟩; have H5 := Lib.hid (H.out.quiet ho); clear H ho; have H := H5; clear H5))
        go_roundw
        case rel => exact ⟨(i + j) / 2 + 1, j, by omega, hj, by go_num, rfl, Lib.hid (HL.out ((cmp_lt _ _).1 (by simpa using q))), h2, H⟩
        case measure => simp [intOf]; omega
      · go_wp2_with (first
          | ((with_reducible apply g_mem); (focus (exact rfl)); (with_reducible apply hpS_load tyshelf_Pair_string__int_ H); (focus (exact rfl)); (focus (exact rfl)); (focus (first | (exact rfl) | (simp [Region.wanted]; done) | (simp only [Region.wanted]; go_simp; done))); (focus (repeat (first | exact List.Mem.head _ | apply List.Mem.tail))); (focus (exact HR.out)); (focus (exact rfl)))
          | (go_at_call 88; (refine (find1C p k _).mono ?_); rintro e w5 ⟨rfl, ho⟩; have H5 := Lib.hid (H.out.quiet ho); clear H ho; have H := H5; clear H5))
        go_roundw
        case rel => exact ⟨i, (i + j) / 2, by omega, by omega, rfl, by go_num, h1, Lib.hid (HG.out (by cases hc : ltK p.1 k with | false => rfl | true => exact absurd ((cmp_lt _ _).2 hc) (by simpa using q))), H⟩
        case measure => simp [intOf]; omega
    · obtain rfl : i = j := by omega
      have hpos : posV k ps = i := count_at _ ps i (by omega) h1.out h2.out
      rcases Nat.lt_or_ge i n with hin | hin
      · obtain ⟨y, hy⟩ := HN.out i (by omega)
        obtain ⟨p, hp⟩ : ∃ p, ps[i]? = some p := ⟨_, List.getElem?_eq_getElem (by omega)⟩
        have HR := Lib.hid (show (ps.map rowOf)[i]? = some [.string p.1, .int .i64 p.2] by rw [List.getElem?_map, hp]; rfl)
        have HI := Lib.hid (show isV k ps = (cmpV p.1 k == 0) by unfold isV; rw [hpos, hp])
        obtain rfl := hy
        clear hp
        go_wp2_with (first
          | ((with_reducible apply g_mem); (focus (exact rfl)); (with_reducible apply hpS_load tyshelf_Pair_string__int_ H); (focus (exact rfl)); (focus (exact rfl)); (focus (first | (exact rfl) | (simp [Region.wanted]; done) | (simp only [Region.wanted]; go_simp; done))); (focus (repeat (first | exact List.Mem.head _ | apply List.Mem.tail))); (focus (exact HR.out)); (focus (exact rfl)))
          | (go_at_call 88; (refine (find1C p k _).mono ?_); rintro e w5 ⟨rfl, ho⟩; have H5 := Lib.hid (H.out.quiet ho); clear H ho; have H := H5; clear H5))
        go_ret2
        exact ⟨by rw [HI.out, hpos]; rfl, H.out.off⟩
      · have HI := Lib.hid (show isV k ps = false by unfold isV; rw [hpos, List.getElem?_eq_none (by omega)])
        go_wp2_with fail
        go_ret2
        exact ⟨by rw [HI.out, hpos]; rfl, H.out.off⟩

end Go.Proofs.Ytfhhfmkfkoemjaa.Si6
