/- Shelves, at one instance: what is handed out. -/
import Derived.Test.YtfhhfmkfkoemjaaProg
import Derived.Below
import Derived.WalkKit
import Derived.KernelRfl
import Derived.RowKit3
import Derived.Deep.LoopGhost
import Derived.Deep.QuietTactic
import Derived.BigQuiet
import Derived.WideLaws
import Derived.Deep.DeepCutAuto
import Derived.Deep.CutBlock
import Derived.Lib.Hide
import Derived.Laws.BitsLemmas
import Derived.Laws.Bits64
import Derived.Laws.BitsAllLaws
import Derived.IntWalk
import Derived.Outline
import Derived.WalkSpells
import Derived.Test.YtfhhfmkfkoemjaaMem
import Derived.Test.YtfhhfmkfkoemjaaSiMet
namespace Go.Proofs.Ytfhhfmkfkoemjaa.Si6
set_option linter.unusedVariables false
set_option linter.unusedSimpArgs false
open Go.RowKit Go.Proofs.Ytfhhfmkfkoemjaa.Mem

set_option maxRecDepth 20000
set_option maxHeartbeats 16000000

theorem elK : ElI Try.prog 40 9 1 16 := ElI.of (by kernel_rfl) (by kernel_rfl) (by decide)
theorem is_some {k : KeyV} {ps : List PairV} (h : isV k ps = true) : ∃ p, ps[posV k ps]? = some p ∧ p.1 = k ∧ posV k ps < ps.length := by
  unfold isV at h
  cases hp : ps[posV k ps]? with
  | none => rw [hp] at h; cases h
  | some p =>
    rw [hp] at h
    exact ⟨p, rfl, (cmp_eq _ _).1 (by simpa using h), (List.getElem?_eq_some_iff.1 hp).1⟩
theorem pos_le (k : KeyV) (ps : List PairV) : posV k ps ≤ ps.length := List.countP_le_length
def getV (k : KeyV) (ps : List PairV) : Int × Bool := if isV k ps = true then (match ps[posV k ps]? with | some p => (p.2, true) | none => (0, false)) else (0, false)
theorem row_at {ps : List PairV} {i : Nat} {p : PairV} (h : ps[i]? = some p) : (ps.map rowOf)[i]? = some [.string p.1, .int .i64 p.2] := by rw [List.getElem?_map, h]; rfl
theorem getC (room : Int) (a : Option Addr) (c : Nat) (ps : List PairV) (k : KeyV) (w : World) (h : (rS a c 2 (ps.map rowOf)).holds w) (hs : Sorted ps) (hb : ps.length ≤ 1000000) :
    Calls Try.prog 29 #[.agg #[.int .i64 room, .slice a ps.length c], .string k] w fun e w' => e = .returned (.tuple #[.int .i64 (getV k ps).1, .bool (getV k ps).2]) ∧ Off [] w w' := by
  have H0 := Lib.hid (Hp.start [] w)
  have H := hp_old H0 h (by decide)
  clear H0
  rcases Bool.eq_false_or_eq_true (isV k ps) with q | q
  · obtain ⟨p, hp, _, hi⟩ := is_some q
    obtain ⟨y, rfl⟩ := some_of_row h (i := posV k ps) (by simpa using hi)
    have hg : getV k ps = (p.2, true) := by unfold getV; rw [if_pos q, hp]
    have HR := Lib.hid (row_at hp)
    rw [hg]
    clear h hp hg
    go_enter Try.func29, Try.ntmps29
    go_wp2_with (first
      | ((with_reducible apply g_mem); (focus (exact rfl)); first
      | ((with_reducible apply hpN_box 43 2 H); (focus (exact rfl)); (focus (exact rfl)); (focus (exact rfl)); (focus (exact rfl)); (focus (exact rfl)); intro w5 b2 H5; clear H; have H := H5; clear H5)
      | ((with_reducible apply hpA_load tyshelf_Shelf_string__int_ H); (focus (exact rfl)); (focus (exact rfl)); (focus (first | (exact rfl) | (simp [Region.wanted]; done) | (simp only [Region.wanted]; go_simp; done))); (focus (repeat (first | exact List.Mem.head _ | apply List.Mem.tail))); (focus ((try simp only [List.drop_zero, List.drop_succ_cons, List.take_succ_cons, List.take_zero]); exact rfl)); (focus (exact rfl)))
      | ((with_reducible apply hpA_load1 tyS_shelf_Pair_string_int_ H); (focus (exact rfl)); (focus (exact rfl)); (focus (first | (exact rfl) | (simp [Region.wanted]; done) | (simp only [Region.wanted]; go_simp; done))); (focus (repeat (first | exact List.Mem.head _ | apply List.Mem.tail))); (focus ((try simp only [List.getElem?_cons_zero, List.getElem?_cons_succ]); exact rfl)))
      | ((with_reducible apply hpA_load1 tyint H); (focus (exact rfl)); (focus (exact rfl)); (focus (first | (exact rfl) | (simp [Region.wanted]; done) | (simp only [Region.wanted]; go_simp; done))); (focus (repeat (first | exact List.Mem.head _ | apply List.Mem.tail))); (focus ((try simp only [List.getElem?_cons_zero, List.getElem?_cons_succ]); exact rfl))))
      | (go_at_call 70; (with_reducible refine (findC room _ c ps k _ (hp_held H (by simp)) hs hb).mono ?_); rintro e w5 ⟨rfl, ho⟩; have H5 := Lib.hid (H.out.quiet ho); clear H ho; have H := H5; clear H5)
      | (go_at_call 70; (with_reducible refine (findC room _ c ps k _ (hp_held H (by simp)) hs hb).mono ?_); rintro e w5 ⟨rfl, ho⟩; have H5 := Lib.hid (H.out.quiet ho); clear H ho; have H := H5; clear H5)
      | ((with_reducible apply g_mem); (focus (exact rfl)); (with_reducible apply hpS_load tyshelf_Pair_string__int_ H); (focus (exact rfl)); (focus (exact rfl)); (focus (first | (exact rfl) | (simp [Region.wanted]; done) | (simp only [Region.wanted]; go_simp; done))); (focus (repeat (first | exact List.Mem.head _ | apply List.Mem.tail))); (focus (exact HR.out)); (focus (exact rfl)))
      | ((with_reducible apply g_mem); (focus (exact rfl)); (with_reducible apply hpS_load1 1 tyint H); (focus (exact rfl)); (focus (exact rfl)); (focus (first | (exact rfl) | (simp [Region.wanted]; done) | (simp only [Region.wanted]; go_simp; done))); (focus (repeat (first | exact List.Mem.head _ | apply List.Mem.tail))); (focus (exact HR.out)); (focus (exact rfl)); (focus (first | exact rfl | (simp [Addr.add]; done))))
      | (simp only [eql_fn_nil _ _ Try.underlying58, eql_nilnil_fn _ _ Try.underlying58, Result.andThen_ok]))
    go_ret2
    exact ⟨rfl, H.out.off⟩
  · have hg : getV k ps = (0, false) := by unfold getV; rw [if_neg (by simp [q])]
    rw [hg]
    clear h hg
    go_enter Try.func29, Try.ntmps29
    go_wp2_with (first
      | ((with_reducible apply g_mem); (focus (exact rfl)); first
      | ((with_reducible apply hpN_box 43 2 H); (focus (exact rfl)); (focus (exact rfl)); (focus (exact rfl)); (focus (exact rfl)); (focus (exact rfl)); intro w5 b2 H5; clear H; have H := H5; clear H5)
      | ((with_reducible apply hpA_load tyshelf_Shelf_string__int_ H); (focus (exact rfl)); (focus (exact rfl)); (focus (first | (exact rfl) | (simp [Region.wanted]; done) | (simp only [Region.wanted]; go_simp; done))); (focus (repeat (first | exact List.Mem.head _ | apply List.Mem.tail))); (focus ((try simp only [List.drop_zero, List.drop_succ_cons, List.take_succ_cons, List.take_zero]); exact rfl)); (focus (exact rfl)))
      | ((with_reducible apply hpA_load1 tyS_shelf_Pair_string_int_ H); (focus (exact rfl)); (focus (exact rfl)); (focus (first | (exact rfl) | (simp [Region.wanted]; done) | (simp only [Region.wanted]; go_simp; done))); (focus (repeat (first | exact List.Mem.head _ | apply List.Mem.tail))); (focus ((try simp only [List.getElem?_cons_zero, List.getElem?_cons_succ]); exact rfl)))
      | ((with_reducible apply hpA_load1 tyint H); (focus (exact rfl)); (focus (exact rfl)); (focus (first | (exact rfl) | (simp [Region.wanted]; done) | (simp only [Region.wanted]; go_simp; done))); (focus (repeat (first | exact List.Mem.head _ | apply List.Mem.tail))); (focus ((try simp only [List.getElem?_cons_zero, List.getElem?_cons_succ]); exact rfl))))
      | (go_at_call 70; (with_reducible refine (findC room _ c ps k _ (hp_held H (by simp)) hs hb).mono ?_); rintro e w5 ⟨rfl, ho⟩; have H5 := Lib.hid (H.out.quiet ho); clear H ho; have H := H5; clear H5)
      | (go_at_call 70; (with_reducible refine (findC room _ c ps k _ (hp_held H (by simp)) hs hb).mono ?_); rintro e w5 ⟨rfl, ho⟩; have H5 := Lib.hid (H.out.quiet ho); clear H ho; have H := H5; clear H5)
      | ((with_reducible apply g_mem); (focus (exact rfl)); (with_reducible apply hpS_load tyshelf_Pair_string__int_ H); (focus (exact rfl)); (focus (exact rfl)); (focus (first | (exact rfl) | (simp [Region.wanted]; done) | (simp only [Region.wanted]; go_simp; done))); (focus (repeat (first | exact List.Mem.head _ | apply List.Mem.tail))); (focus (exact HR.out)); (focus (exact rfl)))
      | ((with_reducible apply g_mem); (focus (exact rfl)); (with_reducible apply hpS_load1 1 tyint H); (focus (exact rfl)); (focus (exact rfl)); (focus (first | (exact rfl) | (simp [Region.wanted]; done) | (simp only [Region.wanted]; go_simp; done))); (focus (repeat (first | exact List.Mem.head _ | apply List.Mem.tail))); (focus (exact HR.out)); (focus (exact rfl)); (focus (first | exact rfl | (simp [Addr.add]; done))))
      | (simp only [eql_fn_nil _ _ Try.underlying58, eql_nilnil_fn _ _ Try.underlying58, Result.andThen_ok]))
    go_ret2
    exact ⟨rfl, H.out.off⟩
theorem listC (room : Int) (a : Option Addr) (c : Nat) (ps : List PairV) (w : World) (h : (rS a c 2 (ps.map rowOf)).holds w) (hb : ps.length ≤ 1000000) :
    Calls Try.prog 36 #[.agg #[.int .i64 room, .slice a ps.length c]] w fun e w' => ∃ a' c', e = .returned (.slice a' ps.length c') ∧ Gives w w' [] a' c' ps := by
  have H0 := Lib.hid (Hp.start [] w)
  have H := hp_old H0 h (by decide)
  clear H0 h
  go_enter Try.func36, Try.ntmps36
  go_wp2_with (first
    | ((with_reducible apply g_mem); (focus (exact rfl)); first
      | ((with_reducible apply hpN_box 43 1 H); (focus (exact rfl)); (focus (exact rfl)); (focus (exact rfl)); (focus (exact rfl)); (focus (exact rfl)); intro w5 b1 H5; clear H; have H := H5; clear H5)
      | ((with_reducible apply hpA_load1 tyS_shelf_Pair_string_int_ H); (focus (exact rfl)); (focus (exact rfl)); (focus (first | (exact rfl) | (simp [Region.wanted]; done) | (simp only [Region.wanted]; go_simp; done))); (focus (repeat (first | exact List.Mem.head _ | apply List.Mem.tail))); (focus ((try simp only [List.getElem?_cons_zero, List.getElem?_cons_succ]); exact rfl))))
    | (go_at_call 71; (refine (cloneP _ c ps _ (hp_held H (by simp)) hb).mono ?_); rintro e w5 ⟨a5, c5, rfl, hA5, hf5, ho⟩; have H5 := hp_gotA H ho hA5 hf5; clear H ho hA5 hf5; have H := H5; clear H5)
    | ((with_reducible apply g_mem); (focus (exact rfl)); (with_reducible apply hpS_load tyshelf_Pair_string__int_ H); (focus (exact rfl)); (focus (exact rfl)); (focus (first | (exact rfl) | (simp [Region.wanted]; done) | (simp only [Region.wanted]; go_simp; done))); (focus (repeat (first | exact List.Mem.head _ | apply List.Mem.tail))); (focus (exact HR.out)); (focus (exact rfl)))
    | ((with_reducible apply g_mem); (focus (exact rfl)); (with_reducible apply hpS_load1 1 tyint H); (focus (exact rfl)); (focus (exact rfl)); (focus (first | (exact rfl) | (simp [Region.wanted]; done) | (simp only [Region.wanted]; go_simp; done))); (focus (repeat (first | exact List.Mem.head _ | apply List.Mem.tail))); (focus (exact HR.out)); (focus (exact rfl)); (focus (first | exact rfl | (simp [Addr.add]; done))))
    | (simp only [eql_fn_nil _ _ Try.underlying58, eql_nilnil_fn _ _ Try.underlying58, Result.andThen_ok]))
  go_ret
  exact ⟨a5, c5, rfl, (hp_from H (List.mem_cons_self ..) []).1, (hp_from H (List.mem_cons_self ..) []).2, H.out.off⟩
/-- what a predicate says (under a name that the walk takes for a rule) -/
def asks (f : PairV → Bool) (p : PairV) : Bool := f p
theorem row_one (p : PairV) : ∀ u ∈ rowOf p, u.oneCell' = true := by simp [rowOf, Value.oneCell']
theorem row_cons {ps : List PairV} {i : Nat} (hi : i < ps.length) : ∃ p, ps[i]? = some p ∧ ps.take (i + 1) = ps.take i ++ [p] := ⟨ps[i], List.getElem?_eq_getElem hi, List.take_succ_eq_append_getElem hi⟩
def keyRow (p : PairV) : List Value := [.string p.1]
theorem key_one (p : PairV) : ∀ u ∈ keyRow p, u.oneCell' = true := by simp [keyRow, Value.oneCell']
theorem keysC (room : Int) (a : Option Addr) (c : Nat) (ps : List PairV) (w : World) (h : (rS a c 2 (ps.map rowOf)).holds w) (hb : ps.length ≤ 1000000) :
    Calls Try.prog 28 #[.agg #[.int .i64 room, .slice a ps.length c]] w fun e w' => ∃ a' c', e = .returned (.slice a' ps.length c') ∧ (rS a' c' 1 (ps.map keyRow)).holds w' ∧ From w [] (rS a' c' 1 (ps.map keyRow)).foot ∧ Off [] w w' := by
  have H0 := Lib.hid (Hp.start [] w)
  have H := hp_old H0 h (by decide)
  clear H0
  have HN := Lib.hid (fun i (hi : i < ps.length) => some_of_row h (i := i) (by simpa using hi))
  clear h
  go_enter Try.func28, Try.ntmps28
  go_wp2_with (first
    | ((with_reducible apply g_mem); (focus (exact rfl)); first
      | ((with_reducible apply hpN_box 43 1 H); (focus (exact rfl)); (focus (exact rfl)); (focus (exact rfl)); (focus (exact rfl)); (focus (exact rfl)); intro w5 b1 H5; clear H; have H := H5; clear H5)
      | ((with_reducible apply hpA_load1 tyS_shelf_Pair_string_int_ H); (focus (exact rfl)); (focus (exact rfl)); (focus (first | (exact rfl) | (simp [Region.wanted]; done) | (simp only [Region.wanted]; go_simp; done))); (focus (repeat (first | exact List.Mem.head _ | apply List.Mem.tail))); (focus ((try simp only [List.getElem?_cons_zero, List.getElem?_cons_succ]); exact rfl)))
      | ((with_reducible apply hpA_load tyshelf_Pair_string__int_ H); (focus (exact rfl)); (focus (exact rfl)); (focus (first | (exact rfl) | (simp [Region.wanted]; done) | (simp only [Region.wanted]; go_simp; done))); (focus (repeat (first | exact List.Mem.head _ | apply List.Mem.tail))); (focus ((try simp only [List.drop_zero, List.drop_succ_cons, List.take_succ_cons, List.take_zero]); exact rfl)); (focus (exact rfl)))
      | ((with_reducible apply hpN_alloc tyshelf_Pair_string__int_ 5 H); (focus (exact rfl)); (focus (exact rfl)); (focus (exact rfl)); intro w5 b5 H5; clear H; have H := H5; clear H5)
      | ((with_reducible apply hpA_store tyshelf_Pair_string__int_ H); (focus (exact rfl)); (focus (exact rfl)); (focus (exact rfl)); (focus (exact rfl)); (focus (exact rfl)); (focus (repeat (first | apply Put.head | apply Put.tail))); (focus (first | (simp; done) | (simp [Value.oneCell']; done))); (focus (first | (simp; done) | (simp [Value.oneCell']; done))); (focus ((try simp only [spl]); exact rfl)); (focus (exact rfl)); intro w5 H5; clear H; have H := H5; clear H5)
      | ((with_reducible apply hpA_load1 tystring H); (focus (exact rfl)); (focus (exact rfl)); (focus (first | (exact rfl) | (simp [Region.wanted]; done) | (simp only [Region.wanted]; go_simp; done))); (focus (repeat (first | exact List.Mem.head _ | apply List.Mem.tail))); (focus ((try simp only [List.getElem?_cons_zero, List.getElem?_cons_succ]); exact rfl)))
      | ((with_reducible apply hpN_bslice Try.underlying40 tystring 16 H); (focus (exact rfl)); (focus (exact rfl)); (focus (first | (exact rfl) | (simp [Region.wanted]; done) | (simp only [Region.wanted]; go_simp; done))); (focus (first | decide | (simp; done))); (focus (first | decide | (simp; done))); (focus (first | (go_simp; exact rfl) | exact rfl)); intro w5 b16 H5; clear H; have H := H5; clear H5))
    | ((with_reducible apply g_mem); (focus (exact rfl)); (with_reducible apply hpS_load tyshelf_Pair_string__int_ H); (focus (exact rfl)); (focus (exact rfl)); (focus (first | (exact rfl) | (simp [Region.wanted]; done) | (simp only [Region.wanted]; go_simp; done))); (focus (repeat (first | exact List.Mem.head _ | apply List.Mem.tail))); (focus (exact HR.out)); (focus (exact rfl)))
    | ((with_reducible apply g_mem); (focus (exact rfl)); (with_reducible apply hpS_load1 1 tyint H); (focus (exact rfl)); (focus (exact rfl)); (focus (first | (exact rfl) | (simp [Region.wanted]; done) | (simp only [Region.wanted]; go_simp; done))); (focus (repeat (first | exact List.Mem.head _ | apply List.Mem.tail))); (focus (exact HR.out)); (focus (exact rfl)); (focus (first | exact rfl | (simp [Addr.add]; done))))
    | (simp only [eql_fn_nil _ _ Try.underlying58, eql_nilnil_fn _ _ Try.underlying58, Result.andThen_ok]))
  have H5 := hp_nil H 9 1
  clear H
  have H := H5
  clear H5
  generalize hn : ps.length = n at *
  go_loopw [3, 9] (fun vs vi wr => ∃ (i : Nat) (a' : Option Addr) (c' : Nat), i ≤ n ∧ vs = .slice a' i c' ∧ vi = .int .i64 i ∧ Hid (Hp [] w wr [rA a' c' 9 1 ((ps.take i).map keyRow), rB b1 43 [.int .i64 room, .slice a n c], rS a c 2 (ps.map rowOf)])) (fun _ vi _ => n - (intOf vi).toNat)
  case atStart => exact ⟨0, none, 0, by omega, rfl, rfl, H⟩
  case round =>
    clear H
    obtain ⟨i, a3, c3, hi, rfl, rfl, H⟩ := hrel
    by_cases hlt : i < n
    · obtain ⟨y, rfl⟩ := HN.out i (by omega)
      obtain ⟨p, hp, htk⟩ := row_cons (ps := ps) (i := i) (by omega)
      have HR := Lib.hid (row_at hp)
      have HT := Lib.hid htk
      have hl3 : ((ps.take i).map keyRow).length = i := by simp; omega
      have HL := Lib.hid hl3
      have HB := Lib.hid (show i + 1 ≤ 1048576 by omega)
      clear hp htk hl3
      go_wp2_with (first
        | (at_builtin; go_loud (refine hp_append (news := [keyRow p]) elK H rfl rfl 2 rfl rfl HL.out.symm rfl rfl (hp_single (e := 9) H (b := b16) (cs := keyRow p) (by simp [keyRow]) rfl (key_one p)) (by rw [HL.out]; exact HB.out) (by decide) ?_); intro w6 a6 c6 H6; clear H; have H := H6; clear H6)
          | ((with_reducible apply g_mem); (focus (exact rfl)); first
      | ((with_reducible apply hpN_box 43 1 H); (focus (exact rfl)); (focus (exact rfl)); (focus (exact rfl)); (focus (exact rfl)); (focus (exact rfl)); intro w5 b1 H5; clear H; have H := H5; clear H5)
      | ((with_reducible apply hpA_load1 tyS_shelf_Pair_string_int_ H); (focus (exact rfl)); (focus (exact rfl)); (focus (first | (exact rfl) | (simp [Region.wanted]; done) | (simp only [Region.wanted]; go_simp; done))); (focus (repeat (first | exact List.Mem.head _ | apply List.Mem.tail))); (focus ((try simp only [List.getElem?_cons_zero, List.getElem?_cons_succ]); exact rfl)))
      | ((with_reducible apply hpA_load tyshelf_Pair_string__int_ H); (focus (exact rfl)); (focus (exact rfl)); (focus (first | (exact rfl) | (simp [Region.wanted]; done) | (simp only [Region.wanted]; go_simp; done))); (focus (repeat (first | exact List.Mem.head _ | apply List.Mem.tail))); (focus ((try simp only [List.drop_zero, List.drop_succ_cons, List.take_succ_cons, List.take_zero]); exact rfl)); (focus (exact rfl)))
      | ((with_reducible apply hpN_alloc tyshelf_Pair_string__int_ 5 H); (focus (exact rfl)); (focus (exact rfl)); (focus (exact rfl)); intro w5 b5 H5; clear H; have H := H5; clear H5)
      | ((with_reducible apply hpA_store tyshelf_Pair_string__int_ H); (focus (exact rfl)); (focus (exact rfl)); (focus (exact rfl)); (focus (exact rfl)); (focus (exact rfl)); (focus (repeat (first | apply Put.head | apply Put.tail))); (focus (first | (simp; done) | (simp [Value.oneCell']; done))); (focus (first | (simp; done) | (simp [Value.oneCell']; done))); (focus ((try simp only [spl]); exact rfl)); (focus (exact rfl)); intro w5 H5; clear H; have H := H5; clear H5)
      | ((with_reducible apply hpA_load1 tystring H); (focus (exact rfl)); (focus (exact rfl)); (focus (first | (exact rfl) | (simp [Region.wanted]; done) | (simp only [Region.wanted]; go_simp; done))); (focus (repeat (first | exact List.Mem.head _ | apply List.Mem.tail))); (focus ((try simp only [List.getElem?_cons_zero, List.getElem?_cons_succ]); exact rfl)))
      | ((with_reducible apply hpN_bslice Try.underlying40 tystring 16 H); (focus (exact rfl)); (focus (exact rfl)); (focus (first | (exact rfl) | (simp [Region.wanted]; done) | (simp only [Region.wanted]; go_simp; done))); (focus (first | decide | (simp; done))); (focus (first | decide | (simp; done))); (focus (first | (go_simp; exact rfl) | exact rfl)); intro w5 b16 H5; clear H; have H := H5; clear H5))
          | ((with_reducible apply g_mem); (focus (exact rfl)); (with_reducible apply hpS_load tyshelf_Pair_string__int_ H); (focus (exact rfl)); (focus (exact rfl)); (focus (first | (exact rfl) | (simp [Region.wanted]; done) | (simp only [Region.wanted]; go_simp; done))); (focus (repeat (first | exact List.Mem.head _ | apply List.Mem.tail))); (focus (exact HR.out)); (focus (exact rfl)))
          | ((with_reducible apply g_mem); (focus (exact rfl)); (with_reducible apply hpS_load1 1 tyint H); (focus (exact rfl)); (focus (exact rfl)); (focus (first | (exact rfl) | (simp [Region.wanted]; done) | (simp only [Region.wanted]; go_simp; done))); (focus (repeat (first | exact List.Mem.head _ | apply List.Mem.tail))); (focus (exact HR.out)); (focus (exact rfl)); (focus (first | exact rfl | (simp [Addr.add]; done))))
          | (simp only [eql_fn_nil _ _ Try.underlying58, eql_nilnil_fn _ _ Try.underlying58, Result.andThen_ok]))
      go_roundw
      case rel =>
        refine ⟨i + 1, a6, c6, by omega, rfl, by go_num, ?_⟩
        rw [HT.out, List.map_append]
        exact Lib.hid (H.out.sub (by simp))
      case measure => simp [intOf]; omega
    · obtain rfl : i = n := by omega
      have hta : ps.take i = ps := List.take_of_length_le (by omega)
      go_wp2_with fail
      go_ret
      rw [hta] at H
      have h3 := hp_from H (List.mem_cons_self ..) []
      exact ⟨a3, c3, by rw [hn]; rfl, h3.1, h3.2, H.out.off⟩

set_option maxRecDepth 20000 in
set_option maxHeartbeats 16000000 in
theorem keepIs (room : Int) (a : Option Addr) (c : Nat) (ps : List PairV) (f : PairV → Bool) (bd : Value) (w : World) (h : (rS a c 2 (ps.map rowOf)).holds w) (hb : ps.length ≤ 1000000)
    (hcall : ∀ w', Off [] w w' → ∀ p ∈ ps, Calls Try.prog 33 #[bd, .string p.1, .int .i64 p.2] w' fun e w'' => e = .returned (.bool (asks f p)) ∧ Off [] w' w'') :
    Calls Try.prog 32 #[.agg #[.int .i64 room, .slice a ps.length c], .func (.func 33) #[bd] #[]] w fun e w' => ∃ a' c', e = .returned (.agg #[.int .i64 room, .slice a' (ps.filter f).length c']) ∧ Gives w w' [] a' c' (ps.filter f) := by
  have H0 := Lib.hid (Hp.start [] w)
  have H := hp_old H0 h (by decide)
  clear H0
  have HC := Lib.hid hcall
  have HN := Lib.hid (fun i (hi : i < ps.length) => some_of_row h (i := i) (by simpa using hi))
  clear h hcall
  go_enter Try.func32, Try.ntmps32
  go_wp2_with (first
    | ((with_reducible apply g_mem); (focus (exact rfl)); first
      | ((with_reducible apply hpN_box 43 2 H); (focus (exact rfl)); (focus (exact rfl)); (focus (exact rfl)); (focus (exact rfl)); (focus (exact rfl)); intro w5 b2 H5; clear H; have H := H5; clear H5)
      | ((with_reducible apply hpN_alloc tyshelf_Shelf_string__int_ 4 H); (focus (exact rfl)); (focus (exact rfl)); (focus (exact rfl)); intro w5 b4 H5; clear H; have H := H5; clear H5)
      | ((with_reducible apply hpA_load tyshelf_Shelf_string__int_ H); (focus (exact rfl)); (focus (exact rfl)); (focus (first | (exact rfl) | (simp [Region.wanted]; done) | (simp only [Region.wanted]; go_simp; done))); (focus (repeat (first | exact List.Mem.head _ | apply List.Mem.tail))); (focus ((try simp only [List.drop_zero, List.drop_succ_cons, List.take_succ_cons, List.take_zero]); exact rfl)); (focus (exact rfl)))
      | ((with_reducible apply hpA_store tyshelf_Shelf_string__int_ H); (focus (exact rfl)); (focus (exact rfl)); (focus (exact rfl)); (focus (exact rfl)); (focus (exact rfl)); (focus (repeat (first | apply Put.head | apply Put.tail))); (focus (first | (simp; done) | (simp [Value.oneCell']; done))); (focus (first | (simp; done) | (simp [Value.oneCell']; done))); (focus ((try simp only [spl]); exact rfl)); (focus (exact rfl)); intro w5 H5; clear H; have H := H5; clear H5)
      | ((with_reducible apply hpA_load1 tyS_shelf_Pair_string_int_ H); (focus (exact rfl)); (focus (exact rfl)); (focus (first | (exact rfl) | (simp [Region.wanted]; done) | (simp only [Region.wanted]; go_simp; done))); (focus (repeat (first | exact List.Mem.head _ | apply List.Mem.tail))); (focus ((try simp only [List.getElem?_cons_zero, List.getElem?_cons_succ]); exact rfl)))
      | ((with_reducible apply hpA_load tyshelf_Pair_string__int_ H); (focus (exact rfl)); (focus (exact rfl)); (focus (first | (exact rfl) | (simp [Region.wanted]; done) | (simp only [Region.wanted]; go_simp; done))); (focus (repeat (first | exact List.Mem.head _ | apply List.Mem.tail))); (focus ((try simp only [List.drop_zero, List.drop_succ_cons, List.take_succ_cons, List.take_zero]); exact rfl)); (focus (exact rfl)))
      | ((with_reducible apply hpN_alloc tyshelf_Pair_string__int_ 7 H); (focus (exact rfl)); (focus (exact rfl)); (focus (exact rfl)); intro w5 b7 H5; clear H; have H := H5; clear H5)
      | ((with_reducible apply hpA_store tyshelf_Pair_string__int_ H); (focus (exact rfl)); (focus (exact rfl)); (focus (exact rfl)); (focus (exact rfl)); (focus (exact rfl)); (focus (repeat (first | apply Put.head | apply Put.tail))); (focus (first | (simp; done) | (simp [Value.oneCell']; done))); (focus (first | (simp; done) | (simp [Value.oneCell']; done))); (focus ((try simp only [spl]); exact rfl)); (focus (exact rfl)); intro w5 H5; clear H; have H := H5; clear H5)
      | ((with_reducible apply hpA_load1 tystring H); (focus (exact rfl)); (focus (exact rfl)); (focus (first | (exact rfl) | (simp [Region.wanted]; done) | (simp only [Region.wanted]; go_simp; done))); (focus (repeat (first | exact List.Mem.head _ | apply List.Mem.tail))); (focus ((try simp only [List.getElem?_cons_zero, List.getElem?_cons_succ]); exact rfl)))
      | ((with_reducible apply hpA_load1 tyint H); (focus (exact rfl)); (focus (exact rfl)); (focus (first | (exact rfl) | (simp [Region.wanted]; done) | (simp only [Region.wanted]; go_simp; done))); (focus (repeat (first | exact List.Mem.head _ | apply List.Mem.tail))); (focus ((try simp only [List.getElem?_cons_zero, List.getElem?_cons_succ]); exact rfl)))
      | ((with_reducible apply hpN_bslice Try.underlying41 tyshelf_Pair_string__int_ 26 H); (focus (exact rfl)); (focus (exact rfl)); (focus (first | (exact rfl) | (simp [Region.wanted]; done) | (simp only [Region.wanted]; go_simp; done))); (focus (first | decide | (simp; done))); (focus (first | decide | (simp; done))); (focus (first | (go_simp; exact rfl) | exact rfl)); intro w5 b26 H5; clear H; have H := H5; clear H5))
    | ((with_reducible apply g_mem); (focus (exact rfl)); (with_reducible apply hpS_load tyshelf_Pair_string__int_ H); (focus (exact rfl)); (focus (exact rfl)); (focus (first | (exact rfl) | (simp [Region.wanted]; done) | (simp only [Region.wanted]; go_simp; done))); (focus (repeat (first | exact List.Mem.head _ | apply List.Mem.tail))); (focus (exact HR.out)); (focus (exact rfl)))
    | ((with_reducible apply g_mem); (focus (exact rfl)); (with_reducible apply hpS_load1 1 tyint H); (focus (exact rfl)); (focus (exact rfl)); (focus (first | (exact rfl) | (simp [Region.wanted]; done) | (simp only [Region.wanted]; go_simp; done))); (focus (repeat (first | exact List.Mem.head _ | apply List.Mem.tail))); (focus (exact HR.out)); (focus (exact rfl)); (focus (first | exact rfl | (simp [Addr.add]; done))))
    | (simp only [eql_fn_nil _ _ Try.underlying58, eql_nilnil_fn _ _ Try.underlying58, Result.andThen_ok]))
  have H5 := hp_nil H 62 2
  clear H
  have H := H5
  clear H5
  generalize hn : ps.length = n at *
  go_loopw [5, 14] (fun vs vi wr => ∃ (i : Nat) (a' : Option Addr) (c' : Nat), i ≤ n ∧ vs = .slice a' ((ps.take i).filter f).length c' ∧ vi = .int .i64 i ∧ Hid (Hp [] w wr [rA a' c' 62 2 (((ps.take i).filter f).map rowOf), rB b4 43 [.int .i64 0, .slice none 0 0], rB b2 43 [.int .i64 room, .slice a n c], rS a c 2 (ps.map rowOf)])) (fun _ vi _ => n - (intOf vi).toNat)
  case atStart => exact ⟨0, none, 0, by omega, rfl, rfl, H⟩
  case round =>
    clear H
    obtain ⟨i, a3, c3, hi, rfl, rfl, H⟩ := hrel
    by_cases hlt : i < n
    · obtain ⟨y, rfl⟩ := HN.out i (by omega)
      obtain ⟨p, hp, htk⟩ := row_cons (ps := ps) (i := i) (by omega)
      have HR := Lib.hid (row_at hp)
      have HM := Lib.hid (List.mem_of_getElem? hp)
      have hle : ((ps.take i).filter f).length ≤ i := by
        have := List.length_filter_le f (ps.take i)
        rw [List.length_take] at this
        omega
      have HL := Lib.hid (show ((ps.take i).filter f).length = (((ps.take i).filter f).map rowOf).length by simp)
      have HB := Lib.hid (show (((ps.take i).filter f).map rowOf).length + 1 ≤ 1048576 by rw [← HL.out]; omega)
      have hq : ∀ w', Off [] w w' → ∀ b, asks f p = b → Calls Try.prog 33 #[bd, .string p.1, .int .i64 p.2] w' fun e w'' => e = .returned (.bool b) ∧ Off [] w' w'' := fun w' ho b hb => by
        have := HC.out w' ho p HM.out
        rwa [hb] at this
      rcases Bool.eq_false_or_eq_true (asks f p) with q | q
      · have HT := Lib.hid (show (ps.take (i + 1)).filter f = (ps.take i).filter f ++ [p] by rw [htk, List.filter_append]; simp [show f p = _ from q])
        have HQ := Lib.hid (fun w' ho => hq w' ho true q)
        clear hp htk hle hq
        generalize hG : (ps.take i).filter f = G at *
        have HG := Lib.hid hG
        clear hG
        go_wp2_with (first
          | (at_builtin; refine hp_append (news := [rowOf p]) el H rfl rfl 2 rfl rfl HL.out rfl rfl (hp_single (e := 62) H (b := b26) (cs := rowOf p) (by simp [rowOf]) rfl (row_one p)) HB.out (by decide) ?_; intro w6 a6 c6 H6; clear H; have H := H6; clear H6)
          | (go_at_call 33; refine (HQ.out _ H.out.off).mono ?_; rintro e w5 ⟨rfl, ho⟩; have H5 := Lib.hid (H.out.quiet ho); clear H ho; have H := H5; clear H5)
            | ((with_reducible apply g_mem); (focus (exact rfl)); first
      | ((with_reducible apply hpN_box 43 2 H); (focus (exact rfl)); (focus (exact rfl)); (focus (exact rfl)); (focus (exact rfl)); (focus (exact rfl)); intro w5 b2 H5; clear H; have H := H5; clear H5)
      | ((with_reducible apply hpN_alloc tyshelf_Shelf_string__int_ 4 H); (focus (exact rfl)); (focus (exact rfl)); (focus (exact rfl)); intro w5 b4 H5; clear H; have H := H5; clear H5)
      | ((with_reducible apply hpA_load tyshelf_Shelf_string__int_ H); (focus (exact rfl)); (focus (exact rfl)); (focus (first | (exact rfl) | (simp [Region.wanted]; done) | (simp only [Region.wanted]; go_simp; done))); (focus (repeat (first | exact List.Mem.head _ | apply List.Mem.tail))); (focus ((try simp only [List.drop_zero, List.drop_succ_cons, List.take_succ_cons, List.take_zero]); exact rfl)); (focus (exact rfl)))
      | ((with_reducible apply hpA_store tyshelf_Shelf_string__int_ H); (focus (exact rfl)); (focus (exact rfl)); (focus (exact rfl)); (focus (exact rfl)); (focus (exact rfl)); (focus (repeat (first | apply Put.head | apply Put.tail))); (focus (first | (simp; done) | (simp [Value.oneCell']; done))); (focus (first | (simp; done) | (simp [Value.oneCell']; done))); (focus ((try simp only [spl]); exact rfl)); (focus (exact rfl)); intro w5 H5; clear H; have H := H5; clear H5)
      | ((with_reducible apply hpA_load1 tyS_shelf_Pair_string_int_ H); (focus (exact rfl)); (focus (exact rfl)); (focus (first | (exact rfl) | (simp [Region.wanted]; done) | (simp only [Region.wanted]; go_simp; done))); (focus (repeat (first | exact List.Mem.head _ | apply List.Mem.tail))); (focus ((try simp only [List.getElem?_cons_zero, List.getElem?_cons_succ]); exact rfl)))
      | ((with_reducible apply hpA_load tyshelf_Pair_string__int_ H); (focus (exact rfl)); (focus (exact rfl)); (focus (first | (exact rfl) | (simp [Region.wanted]; done) | (simp only [Region.wanted]; go_simp; done))); (focus (repeat (first | exact List.Mem.head _ | apply List.Mem.tail))); (focus ((try simp only [List.drop_zero, List.drop_succ_cons, List.take_succ_cons, List.take_zero]); exact rfl)); (focus (exact rfl)))
      | ((with_reducible apply hpN_alloc tyshelf_Pair_string__int_ 7 H); (focus (exact rfl)); (focus (exact rfl)); (focus (exact rfl)); intro w5 b7 H5; clear H; have H := H5; clear H5)
      | ((with_reducible apply hpA_store tyshelf_Pair_string__int_ H); (focus (exact rfl)); (focus (exact rfl)); (focus (exact rfl)); (focus (exact rfl)); (focus (exact rfl)); (focus (repeat (first | apply Put.head | apply Put.tail))); (focus (first | (simp; done) | (simp [Value.oneCell']; done))); (focus (first | (simp; done) | (simp [Value.oneCell']; done))); (focus ((try simp only [spl]); exact rfl)); (focus (exact rfl)); intro w5 H5; clear H; have H := H5; clear H5)
      | ((with_reducible apply hpA_load1 tystring H); (focus (exact rfl)); (focus (exact rfl)); (focus (first | (exact rfl) | (simp [Region.wanted]; done) | (simp only [Region.wanted]; go_simp; done))); (focus (repeat (first | exact List.Mem.head _ | apply List.Mem.tail))); (focus ((try simp only [List.getElem?_cons_zero, List.getElem?_cons_succ]); exact rfl)))
      | ((with_reducible apply hpA_load1 tyint H); (focus (exact rfl)); (focus (exact rfl)); (focus (first | (exact rfl) | (simp [Region.wanted]; done) | (simp only [Region.wanted]; go_simp; done))); (focus (repeat (first | exact List.Mem.head _ | apply List.Mem.tail))); (focus ((try simp only [List.getElem?_cons_zero, List.getElem?_cons_succ]); exact rfl)))
      | ((with_reducible apply hpN_bslice Try.underlying41 tyshelf_Pair_string__int_ 26 H); (focus (exact rfl)); (focus (exact rfl)); (focus (first | (exact rfl) | (simp [Region.wanted]; done) | (simp only [Region.wanted]; go_simp; done))); (focus (first | decide | (simp; done))); (focus (first | decide | (simp; done))); (focus (first | (go_simp; exact rfl) | exact rfl)); intro w5 b26 H5; clear H; have H := H5; clear H5))
            | ((with_reducible apply g_mem); (focus (exact rfl)); (with_reducible apply hpS_load tyshelf_Pair_string__int_ H); (focus (exact rfl)); (focus (exact rfl)); (focus (first | (exact rfl) | (simp [Region.wanted]; done) | (simp only [Region.wanted]; go_simp; done))); (focus (repeat (first | exact List.Mem.head _ | apply List.Mem.tail))); (focus (exact HR.out)); (focus (exact rfl)))
            | ((with_reducible apply g_mem); (focus (exact rfl)); (with_reducible apply hpS_load1 1 tyint H); (focus (exact rfl)); (focus (exact rfl)); (focus (first | (exact rfl) | (simp [Region.wanted]; done) | (simp only [Region.wanted]; go_simp; done))); (focus (repeat (first | exact List.Mem.head _ | apply List.Mem.tail))); (focus (exact HR.out)); (focus (exact rfl)); (focus (first | exact rfl | (simp [Addr.add]; done))))
            | (simp only [eql_fn_nil _ _ Try.underlying58, eql_nilnil_fn _ _ Try.underlying58, Result.andThen_ok]))
        go_roundw
        case rel =>
          refine ⟨i + 1, a6, c6, by omega, ?_, by go_num, ?_⟩
          · rw [HT.out]
            simp
          · rw [HT.out, List.map_append]
            exact Lib.hid (H.out.sub (by simp))
        case measure => simp [intOf]; omega
      · have HT := Lib.hid (show (ps.take (i + 1)).filter f = (ps.take i).filter f by rw [htk, List.filter_append]; simp [show f p = _ from q])
        have HQ := Lib.hid (fun w' ho => hq w' ho false q)
        clear hp htk hle hq
        go_wp2_with (first
          | (go_at_call 33; refine (HQ.out _ H.out.off).mono ?_; rintro e w5 ⟨rfl, ho⟩; have H5 := Lib.hid (H.out.quiet ho); clear H ho; have H := H5; clear H5)
            | ((with_reducible apply g_mem); (focus (exact rfl)); first
      | ((with_reducible apply hpN_box 43 2 H); (focus (exact rfl)); (focus (exact rfl)); (focus (exact rfl)); (focus (exact rfl)); (focus (exact rfl)); intro w5 b2 H5; clear H; have H := H5; clear H5)
      | ((with_reducible apply hpN_alloc tyshelf_Shelf_string__int_ 4 H); (focus (exact rfl)); (focus (exact rfl)); (focus (exact rfl)); intro w5 b4 H5; clear H; have H := H5; clear H5)
      | ((with_reducible apply hpA_load tyshelf_Shelf_string__int_ H); (focus (exact rfl)); (focus (exact rfl)); (focus (first | (exact rfl) | (simp [Region.wanted]; done) | (simp only [Region.wanted]; go_simp; done))); (focus (repeat (first | exact List.Mem.head _ | apply List.Mem.tail))); (focus ((try simp only [List.drop_zero, List.drop_succ_cons, List.take_succ_cons, List.take_zero]); exact rfl)); (focus (exact rfl)))
      | ((with_reducible apply hpA_store tyshelf_Shelf_string__int_ H); (focus (exact rfl)); (focus (exact rfl)); (focus (exact rfl)); (focus (exact rfl)); (focus (exact rfl)); (focus (repeat (first | apply Put.head | apply Put.tail))); (focus (first | (simp; done) | (simp [Value.oneCell']; done))); (focus (first | (simp; done) | (simp [Value.oneCell']; done))); (focus ((try simp only [spl]); exact rfl)); (focus (exact rfl)); intro w5 H5; clear H; have H := H5; clear H5)
      | ((with_reducible apply hpA_load1 tyS_shelf_Pair_string_int_ H); (focus (exact rfl)); (focus (exact rfl)); (focus (first | (exact rfl) | (simp [Region.wanted]; done) | (simp only [Region.wanted]; go_simp; done))); (focus (repeat (first | exact List.Mem.head _ | apply List.Mem.tail))); (focus ((try simp only [List.getElem?_cons_zero, List.getElem?_cons_succ]); exact rfl)))
      | ((with_reducible apply hpA_load tyshelf_Pair_string__int_ H); (focus (exact rfl)); (focus (exact rfl)); (focus (first | (exact rfl) | (simp [Region.wanted]; done) | (simp only [Region.wanted]; go_simp; done))); (focus (repeat (first | exact List.Mem.head _ | apply List.Mem.tail))); (focus ((try simp only [List.drop_zero, List.drop_succ_cons, List.take_succ_cons, List.take_zero]); exact rfl)); (focus (exact rfl)))
      | ((with_reducible apply hpN_alloc tyshelf_Pair_string__int_ 7 H); (focus (exact rfl)); (focus (exact rfl)); (focus (exact rfl)); intro w5 b7 H5; clear H; have H := H5; clear H5)
      | ((with_reducible apply hpA_store tyshelf_Pair_string__int_ H); (focus (exact rfl)); (focus (exact rfl)); (focus (exact rfl)); (focus (exact rfl)); (focus (exact rfl)); (focus (repeat (first | apply Put.head | apply Put.tail))); (focus (first | (simp; done) | (simp [Value.oneCell']; done))); (focus (first | (simp; done) | (simp [Value.oneCell']; done))); (focus ((try simp only [spl]); exact rfl)); (focus (exact rfl)); intro w5 H5; clear H; have H := H5; clear H5)
      | ((with_reducible apply hpA_load1 tystring H); (focus (exact rfl)); (focus (exact rfl)); (focus (first | (exact rfl) | (simp [Region.wanted]; done) | (simp only [Region.wanted]; go_simp; done))); (focus (repeat (first | exact List.Mem.head _ | apply List.Mem.tail))); (focus ((try simp only [List.getElem?_cons_zero, List.getElem?_cons_succ]); exact rfl)))
      | ((with_reducible apply hpA_load1 tyint H); (focus (exact rfl)); (focus (exact rfl)); (focus (first | (exact rfl) | (simp [Region.wanted]; done) | (simp only [Region.wanted]; go_simp; done))); (focus (repeat (first | exact List.Mem.head _ | apply List.Mem.tail))); (focus ((try simp only [List.getElem?_cons_zero, List.getElem?_cons_succ]); exact rfl)))
      | ((with_reducible apply hpN_bslice Try.underlying41 tyshelf_Pair_string__int_ 26 H); (focus (exact rfl)); (focus (exact rfl)); (focus (first | (exact rfl) | (simp [Region.wanted]; done) | (simp only [Region.wanted]; go_simp; done))); (focus (first | decide | (simp; done))); (focus (first | decide | (simp; done))); (focus (first | (go_simp; exact rfl) | exact rfl)); intro w5 b26 H5; clear H; have H := H5; clear H5))
            | ((with_reducible apply g_mem); (focus (exact rfl)); (with_reducible apply hpS_load tyshelf_Pair_string__int_ H); (focus (exact rfl)); (focus (exact rfl)); (focus (first | (exact rfl) | (simp [Region.wanted]; done) | (simp only [Region.wanted]; go_simp; done))); (focus (repeat (first | exact List.Mem.head _ | apply List.Mem.tail))); (focus (exact HR.out)); (focus (exact rfl)))
            | ((with_reducible apply g_mem); (focus (exact rfl)); (with_reducible apply hpS_load1 1 tyint H); (focus (exact rfl)); (focus (exact rfl)); (focus (first | (exact rfl) | (simp [Region.wanted]; done) | (simp only [Region.wanted]; go_simp; done))); (focus (repeat (first | exact List.Mem.head _ | apply List.Mem.tail))); (focus (exact HR.out)); (focus (exact rfl)); (focus (first | exact rfl | (simp [Addr.add]; done))))
            | (simp only [eql_fn_nil _ _ Try.underlying58, eql_nilnil_fn _ _ Try.underlying58, Result.andThen_ok]))
        go_roundw
        case rel =>
          refine ⟨i + 1, a3, c3, by omega, by rw [HT.out], by go_num, ?_⟩
          rw [HT.out]
          exact Lib.hid (H.out.sub (by simp))
        case measure => simp [intOf]; omega
    · obtain rfl : i = n := by omega
      have hta : ps.take i = ps := List.take_of_length_le (by omega)
      rw [hta] at H
      go_wp2_with (first
        | ((with_reducible apply g_mem); (focus (exact rfl)); first
      | ((with_reducible apply hpN_box 43 2 H); (focus (exact rfl)); (focus (exact rfl)); (focus (exact rfl)); (focus (exact rfl)); (focus (exact rfl)); intro w5 b2 H5; clear H; have H := H5; clear H5)
      | ((with_reducible apply hpN_alloc tyshelf_Shelf_string__int_ 4 H); (focus (exact rfl)); (focus (exact rfl)); (focus (exact rfl)); intro w5 b4 H5; clear H; have H := H5; clear H5)
      | ((with_reducible apply hpA_load tyshelf_Shelf_string__int_ H); (focus (exact rfl)); (focus (exact rfl)); (focus (first | (exact rfl) | (simp [Region.wanted]; done) | (simp only [Region.wanted]; go_simp; done))); (focus (repeat (first | exact List.Mem.head _ | apply List.Mem.tail))); (focus ((try simp only [List.drop_zero, List.drop_succ_cons, List.take_succ_cons, List.take_zero]); exact rfl)); (focus (exact rfl)))
      | ((with_reducible apply hpA_store tyshelf_Shelf_string__int_ H); (focus (exact rfl)); (focus (exact rfl)); (focus (exact rfl)); (focus (exact rfl)); (focus (exact rfl)); (focus (repeat (first | apply Put.head | apply Put.tail))); (focus (first | (simp; done) | (simp [Value.oneCell']; done))); (focus (first | (simp; done) | (simp [Value.oneCell']; done))); (focus ((try simp only [spl]); exact rfl)); (focus (exact rfl)); intro w5 H5; clear H; have H := H5; clear H5)
      | ((with_reducible apply hpA_load1 tyS_shelf_Pair_string_int_ H); (focus (exact rfl)); (focus (exact rfl)); (focus (first | (exact rfl) | (simp [Region.wanted]; done) | (simp only [Region.wanted]; go_simp; done))); (focus (repeat (first | exact List.Mem.head _ | apply List.Mem.tail))); (focus ((try simp only [List.getElem?_cons_zero, List.getElem?_cons_succ]); exact rfl)))
      | ((with_reducible apply hpA_load tyshelf_Pair_string__int_ H); (focus (exact rfl)); (focus (exact rfl)); (focus (first | (exact rfl) | (simp [Region.wanted]; done) | (simp only [Region.wanted]; go_simp; done))); (focus (repeat (first | exact List.Mem.head _ | apply List.Mem.tail))); (focus ((try simp only [List.drop_zero, List.drop_succ_cons, List.take_succ_cons, List.take_zero]); exact rfl)); (focus (exact rfl)))
      | ((with_reducible apply hpN_alloc tyshelf_Pair_string__int_ 7 H); (focus (exact rfl)); (focus (exact rfl)); (focus (exact rfl)); intro w5 b7 H5; clear H; have H := H5; clear H5)
      | ((with_reducible apply hpA_store tyshelf_Pair_string__int_ H); (focus (exact rfl)); (focus (exact rfl)); (focus (exact rfl)); (focus (exact rfl)); (focus (exact rfl)); (focus (repeat (first | apply Put.head | apply Put.tail))); (focus (first | (simp; done) | (simp [Value.oneCell']; done))); (focus (first | (simp; done) | (simp [Value.oneCell']; done))); (focus ((try simp only [spl]); exact rfl)); (focus (exact rfl)); intro w5 H5; clear H; have H := H5; clear H5)
      | ((with_reducible apply hpA_load1 tystring H); (focus (exact rfl)); (focus (exact rfl)); (focus (first | (exact rfl) | (simp [Region.wanted]; done) | (simp only [Region.wanted]; go_simp; done))); (focus (repeat (first | exact List.Mem.head _ | apply List.Mem.tail))); (focus ((try simp only [List.getElem?_cons_zero, List.getElem?_cons_succ]); exact rfl)))
      | ((with_reducible apply hpA_load1 tyint H); (focus (exact rfl)); (focus (exact rfl)); (focus (first | (exact rfl) | (simp [Region.wanted]; done) | (simp only [Region.wanted]; go_simp; done))); (focus (repeat (first | exact List.Mem.head _ | apply List.Mem.tail))); (focus ((try simp only [List.getElem?_cons_zero, List.getElem?_cons_succ]); exact rfl)))
      | ((with_reducible apply hpN_bslice Try.underlying41 tyshelf_Pair_string__int_ 26 H); (focus (exact rfl)); (focus (exact rfl)); (focus (first | (exact rfl) | (simp [Region.wanted]; done) | (simp only [Region.wanted]; go_simp; done))); (focus (first | decide | (simp; done))); (focus (first | decide | (simp; done))); (focus (first | (go_simp; exact rfl) | exact rfl)); intro w5 b26 H5; clear H; have H := H5; clear H5))
        | ((with_reducible apply g_mem); (focus (exact rfl)); (with_reducible apply hpS_load tyshelf_Pair_string__int_ H); (focus (exact rfl)); (focus (exact rfl)); (focus (first | (exact rfl) | (simp [Region.wanted]; done) | (simp only [Region.wanted]; go_simp; done))); (focus (repeat (first | exact List.Mem.head _ | apply List.Mem.tail))); (focus (exact HR.out)); (focus (exact rfl)))
        | ((with_reducible apply g_mem); (focus (exact rfl)); (with_reducible apply hpS_load1 1 tyint H); (focus (exact rfl)); (focus (exact rfl)); (focus (first | (exact rfl) | (simp [Region.wanted]; done) | (simp only [Region.wanted]; go_simp; done))); (focus (repeat (first | exact List.Mem.head _ | apply List.Mem.tail))); (focus (exact HR.out)); (focus (exact rfl)); (focus (first | exact rfl | (simp [Addr.add]; done))))
        | (simp only [eql_fn_nil _ _ Try.underlying58, eql_nilnil_fn _ _ Try.underlying58, Result.andThen_ok]))
      (try simp only [hta])
      (try simp only [Exit.inBlock, Exit.then])
      apply hp_ret_c tyshelf_Shelf_string__int_ H
      · exact rfl
      · exact rfl
      · exact rfl
      · (repeat (first | exact List.Mem.head _ | apply List.Mem.tail))
      · exact rfl
      · exact ⟨a3, c3, rfl, (hp_from (e := 62) H (by simp) []).1, (hp_from (e := 62) H (by simp) []).2, H.out.off⟩

set_option maxRecDepth 20000 in
set_option maxHeartbeats 16000000 in
theorem keepNot (room : Int) (a : Option Addr) (c : Nat) (ps : List PairV) (f : PairV → Bool) (bd : Value) (w : World) (h : (rS a c 2 (ps.map rowOf)).holds w) (hb : ps.length ≤ 1000000)
    (hcall : ∀ w', Off [] w w' → ∀ p ∈ ps, Calls Try.prog 34 #[bd, .string p.1, .int .i64 p.2] w' fun e w'' => e = .returned (.bool (asks f p)) ∧ Off [] w' w'') :
    Calls Try.prog 32 #[.agg #[.int .i64 room, .slice a ps.length c], .func (.func 34) #[bd] #[]] w fun e w' => ∃ a' c', e = .returned (.agg #[.int .i64 room, .slice a' (ps.filter f).length c']) ∧ Gives w w' [] a' c' (ps.filter f) := by
  have H0 := Lib.hid (Hp.start [] w)
  have H := hp_old H0 h (by decide)
  clear H0
  have HC := Lib.hid hcall
  have HN := Lib.hid (fun i (hi : i < ps.length) => some_of_row h (i := i) (by simpa using hi))
  clear h hcall
  go_enter Try.func32, Try.ntmps32
  go_wp2_with (first
    | ((with_reducible apply g_mem); (focus (exact rfl)); first
      | ((with_reducible apply hpN_box 43 2 H); (focus (exact rfl)); (focus (exact rfl)); (focus (exact rfl)); (focus (exact rfl)); (focus (exact rfl)); intro w5 b2 H5; clear H; have H := H5; clear H5)
      | ((with_reducible apply hpN_alloc tyshelf_Shelf_string__int_ 4 H); (focus (exact rfl)); (focus (exact rfl)); (focus (exact rfl)); intro w5 b4 H5; clear H; have H := H5; clear H5)
      | ((with_reducible apply hpA_load tyshelf_Shelf_string__int_ H); (focus (exact rfl)); (focus (exact rfl)); (focus (first | (exact rfl) | (simp [Region.wanted]; done) | (simp only [Region.wanted]; go_simp; done))); (focus (repeat (first | exact List.Mem.head _ | apply List.Mem.tail))); (focus ((try simp only [List.drop_zero, List.drop_succ_cons, List.take_succ_cons, List.take_zero]); exact rfl)); (focus (exact rfl)))
      | ((with_reducible apply hpA_store tyshelf_Shelf_string__int_ H); (focus (exact rfl)); (focus (exact rfl)); (focus (exact rfl)); (focus (exact rfl)); (focus (exact rfl)); (focus (repeat (first | apply Put.head | apply Put.tail))); (focus (first | (simp; done) | (simp [Value.oneCell']; done))); (focus (first | (simp; done) | (simp [Value.oneCell']; done))); (focus ((try simp only [spl]); exact rfl)); (focus (exact rfl)); intro w5 H5; clear H; have H := H5; clear H5)
      | ((with_reducible apply hpA_load1 tyS_shelf_Pair_string_int_ H); (focus (exact rfl)); (focus (exact rfl)); (focus (first | (exact rfl) | (simp [Region.wanted]; done) | (simp only [Region.wanted]; go_simp; done))); (focus (repeat (first | exact List.Mem.head _ | apply List.Mem.tail))); (focus ((try simp only [List.getElem?_cons_zero, List.getElem?_cons_succ]); exact rfl)))
      | ((with_reducible apply hpA_load tyshelf_Pair_string__int_ H); (focus (exact rfl)); (focus (exact rfl)); (focus (first | (exact rfl) | (simp [Region.wanted]; done) | (simp only [Region.wanted]; go_simp; done))); (focus (repeat (first | exact List.Mem.head _ | apply List.Mem.tail))); (focus ((try simp only [List.drop_zero, List.drop_succ_cons, List.take_succ_cons, List.take_zero]); exact rfl)); (focus (exact rfl)))
      | ((with_reducible apply hpN_alloc tyshelf_Pair_string__int_ 7 H); (focus (exact rfl)); (focus (exact rfl)); (focus (exact rfl)); intro w5 b7 H5; clear H; have H := H5; clear H5)
      | ((with_reducible apply hpA_store tyshelf_Pair_string__int_ H); (focus (exact rfl)); (focus (exact rfl)); (focus (exact rfl)); (focus (exact rfl)); (focus (exact rfl)); (focus (repeat (first | apply Put.head | apply Put.tail))); (focus (first | (simp; done) | (simp [Value.oneCell']; done))); (focus (first | (simp; done) | (simp [Value.oneCell']; done))); (focus ((try simp only [spl]); exact rfl)); (focus (exact rfl)); intro w5 H5; clear H; have H := H5; clear H5)
      | ((with_reducible apply hpA_load1 tystring H); (focus (exact rfl)); (focus (exact rfl)); (focus (first | (exact rfl) | (simp [Region.wanted]; done) | (simp only [Region.wanted]; go_simp; done))); (focus (repeat (first | exact List.Mem.head _ | apply List.Mem.tail))); (focus ((try simp only [List.getElem?_cons_zero, List.getElem?_cons_succ]); exact rfl)))
      | ((with_reducible apply hpA_load1 tyint H); (focus (exact rfl)); (focus (exact rfl)); (focus (first | (exact rfl) | (simp [Region.wanted]; done) | (simp only [Region.wanted]; go_simp; done))); (focus (repeat (first | exact List.Mem.head _ | apply List.Mem.tail))); (focus ((try simp only [List.getElem?_cons_zero, List.getElem?_cons_succ]); exact rfl)))
      | ((with_reducible apply hpN_bslice Try.underlying41 tyshelf_Pair_string__int_ 26 H); (focus (exact rfl)); (focus (exact rfl)); (focus (first | (exact rfl) | (simp [Region.wanted]; done) | (simp only [Region.wanted]; go_simp; done))); (focus (first | decide | (simp; done))); (focus (first | decide | (simp; done))); (focus (first | (go_simp; exact rfl) | exact rfl)); intro w5 b26 H5; clear H; have H := H5; clear H5))
    | ((with_reducible apply g_mem); (focus (exact rfl)); (with_reducible apply hpS_load tyshelf_Pair_string__int_ H); (focus (exact rfl)); (focus (exact rfl)); (focus (first | (exact rfl) | (simp [Region.wanted]; done) | (simp only [Region.wanted]; go_simp; done))); (focus (repeat (first | exact List.Mem.head _ | apply List.Mem.tail))); (focus (exact HR.out)); (focus (exact rfl)))
    | ((with_reducible apply g_mem); (focus (exact rfl)); (with_reducible apply hpS_load1 1 tyint H); (focus (exact rfl)); (focus (exact rfl)); (focus (first | (exact rfl) | (simp [Region.wanted]; done) | (simp only [Region.wanted]; go_simp; done))); (focus (repeat (first | exact List.Mem.head _ | apply List.Mem.tail))); (focus (exact HR.out)); (focus (exact rfl)); (focus (first | exact rfl | (simp [Addr.add]; done))))
    | (simp only [eql_fn_nil _ _ Try.underlying58, eql_nilnil_fn _ _ Try.underlying58, Result.andThen_ok]))
  have H5 := hp_nil H 62 2
  clear H
  have H := H5
  clear H5
  generalize hn : ps.length = n at *
  go_loopw [5, 14] (fun vs vi wr => ∃ (i : Nat) (a' : Option Addr) (c' : Nat), i ≤ n ∧ vs = .slice a' ((ps.take i).filter f).length c' ∧ vi = .int .i64 i ∧ Hid (Hp [] w wr [rA a' c' 62 2 (((ps.take i).filter f).map rowOf), rB b4 43 [.int .i64 0, .slice none 0 0], rB b2 43 [.int .i64 room, .slice a n c], rS a c 2 (ps.map rowOf)])) (fun _ vi _ => n - (intOf vi).toNat)
  case atStart => exact ⟨0, none, 0, by omega, rfl, rfl, H⟩
  case round =>
    clear H
    obtain ⟨i, a3, c3, hi, rfl, rfl, H⟩ := hrel
    by_cases hlt : i < n
    · obtain ⟨y, rfl⟩ := HN.out i (by omega)
      obtain ⟨p, hp, htk⟩ := row_cons (ps := ps) (i := i) (by omega)
      have HR := Lib.hid (row_at hp)
      have HM := Lib.hid (List.mem_of_getElem? hp)
      have hle : ((ps.take i).filter f).length ≤ i := by
        have := List.length_filter_le f (ps.take i)
        rw [List.length_take] at this
        omega
      have HL := Lib.hid (show ((ps.take i).filter f).length = (((ps.take i).filter f).map rowOf).length by simp)
      have HB := Lib.hid (show (((ps.take i).filter f).map rowOf).length + 1 ≤ 1048576 by rw [← HL.out]; omega)
      have hq : ∀ w', Off [] w w' → ∀ b, asks f p = b → Calls Try.prog 34 #[bd, .string p.1, .int .i64 p.2] w' fun e w'' => e = .returned (.bool b) ∧ Off [] w' w'' := fun w' ho b hb => by
        have := HC.out w' ho p HM.out
        rwa [hb] at this
      rcases Bool.eq_false_or_eq_true (asks f p) with q | q
      · have HT := Lib.hid (show (ps.take (i + 1)).filter f = (ps.take i).filter f ++ [p] by rw [htk, List.filter_append]; simp [show f p = _ from q])
        have HQ := Lib.hid (fun w' ho => hq w' ho true q)
        clear hp htk hle hq
        generalize hG : (ps.take i).filter f = G at *
        have HG := Lib.hid hG
        clear hG
        go_wp2_with (first
          | (at_builtin; refine hp_append (news := [rowOf p]) el H rfl rfl 2 rfl rfl HL.out rfl rfl (hp_single (e := 62) H (b := b26) (cs := rowOf p) (by simp [rowOf]) rfl (row_one p)) HB.out (by decide) ?_; intro w6 a6 c6 H6; clear H; have H := H6; clear H6)
          | (go_at_call 34; refine (HQ.out _ H.out.off).mono ?_; rintro e w5 ⟨rfl, ho⟩; have H5 := Lib.hid (H.out.quiet ho); clear H ho; have H := H5; clear H5)
            | ((with_reducible apply g_mem); (focus (exact rfl)); first
      | ((with_reducible apply hpN_box 43 2 H); (focus (exact rfl)); (focus (exact rfl)); (focus (exact rfl)); (focus (exact rfl)); (focus (exact rfl)); intro w5 b2 H5; clear H; have H := H5; clear H5)
      | ((with_reducible apply hpN_alloc tyshelf_Shelf_string__int_ 4 H); (focus (exact rfl)); (focus (exact rfl)); (focus (exact rfl)); intro w5 b4 H5; clear H; have H := H5; clear H5)
      | ((with_reducible apply hpA_load tyshelf_Shelf_string__int_ H); (focus (exact rfl)); (focus (exact rfl)); (focus (first | (exact rfl) | (simp [Region.wanted]; done) | (simp only [Region.wanted]; go_simp; done))); (focus (repeat (first | exact List.Mem.head _ | apply List.Mem.tail))); (focus ((try simp only [List.drop_zero, List.drop_succ_cons, List.take_succ_cons, List.take_zero]); exact rfl)); (focus (exact rfl)))
      | ((with_reducible apply hpA_store tyshelf_Shelf_string__int_ H); (focus (exact rfl)); (focus (exact rfl)); (focus (exact rfl)); (focus (exact rfl)); (focus (exact rfl)); (focus (repeat (first | apply Put.head | apply Put.tail))); (focus (first | (simp; done) | (simp [Value.oneCell']; done))); (focus (first | (simp; done) | (simp [Value.oneCell']; done))); (focus ((try simp only [spl]); exact rfl)); (focus (exact rfl)); intro w5 H5; clear H; have H := H5; clear H5)
      | ((with_reducible apply hpA_load1 tyS_shelf_Pair_string_int_ H); (focus (exact rfl)); (focus (exact rfl)); (focus (first | (exact rfl) | (simp [Region.wanted]; done) | (simp only [Region.wanted]; go_simp; done))); (focus (repeat (first | exact List.Mem.head _ | apply List.Mem.tail))); (focus ((try simp only [List.getElem?_cons_zero, List.getElem?_cons_succ]); exact rfl)))
      | ((with_reducible apply hpA_load tyshelf_Pair_string__int_ H); (focus (exact rfl)); (focus (exact rfl)); (focus (first | (exact rfl) | (simp [Region.wanted]; done) | (simp only [Region.wanted]; go_simp; done))); (focus (repeat (first | exact List.Mem.head _ | apply List.Mem.tail))); (focus ((try simp only [List.drop_zero, List.drop_succ_cons, List.take_succ_cons, List.take_zero]); exact rfl)); (focus (exact rfl)))
      | ((with_reducible apply hpN_alloc tyshelf_Pair_string__int_ 7 H); (focus (exact rfl)); (focus (exact rfl)); (focus (exact rfl)); intro w5 b7 H5; clear H; have H := H5; clear H5)
      | ((with_reducible apply hpA_store tyshelf_Pair_string__int_ H); (focus (exact rfl)); (focus (exact rfl)); (focus (exact rfl)); (focus (exact rfl)); (focus (exact rfl)); (focus (repeat (first | apply Put.head | apply Put.tail))); (focus (first | (simp; done) | (simp [Value.oneCell']; done))); (focus (first | (simp; done) | (simp [Value.oneCell']; done))); (focus ((try simp only [spl]); exact rfl)); (focus (exact rfl)); intro w5 H5; clear H; have H := H5; clear H5)
      | ((with_reducible apply hpA_load1 tystring H); (focus (exact rfl)); (focus (exact rfl)); (focus (first | (exact rfl) | (simp [Region.wanted]; done) | (simp only [Region.wanted]; go_simp; done))); (focus (repeat (first | exact List.Mem.head _ | apply List.Mem.tail))); (focus ((try simp only [List.getElem?_cons_zero, List.getElem?_cons_succ]); exact rfl)))
      | ((with_reducible apply hpA_load1 tyint H); (focus (exact rfl)); (focus (exact rfl)); (focus (first | (exact rfl) | (simp [Region.wanted]; done) | (simp only [Region.wanted]; go_simp; done))); (focus (repeat (first | exact List.Mem.head _ | apply List.Mem.tail))); (focus ((try simp only [List.getElem?_cons_zero, List.getElem?_cons_succ]); exact rfl)))
      | ((with_reducible apply hpN_bslice Try.underlying41 tyshelf_Pair_string__int_ 26 H); (focus (exact rfl)); (focus (exact rfl)); (focus (first | (exact rfl) | (simp [Region.wanted]; done) | (simp only [Region.wanted]; go_simp; done))); (focus (first | decide | (simp; done))); (focus (first | decide | (simp; done))); (focus (first | (go_simp; exact rfl) | exact rfl)); intro w5 b26 H5; clear H; have H := H5; clear H5))
            | ((with_reducible apply g_mem); (focus (exact rfl)); (with_reducible apply hpS_load tyshelf_Pair_string__int_ H); (focus (exact rfl)); (focus (exact rfl)); (focus (first | (exact rfl) | (simp [Region.wanted]; done) | (simp only [Region.wanted]; go_simp; done))); (focus (repeat (first | exact List.Mem.head _ | apply List.Mem.tail))); (focus (exact HR.out)); (focus (exact rfl)))
            | ((with_reducible apply g_mem); (focus (exact rfl)); (with_reducible apply hpS_load1 1 tyint H); (focus (exact rfl)); (focus (exact rfl)); (focus (first | (exact rfl) | (simp [Region.wanted]; done) | (simp only [Region.wanted]; go_simp; done))); (focus (repeat (first | exact List.Mem.head _ | apply List.Mem.tail))); (focus (exact HR.out)); (focus (exact rfl)); (focus (first | exact rfl | (simp [Addr.add]; done))))
            | (simp only [eql_fn_nil _ _ Try.underlying58, eql_nilnil_fn _ _ Try.underlying58, Result.andThen_ok]))
        go_roundw
        case rel =>
          refine ⟨i + 1, a6, c6, by omega, ?_, by go_num, ?_⟩
          · rw [HT.out]
            simp
          · rw [HT.out, List.map_append]
            exact Lib.hid (H.out.sub (by simp))
        case measure => simp [intOf]; omega
      · have HT := Lib.hid (show (ps.take (i + 1)).filter f = (ps.take i).filter f by rw [htk, List.filter_append]; simp [show f p = _ from q])
        have HQ := Lib.hid (fun w' ho => hq w' ho false q)
        clear hp htk hle hq
        go_wp2_with (first
          | (go_at_call 34; refine (HQ.out _ H.out.off).mono ?_; rintro e w5 ⟨rfl, ho⟩; have H5 := Lib.hid (H.out.quiet ho); clear H ho; have H := H5; clear H5)
            | ((with_reducible apply g_mem); (focus (exact rfl)); first
      | ((with_reducible apply hpN_box 43 2 H); (focus (exact rfl)); (focus (exact rfl)); (focus (exact rfl)); (focus (exact rfl)); (focus (exact rfl)); intro w5 b2 H5; clear H; have H := H5; clear H5)
      | ((with_reducible apply hpN_alloc tyshelf_Shelf_string__int_ 4 H); (focus (exact rfl)); (focus (exact rfl)); (focus (exact rfl)); intro w5 b4 H5; clear H; have H := H5; clear H5)
      | ((with_reducible apply hpA_load tyshelf_Shelf_string__int_ H); (focus (exact rfl)); (focus (exact rfl)); (focus (first | (exact rfl) | (simp [Region.wanted]; done) | (simp only [Region.wanted]; go_simp; done))); (focus (repeat (first | exact List.Mem.head _ | apply List.Mem.tail))); (focus ((try simp only [List.drop_zero, List.drop_succ_cons, List.take_succ_cons, List.take_zero]); exact rfl)); (focus (exact rfl)))
      | ((with_reducible apply hpA_store tyshelf_Shelf_string__int_ H); (focus (exact rfl)); (focus (exact rfl)); (focus (exact rfl)); (focus (exact rfl)); (focus (exact rfl)); (focus (repeat (first | apply Put.head | apply Put.tail))); (focus (first | (simp; done) | (simp [Value.oneCell']; done))); (focus (first | (simp; done) | (simp [Value.oneCell']; done))); (focus ((try simp only [spl]); exact rfl)); (focus (exact rfl)); intro w5 H5; clear H; have H := H5; clear H5)
      | ((with_reducible apply hpA_load1 tyS_shelf_Pair_string_int_ H); (focus (exact rfl)); (focus (exact rfl)); (focus (first | (exact rfl) | (simp [Region.wanted]; done) | (simp only [Region.wanted]; go_simp; done))); (focus (repeat (first | exact List.Mem.head _ | apply List.Mem.tail))); (focus ((try simp only [List.getElem?_cons_zero, List.getElem?_cons_succ]); exact rfl)))
      | ((with_reducible apply hpA_load tyshelf_Pair_string__int_ H); (focus (exact rfl)); (focus (exact rfl)); (focus (first | (exact rfl) | (simp [Region.wanted]; done) | (simp only [Region.wanted]; go_simp; done))); (focus (repeat (first | exact List.Mem.head _ | apply List.Mem.tail))); (focus ((try simp only [List.drop_zero, List.drop_succ_cons, List.take_succ_cons, List.take_zero]); exact rfl)); (focus (exact rfl)))
      | ((with_reducible apply hpN_alloc tyshelf_Pair_string__int_ 7 H); (focus (exact rfl)); (focus (exact rfl)); (focus (exact rfl)); intro w5 b7 H5; clear H; have H := H5; clear H5)
      | ((with_reducible apply hpA_store tyshelf_Pair_string__int_ H); (focus (exact rfl)); (focus (exact rfl)); (focus (exact rfl)); (focus (exact rfl)); (focus (exact rfl)); (focus (repeat (first | apply Put.head | apply Put.tail))); (focus (first | (simp; done) | (simp [Value.oneCell']; done))); (focus (first | (simp; done) | (simp [Value.oneCell']; done))); (focus ((try simp only [spl]); exact rfl)); (focus (exact rfl)); intro w5 H5; clear H; have H := H5; clear H5)
      | ((with_reducible apply hpA_load1 tystring H); (focus (exact rfl)); (focus (exact rfl)); (focus (first | (exact rfl) | (simp [Region.wanted]; done) | (simp only [Region.wanted]; go_simp; done))); (focus (repeat (first | exact List.Mem.head _ | apply List.Mem.tail))); (focus ((try simp only [List.getElem?_cons_zero, List.getElem?_cons_succ]); exact rfl)))
      | ((with_reducible apply hpA_load1 tyint H); (focus (exact rfl)); (focus (exact rfl)); (focus (first | (exact rfl) | (simp [Region.wanted]; done) | (simp only [Region.wanted]; go_simp; done))); (focus (repeat (first | exact List.Mem.head _ | apply List.Mem.tail))); (focus ((try simp only [List.getElem?_cons_zero, List.getElem?_cons_succ]); exact rfl)))
      | ((with_reducible apply hpN_bslice Try.underlying41 tyshelf_Pair_string__int_ 26 H); (focus (exact rfl)); (focus (exact rfl)); (focus (first | (exact rfl) | (simp [Region.wanted]; done) | (simp only [Region.wanted]; go_simp; done))); (focus (first | decide | (simp; done))); (focus (first | decide | (simp; done))); (focus (first | (go_simp; exact rfl) | exact rfl)); intro w5 b26 H5; clear H; have H := H5; clear H5))
            | ((with_reducible apply g_mem); (focus (exact rfl)); (with_reducible apply hpS_load tyshelf_Pair_string__int_ H); (focus (exact rfl)); (focus (exact rfl)); (focus (first | (exact rfl) | (simp [Region.wanted]; done) | (simp only [Region.wanted]; go_simp; done))); (focus (repeat (first | exact List.Mem.head _ | apply List.Mem.tail))); (focus (exact HR.out)); (focus (exact rfl)))
            | ((with_reducible apply g_mem); (focus (exact rfl)); (with_reducible apply hpS_load1 1 tyint H); (focus (exact rfl)); (focus (exact rfl)); (focus (first | (exact rfl) | (simp [Region.wanted]; done) | (simp only [Region.wanted]; go_simp; done))); (focus (repeat (first | exact List.Mem.head _ | apply List.Mem.tail))); (focus (exact HR.out)); (focus (exact rfl)); (focus (first | exact rfl | (simp [Addr.add]; done))))
            | (simp only [eql_fn_nil _ _ Try.underlying58, eql_nilnil_fn _ _ Try.underlying58, Result.andThen_ok]))
        go_roundw
        case rel =>
          refine ⟨i + 1, a3, c3, by omega, by rw [HT.out], by go_num, ?_⟩
          rw [HT.out]
          exact Lib.hid (H.out.sub (by simp))
        case measure => simp [intOf]; omega
    · obtain rfl : i = n := by omega
      have hta : ps.take i = ps := List.take_of_length_le (by omega)
      rw [hta] at H
      go_wp2_with (first
        | ((with_reducible apply g_mem); (focus (exact rfl)); first
      | ((with_reducible apply hpN_box 43 2 H); (focus (exact rfl)); (focus (exact rfl)); (focus (exact rfl)); (focus (exact rfl)); (focus (exact rfl)); intro w5 b2 H5; clear H; have H := H5; clear H5)
      | ((with_reducible apply hpN_alloc tyshelf_Shelf_string__int_ 4 H); (focus (exact rfl)); (focus (exact rfl)); (focus (exact rfl)); intro w5 b4 H5; clear H; have H := H5; clear H5)
      | ((with_reducible apply hpA_load tyshelf_Shelf_string__int_ H); (focus (exact rfl)); (focus (exact rfl)); (focus (first | (exact rfl) | (simp [Region.wanted]; done) | (simp only [Region.wanted]; go_simp; done))); (focus (repeat (first | exact List.Mem.head _ | apply List.Mem.tail))); (focus ((try simp only [List.drop_zero, List.drop_succ_cons, List.take_succ_cons, List.take_zero]); exact rfl)); (focus (exact rfl)))
      | ((with_reducible apply hpA_store tyshelf_Shelf_string__int_ H); (focus (exact rfl)); (focus (exact rfl)); (focus (exact rfl)); (focus (exact rfl)); (focus (exact rfl)); (focus (repeat (first | apply Put.head | apply Put.tail))); (focus (first | (simp; done) | (simp [Value.oneCell']; done))); (focus (first | (simp; done) | (simp [Value.oneCell']; done))); (focus ((try simp only [spl]); exact rfl)); (focus (exact rfl)); intro w5 H5; clear H; have H := H5; clear H5)
      | ((with_reducible apply hpA_load1 tyS_shelf_Pair_string_int_ H); (focus (exact rfl)); (focus (exact rfl)); (focus (first | (exact rfl) | (simp [Region.wanted]; done) | (simp only [Region.wanted]; go_simp; done))); (focus (repeat (first | exact List.Mem.head _ | apply List.Mem.tail))); (focus ((try simp only [List.getElem?_cons_zero, List.getElem?_cons_succ]); exact rfl)))
      | ((with_reducible apply hpA_load tyshelf_Pair_string__int_ H); (focus (exact rfl)); (focus (exact rfl)); (focus (first | (exact rfl) | (simp [Region.wanted]; done) | (simp only [Region.wanted]; go_simp; done))); (focus (repeat (first | exact List.Mem.head _ | apply List.Mem.tail))); (focus ((try simp only [List.drop_zero, List.drop_succ_cons, List.take_succ_cons, List.take_zero]); exact rfl)); (focus (exact rfl)))
      | ((with_reducible apply hpN_alloc tyshelf_Pair_string__int_ 7 H); (focus (exact rfl)); (focus (exact rfl)); (focus (exact rfl)); intro w5 b7 H5; clear H; have H := H5; clear H5)
      | ((with_reducible apply hpA_store tyshelf_Pair_string__int_ H); (focus (exact rfl)); (focus (exact rfl)); (focus (exact rfl)); (focus (exact rfl)); (focus (exact rfl)); (focus (repeat (first | apply Put.head | apply Put.tail))); (focus (first | (simp; done) | (simp [Value.oneCell']; done))); (focus (first | (simp; done) | (simp [Value.oneCell']; done))); (focus ((try simp only [spl]); exact rfl)); (focus (exact rfl)); intro w5 H5; clear H; have H := H5; clear H5)
      | ((with_reducible apply hpA_load1 tystring H); (focus (exact rfl)); (focus (exact rfl)); (focus (first | (exact rfl) | (simp [Region.wanted]; done) | (simp only [Region.wanted]; go_simp; done))); (focus (repeat (first | exact List.Mem.head _ | apply List.Mem.tail))); (focus ((try simp only [List.getElem?_cons_zero, List.getElem?_cons_succ]); exact rfl)))
      | ((with_reducible apply hpA_load1 tyint H); (focus (exact rfl)); (focus (exact rfl)); (focus (first | (exact rfl) | (simp [Region.wanted]; done) | (simp only [Region.wanted]; go_simp; done))); (focus (repeat (first | exact List.Mem.head _ | apply List.Mem.tail))); (focus ((try simp only [List.getElem?_cons_zero, List.getElem?_cons_succ]); exact rfl)))
      | ((with_reducible apply hpN_bslice Try.underlying41 tyshelf_Pair_string__int_ 26 H); (focus (exact rfl)); (focus (exact rfl)); (focus (first | (exact rfl) | (simp [Region.wanted]; done) | (simp only [Region.wanted]; go_simp; done))); (focus (first | decide | (simp; done))); (focus (first | decide | (simp; done))); (focus (first | (go_simp; exact rfl) | exact rfl)); intro w5 b26 H5; clear H; have H := H5; clear H5))
        | ((with_reducible apply g_mem); (focus (exact rfl)); (with_reducible apply hpS_load tyshelf_Pair_string__int_ H); (focus (exact rfl)); (focus (exact rfl)); (focus (first | (exact rfl) | (simp [Region.wanted]; done) | (simp only [Region.wanted]; go_simp; done))); (focus (repeat (first | exact List.Mem.head _ | apply List.Mem.tail))); (focus (exact HR.out)); (focus (exact rfl)))
        | ((with_reducible apply g_mem); (focus (exact rfl)); (with_reducible apply hpS_load1 1 tyint H); (focus (exact rfl)); (focus (exact rfl)); (focus (first | (exact rfl) | (simp [Region.wanted]; done) | (simp only [Region.wanted]; go_simp; done))); (focus (repeat (first | exact List.Mem.head _ | apply List.Mem.tail))); (focus (exact HR.out)); (focus (exact rfl)); (focus (first | exact rfl | (simp [Addr.add]; done))))
        | (simp only [eql_fn_nil _ _ Try.underlying58, eql_nilnil_fn _ _ Try.underlying58, Result.andThen_ok]))
      (try simp only [hta])
      (try simp only [Exit.inBlock, Exit.then])
      apply hp_ret_c tyshelf_Shelf_string__int_ H
      · exact rfl
      · exact rfl
      · exact rfl
      · (repeat (first | exact List.Mem.head _ | apply List.Mem.tail))
      · exact rfl
      · exact ⟨a3, c3, rfl, (hp_from (e := 62) H (by simp) []).1, (hp_from (e := 62) H (by simp) []).2, H.out.off⟩

end Go.Proofs.Ytfhhfmkfkoemjaa.Si6
