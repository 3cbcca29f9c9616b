/- Frames in a row are cut as they were made: the walk of the statement. -/
import Derived.Test.YtfjkcegdodpgdaaProg
import Derived.Below
import Derived.WalkKit
import Derived.KernelRfl
import Derived.RowKit3
import Derived.Deep.LoopGhost
import Derived.Deep.QuietTactic
import Derived.BigQuiet
import Derived.WideLaws
import Derived.Deep.DeepCutAuto
import Derived.Deep.CutBlock
import Derived.Lib.Hide
import Derived.Laws.BitsLemmas
import Derived.Laws.Bits64
import Derived.Laws.BitsAllLaws
import Derived.IntWalk
import Derived.Outline
import Derived.WalkSpells
import Derived.Test.YtfjkcegdodpgdaaMem
import Derived.Test.YtfjkcegdodpgdaaFrAll
import Derived.Test.YtfjkcegdodpgdaaJoM
namespace Go.Proofs.Ytfjkcegdodpgdaa.Fr
open Go.RowKit Go.Proofs.Ytfjkcegdodpgdaa.Mem Go.Proofs.Ytfjkcegdodpgdaa.Pk

theorem cut_cat (r : ByteArray) : ∀ (bs : List ByteArray), bs.all okB = true → cutV (str (catL bs) ++ r) = (bs ++ (cutV r).1, (cutV r).2)
  | [], _ => by
    rw [show catL [] = [] from rfl, show str [] ++ r = r from Jo.nil_append r]
    rfl
  | b :: bs, h => by
    rw [List.all_cons, Bool.and_eq_true] at h
    have h1 := (okB_iff b).1 h.1
    have ih := cut_cat r bs h.2
    have hc := cut_frm (nums b) (catL bs ++ nums r) (nums_lt b) (fun c hc => by rcases List.mem_append.1 hc with h | h; exact catL_lt bs c h; exact nums_lt r c h) (by rw [nums_length]; exact h1.1) (by rw [nums_length]; exact h1.2)
    rw [← List.append_assoc, str_append, str_append (catL bs), str_nums, str_nums, ih] at hc
    rw [catL_cons, hc]
    rfl
set_option maxHeartbeats 3200000 in
theorem row_main (a : Option Addr) (len cap : Nat) (bs : List ByteArray) (r : ByteArray) (w : World) (h : StrsIn w a len cap bs) (hl : len ≤ 20) (hr : r.size ≤ 1024) :
    Calls Try.prog 10 #[.slice a len cap, .string r] w fun e w' => e = .returned (.bool true) ∧ Below w.heap.size w w' := by
  have hst := Lib.hid h
  obtain ⟨rfl, _⟩ := id h
  have d1 : decide ((20 : Int) < (bs.length : Int)) = false := decide_eq_false (by omega)
  have d2 : decide ((1024 : Int) < (r.size : Int)) = false := decide_eq_false (by omega)
  have HC := Lib.hid h.cells
  clear h
  by_cases hok : bs.all okB = true
  · have hav : allV bs = (str (catL bs), 0) := by unfold allV; rw [if_pos hok]
    have hz := catL_len bs hok
    have hzs : (str (catL bs)).size ≤ 50000 := by rw [str_size]; omega
    have hz2 : (str (catL bs)).size + r.size ≤ 9223372036854775807 := by omega
    have kc := Lib.hid (fun w' => cut (str (catL bs) ++ r) (by rw [ByteArray.size_append]; omega) w')
    have hcc := cut_cat r bs hok
    have kn := Lib.hid (fun w' => next r (by omega) w')
    have hq := beq_yes (show r = r from rfl)
    have HAV := Lib.hid hav
    clear hav hz hzs
    by_cases hn : (nextV r).2.2 = 1
    · rw [hn] at kn
      clear kc hcc
      generalize str (catL bs) = S at *
      generalize nextV r = q at *
      obtain ⟨q1, q2, q3⟩ := q
      go_enter Try.func10, Try.ntmps10
      go_wp2_with (first
        | (go_at_call 11; refine (awake _).mono ?_; rintro e w1 ⟨rfl, ho1⟩)
        | (go_at_call 27; refine (all a bs.length cap bs w1 ⟨rfl, hst.out.2.1.off ho1 (by simp), hst.out.2.2⟩ (by omega)).mono ?_; rw [HAV.out]; rintro e w2 ⟨rfl, ho2⟩)
        | (go_at_call 14; refine (kn.out _).mono ?_; rintro e w3 ⟨rfl, ho3⟩))
      go_ret
      exact ⟨rfl, ((ho1.trans ho2 (by simp)).trans ho3 (by simp)).to_below⟩
    · have hcr := cutV_no r hn
      rw [hcr, List.append_nil] at hcc
      rw [hcc] at kc
      dsimp only at kc
      clear hcc hcr
      generalize str (catL bs) = S at *
      generalize nextV r = q at *
      obtain ⟨q1, q2, q3⟩ := q
      dsimp only at kc kn hn
      have hn1 : (((q3 : Nat) : Int) == 1) = false := by rw [beq_eq_false_iff_ne]; omega
      go_enter Try.func10, Try.ntmps10
      go_wp2_with (first
        | (go_at_call 11; refine (awake _).mono ?_; rintro e w1 ⟨rfl, ho1⟩)
        | (go_at_call 27; refine (all a bs.length cap bs w1 ⟨rfl, hst.out.2.1.off ho1 (by simp), hst.out.2.2⟩ (by omega)).mono ?_; rw [HAV.out]; rintro e w2 ⟨rfl, ho2⟩)
        | (go_at_call 14; refine (kn.out _).mono ?_; rintro e w3 ⟨rfl, ho3⟩)
        | (go_at_call 28; refine (kc.out _).mono ?_; rintro e w4 ⟨v, rfl, ho4, hown⟩; obtain ⟨va, vc, rfl, hg⟩ := Jo.cell_own hown))
      have hof := ((ho1.trans ho2 (by simp)).trans ho3 (by simp)).trans ho4 (by simp)
      have HG := Lib.hid hg
      clear hg hown ho1 ho2 ho3 ho4
      go_loopw [13] (fun vi wr => ∃ k : Nat, k ≤ bs.length ∧ vi = .int .i64 k ∧ Off [] w4 wr) (fun vi _ => bs.length - (intOf vi).toNat)
      case atStart => exact ⟨0, Nat.zero_le _, rfl, Off.refl _ _⟩
      case round =>
        obtain ⟨k, hk, rfl, hof5⟩ := hrel
        by_cases hlt : k < bs.length
        · obtain ⟨x, rfl, hx0⟩ := HC.out k hlt
          obtain ⟨y, rfl, _, hy0⟩ := HG.out k hlt
          have hx : wr.cell? (x.add k) = some (.string bs[k]) := (hof5.cell (by have := lt_of_cell hx0; have := hof.size; omega) (by simp)).trans ((hof.cell (lt_of_cell hx0) (by simp)).trans hx0)
          have hy : wr.cell? (y.add k) = some (.string bs[k]) := (hof5.cell (lt_of_cell hy0) (by simp)).trans hy0
          have b1 : (k : Int) < (bs.length : Int) := by omega
          clear hx0 hy0
          generalize bs[k] = t at *
          have hqt := beq_yes (show t = t from rfl)
          go_wp2
          go_quiet (fail)
          go_wp2
          go_roundw
          case rel => exact ⟨k + 1, by omega, by go_num, hof5.drewN _⟩
          case measure => simp [intOf] <;> omega
        · obtain rfl : k = bs.length := by omega
          go_wp2
          go_ret
          exact ⟨rfl, (hof.trans hof5 (by simp)).to_below⟩
  · have hav : allV bs = (⟨#[]⟩, 1) := by unfold allV; rw [if_neg hok]
    have HAV := Lib.hid hav
    clear hav
    go_enter Try.func10, Try.ntmps10
    go_wp2_with (first
      | (go_at_call 11; refine (awake _).mono ?_; rintro e w1 ⟨rfl, ho1⟩)
      | (go_at_call 27; refine (all a bs.length cap bs w1 ⟨rfl, hst.out.2.1.off ho1 (by simp), hst.out.2.2⟩ (by omega)).mono ?_; rw [HAV.out]; rintro e w2 ⟨rfl, ho2⟩))
    go_ret
    exact ⟨rfl, (ho1.trans ho2 (by simp)).to_below⟩
theorem frameRow (a : Option Addr) (len cap : Nat) (bs : List ByteArray) (r : ByteArray) (w : World) (h : StrsIn w a len cap bs) (_ : r.size ≤ 140737488351232) :
    Calls Try.prog 10 #[.slice a len cap, .string r] w fun e w' => e = .returned (.bool true) ∧ Below w.heap.size w w' := by
  by_cases hl : len ≤ 20
  · by_cases hr : r.size ≤ 1024
    · exact row_main a len cap bs r w h hl hr
    · have d1 : decide ((20 : Int) < (len : Int)) = false := decide_eq_false (by omega)
      have d2 : decide ((1024 : Int) < (r.size : Int)) = true := decide_eq_true (by omega)
      clear h
      go_enter Try.func10, Try.ntmps10
      go_wp2_with (go_at_call 11; refine (awake _).mono ?_; rintro e w1 ⟨rfl, ho1⟩)
      go_ret
      exact ⟨rfl, ho1.to_below⟩
  · have d1 : decide ((20 : Int) < (len : Int)) = true := decide_eq_true (by omega)
    clear h
    go_enter Try.func10, Try.ntmps10
    go_wp2_with (go_at_call 11; refine (awake _).mono ?_; rintro e w1 ⟨rfl, ho1⟩)
    go_ret
    exact ⟨rfl, ho1.to_below⟩
end Go.Proofs.Ytfjkcegdodpgdaa.Fr
