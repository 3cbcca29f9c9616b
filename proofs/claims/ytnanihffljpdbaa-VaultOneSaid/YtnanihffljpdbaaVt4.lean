/- Layer 11, plain laws: ticks make nothing stale. -/
import Derived.Test.YtnanihffljpdbaaProg
import Derived.Below
import Derived.WalkKit
import Derived.KernelRfl
import Derived.RowKit3
import Derived.Deep.LoopGhost
import Derived.Deep.QuietTactic
import Derived.BigQuiet
import Derived.WideLaws
import Derived.Deep.DeepCutAuto
import Derived.Deep.CutBlock
import Derived.Lib.Hide
import Derived.Laws.BitsLemmas
import Derived.Laws.Bits64
import Derived.Laws.BitsAllLaws
import Derived.IntWalk
import Derived.Outline
import Derived.WalkSpells
import Derived.Test.YtnanihffljpdbaaGA
import Derived.Test.YtnanihffljpdbaaVt2
import Derived.Test.YtnanihffljpdbaaBp4
import Derived.Test.YtnanihffljpdbaaBp5
namespace Go.Proofs.Ytnanihffljpdbaa.Bk
open Go.RowKit Go.Proofs.Ytnanihffljpdbaa.Mem Go.Proofs.Ytnanihffljpdbaa.Reg Go.Proofs.Ytnanihffljpdbaa.Wk Go.Proofs.Ytnanihffljpdbaa.Si Go.Proofs.Ytnanihffljpdbaa.Ca Go.Proofs.Ytnanihffljpdbaa.Sc6
set_option linter.unusedVariables false
set_option linter.unusedSimpArgs false
theorem newCV_form {c : Cfg} {x : CallV} {id owner born : Int} (h : (newCV c x id owner born).2 = 0) : (newCV c x id owner born).1 = ⟨id, x.kind, x.src, x.dst, x.car, 1, owner, born⟩ := by
  unfold newCV at h ⊢
  cases e : (checkCallV c x != 0) with
  | true =>
    rw [e] at h
    have h1 : checkCallV c x = 0 := h
    rw [h1] at e
    cases e
  | false =>
    rw [e] at h
    simp only [cond_false] at h ⊢
    cases e2 : ((decide (min id owner < 1) || decide (born < 0)) || decide (1073741824 < max (max id owner) born)) with
    | true => rw [e2] at h; cases h
    | false => rfl
theorem new_live (c : Cfg) : (newB c).live = [] := by
  unfold newB
  cases (checkV c != 0) <;> rfl
theorem get_one (y : CallV) (k : Int) : getV k [((k, y) : PairV)] = (y, true) := by
  have hp : posV k [((k, y) : PairV)] = 0 := by simp [posV, ltK]
  have hi : isV k [((k, y) : PairV)] = true := by simp [isV, hp, cmpV, ltK]
  exact get_split (A := []) (B := []) rfl hp hi
theorem place_first {c : Cfg} {x : CallV} (h : (placeV (newB c) x 1 0).2.2 = 0) : ∃ y : CallV, y.state = 1 ∧ y.owner = 1 ∧ (placeV (newB c) x 1 0).1.live = [((1, y) : PairV)] ∧ (placeV (newB c) x 1 0).1.room = (newB c).room := by
  have h0 := new_ix c
  have hl := new_live c
  unfold placeV at h ⊢
  rw [min_is (by omega), h0] at h ⊢
  cases h1 : ((newCV (newB c).conf x (0 + 1) 1 0).2 != 0) with
  | true =>
    rw [h1] at h
    have h2 : (newCV (newB c).conf x (0 + 1) 1 0).2 = 0 := h
    rw [h2] at h1
    cases h1
  | false =>
    rw [h1] at h
    simp only [cond_false] at h ⊢
    have h2 : (newCV (newB c).conf x (0 + 1) 1 0).2 = 0 := by simpa using h1
    rw [newCV_form h2] at h ⊢
    refine ⟨⟨0 + 1, x.kind, x.src, x.dst, x.car, 1, 1, 0⟩, rfl, rfl, ?_⟩
    unfold nextV at h ⊢
    rw [decide_eq_false (show ¬ 1073741824 ≤ (newB c).index by omega)] at h ⊢
    simp only [cond_false] at h ⊢
    rw [show livesV ⟨0 + 1, x.kind, x.src, x.dst, x.car, 1, 1, 0⟩ = true from rfl] at h ⊢
    simp only [Bool.not_true, cond_false] at h ⊢
    have hw : withV (newB c).room (0 + 1) ⟨0 + 1, x.kind, x.src, x.dst, x.car, 1, 1, 0⟩ [] = (if ((([] : List PairV).length : Int) == (newB c).room) = true then ([], false) else ([((1, ⟨0 + 1, x.kind, x.src, x.dst, x.car, 1, 1, 0⟩) : PairV)], true)) := rfl
    rw [hl, hw] at h ⊢
    by_cases h3 : (((([] : List PairV).length : Int) == (newB c).room) = true)
    · rw [if_pos h3] at h
      cases h
    · rw [if_neg h3]
      exact ⟨rfl, rfl⟩
theorem tick_all {c : Cfg} {x : CallV} (hck : (checkV c != 0) = false) (h : (placeV (newB c) x 1 0).2.2 = 0) :
    ((placeV (newB c) x 1 0).2.1.index = 1 ∧ (placeV (newB c) x 1 0).1.index = 1) ∧ ((cancelBV (placeV (newB c) x 1 0).1 1 1).2.2 = 0 ∧ (cancelBV (placeV (newB c) x 1 0).1 1 1).2.1.index = 2 ∧ (cancelBV (placeV (newB c) x 1 0).1 1 1).1.index = 2) := by
  have h0 := new_ix c
  have hI := inv_new c
  have hJ := (place_toR hI (x := x) (by omega) 1 0).2
  have h1 := (place_told (newB c) x 1 0).2 h
  obtain ⟨y, hy, ho, hl, hr⟩ := place_first h
  have hroom : (newB c).room = c.calls := by unfold newB; rw [hck]; rfl
  have hc := (cfg_in hck).1
  have hg : getV 1 (placeV (newB c) x 1 0).1.live = (y, true) := by rw [hl]; exact get_one y 1
  have h2 := cancel_form hJ (by omega) (by rw [hr, hroom]; simp; omega) hg hy
  rw [ho] at h2
  have h3 := (cancel_told (placeV (newB c) x 1 0).1 1 1).2 h2.1
  exact ⟨⟨by omega, by omega⟩, h2.1, by omega, by omega⟩
theorem at_one {ch : ChgV} (h : ch.index = 1) : atN (([] : List ChgV) ++ [ch]) 1 = 1 := by simp [atN, h]
theorem since_one {ch : ChgV} (h : ch.index = 2) : (([] : List ChgV) ++ [ch]).drop (atN (([] : List ChgV) ++ [ch]) 1) = [ch] := by simp [atN, h]
theorem since_two {ch ch2 : ChgV} (h : ch.index = 1) (h2 : ch2.index = 2) : ((([] : List ChgV) ++ [ch]) ++ [ch2]).drop (atN ((([] : List ChgV) ++ [ch]) ++ [ch2]) 1) = [ch2] := by simp [atN, List.findIdx_cons, h, h2]
theorem log_none {ch : ChgV} (h : ch.index = 1) : (([] : List ChgV) ++ [ch]).drop (atN (([] : List ChgV) ++ [ch]) 1) = [] := by rw [at_one h]; rfl
theorem forty_is (n : Int) : ∃ m : Nat, IntKind.i64.wrap ((IntKind.u64.wrap n).tmod 40) = (m : Int) ∧ m < 40 := by
  have hP : 0 ≤ IntKind.u64.wrap n := by
    have h1 : IntKind.u64.bits = 64 := rfl
    unfold IntKind.wrap
    simp [h1, IntKind.signed]
    omega
  have hm : 0 ≤ (IntKind.u64.wrap n).tmod 40 ∧ (IntKind.u64.wrap n).tmod 40 < 40 := ⟨Int.tmod_nonneg _ hP, Int.tmod_lt_of_pos _ (by omega)⟩
  obtain ⟨m, hm2⟩ := Int.eq_ofNat_of_zero_le hm.1
  exact ⟨m, by rw [hm2]; exact IntWalk.i64_in _ (by omega), by omega⟩
end Go.Proofs.Ytnanihffljpdbaa.Bk
