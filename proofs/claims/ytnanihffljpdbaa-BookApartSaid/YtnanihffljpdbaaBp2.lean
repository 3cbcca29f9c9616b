/- Layer 9, plain laws: what changes a book is the reference's. -/
import Derived.Test.YtnanihffljpdbaaProg
import Derived.Below
import Derived.WalkKit
import Derived.KernelRfl
import Derived.RowKit3
import Derived.Deep.LoopGhost
import Derived.Deep.QuietTactic
import Derived.BigQuiet
import Derived.WideLaws
import Derived.Deep.DeepCutAuto
import Derived.Deep.CutBlock
import Derived.Lib.Hide
import Derived.Laws.BitsLemmas
import Derived.Laws.Bits64
import Derived.Laws.BitsAllLaws
import Derived.IntWalk
import Derived.Outline
import Derived.WalkSpells
import Derived.Test.YtnanihffljpdbaaMem
import Derived.Test.YtnanihffljpdbaaBp1
namespace Go.Proofs.Ytnanihffljpdbaa.Bk
open Go.RowKit Go.Proofs.Ytnanihffljpdbaa.Mem Go.Proofs.Ytnanihffljpdbaa.Reg Go.Proofs.Ytnanihffljpdbaa.Si Go.Proofs.Ytnanihffljpdbaa.Ca Go.Proofs.Ytnanihffljpdbaa.Sc6
set_option linter.unusedVariables false
set_option linter.unusedSimpArgs false
section
variable {b : BookV} {x : CallV}
theorem checkCall_ok {c : Cfg} (h : (checkCallV c x != 0) = false) : checkV c = 0 := by
  rcases check_all c with h1 | h1
  · exact h1
  · unfold checkCallV at h
    rw [h1] at h
    cases h
/-- the book, the change and the error of a pair, for the reference -/
def to3 (r : BookV × ChgV × Int) : RBook × ChgV × Int := (toR r.1, r.2.1, r.2.2)
theorem range_is (id owner now : Int) (h : 1 ≤ id ∧ id ≤ 1073741824) : ((decide (min id owner < 1) || decide (now < 0)) || decide (1073741824 < max (max id owner) now)) = (((decide (owner < 1) || decide (1073741824 < owner)) || decide (now < 0)) || decide (1073741824 < now)) := by
  rw [Bool.eq_iff_iff]
  simp
  omega
theorem min_is (hix : b.index < 1073741824) : min (b.index + 1) 1073741824 = b.index + 1 := by omega
theorem new_nx (y : CallV) (owner now : Int) : Nx b ⟨b.index + 1, y.kind, y.src, y.dst, y.car, 1, owner, now⟩ := ⟨⟨by show (1 : Int) ≤ 1; decide, by show (1 : Int) ≤ 6; decide⟩, fun _ => .inr rfl⟩
theorem place_toR (hI : InvB b) (hix : b.index < 1073741824) (owner now : Int) : placeR (toR b) x owner now = to3 (placeV b x owner now) ∧ InvB (placeV b x owner now).1 := by
  have hr := hI.ok.index
  unfold placeR placeV newCV
  show (bif checkCallV b.conf x != 0 then _ else _) = _ ∧ _
  rw [min_is hix]
  cases h1 : (checkCallV b.conf x != 0) with
  | true =>
    simp only [cond_true]
    rw [h1]
    exact ⟨rfl, inv_zero⟩
  | false =>
    have h0 := hI.is (checkCall_ok h1)
    simp only [cond_false]
    rw [range_is _ _ _ ⟨by omega, by omega⟩]
    cases h2 : (((decide (owner < 1) || decide (1073741824 < owner)) || decide (now < 0)) || decide (1073741824 < now)) with
    | true => exact ⟨rfl, inv_zero⟩
    | false =>
      simp only [cond_false]
      exact ⟨next_toR hI h0 (new_nx x owner now), inv_next hI h0 (new_nx x owner now)⟩
theorem cancel_nx {x : CallV} (h : (cancelV x).2 = 0) : Nx b (cancelV x).1 := by
  unfold cancelV toV at h ⊢
  cases h1 : ((x.state == 1) || (x.state == 2)) with
  | false => rw [h1] at h; cases h
  | true => exact ⟨⟨by show (1 : Int) ≤ 5; decide, by show (5 : Int) ≤ 6; decide⟩, fun hl => by cases hl⟩
theorem cancel_toR (hI : InvB b) (id owner : Int) : cancelR (toR b) id owner = to3 (cancelBV b id owner) ∧ InvB (cancelBV b id owner).1 := by
  unfold cancelR cancelBV
  rw [find_toR hI]
  show (bif !(b.room != 0) then _ else _) = _ ∧ _
  rw [show (!(b.room != 0)) = (b.room == 0) by rw [bne]; simp]
  cases h0 : (b.room == 0) with
  | true => exact ⟨rfl, inv_zero⟩
  | false =>
    simp only [cond_false]
    cases h1 : (!(findV b id).2) with
    | true => exact ⟨rfl, inv_zero⟩
    | false =>
      simp only [cond_false]
      cases h2 : ((findV b id).1.owner != owner) with
      | true => exact ⟨rfl, inv_zero⟩
      | false =>
        simp only [cond_false]
        cases h3 : (((findV b id).1.state == 1) || ((findV b id).1.state == 2)) with
        | false =>
          have e : (((findV b id).1.state != 1) && ((findV b id).1.state != 2)) = true := by
            simp at h3 ⊢
            omega
          have e2 : cancelV (findV b id).1 = (⟨0, 0, 0, 0, 0, 0, 0, 0⟩, 7) := by unfold cancelV toV; rw [h3]; rfl
          rw [e, e2]
          exact ⟨rfl, inv_zero⟩
        | true =>
          have e : (((findV b id).1.state != 1) && ((findV b id).1.state != 2)) = false := by
            simp at h3 ⊢
            omega
          have e2 : cancelV (findV b id).1 = (⟨(findV b id).1.id, (findV b id).1.kind, (findV b id).1.src, (findV b id).1.dst, (findV b id).1.car, 5, (findV b id).1.owner, (findV b id).1.born⟩, 0) := by unfold cancelV toV; rw [h3]; rfl
          have hn := cancel_nx (b := b) (x := (findV b id).1) (by rw [e2])
          rw [e2] at hn
          rw [e, e2]
          exact ⟨next_toR hI h0 hn, inv_next hI h0 hn⟩
theorem carV_is {c : Cfg} (h : checkV c = 0) (n : Int) : carV c n = !(decide (n < 1) || decide (c.cars < n)) := by
  unfold carV
  rw [h, Bool.eq_iff_iff]
  simp
theorem getD_set_ne {l : List Int} {i k : Nat} {v : Int} (h : i ≠ k) : (l.set i v).getD k 0 = l.getD k 0 := by
  rw [List.getD_eq_getElem?_getD, List.getD_eq_getElem?_getD, List.getElem?_set_ne h]
theorem set_toR (hI : InvB b) (car mode : Int) : setR (toR b) car mode = to3 (setV b car mode) ∧ InvB (setV b car mode).1 := by
  unfold setR setV
  show (bif !(b.room != 0) then _ else _) = _ ∧ _
  rw [show (!(b.room != 0)) = (b.room == 0) by rw [bne]; simp]
  cases h0 : (b.room == 0) with
  | true => exact ⟨rfl, inv_zero⟩
  | false =>
    obtain ⟨hc, hr⟩ := hI.live h0
    simp only [cond_false]
    rw [carV_is hc, Bool.not_not]
    show (bif (decide (car < 1) || decide (b.conf.cars < car)) || ((mode != 1) && (mode != 2)) then _ else _) = _ ∧ _
    cases h1 : ((decide (car < 1) || decide (b.conf.cars < car)) || ((mode != 1) && (mode != 2))) with
    | true => exact ⟨rfl, inv_zero⟩
    | false =>
      have h1' := ol h1
      simp at h1'
      simp only [cond_false]
      show (bif decide (1073741824 ≤ b.index) then _ else _) = _ ∧ _
      cases h2 : decide (1073741824 ≤ b.index) with
      | true => exact ⟨rfl, inv_zero⟩
      | false =>
        have h2' := of_decide_eq_false h2
        have hix := hI.ok.index
        refine ⟨rfl, ⟨hI.ok.sorted, hI.ok.live, hI.ok.done, by show (b.modes.set _ _).length = 4; rw [List.length_set]; exact hI.ok.modes, ?_⟩, ?_, .inr ⟨hc, hr⟩, hI.done, ?_⟩
        · show 0 ≤ b.index + 1 ∧ b.index + 1 ≤ 1073741824
          omega
        · intro p hp
          have h := hI.key p hp
          have h3 : @LE.le Int _ p.1 b.index := h.2.2.1
          refine ⟨h.1, h.2.1, ?_, h.2.2.2⟩
          show @LE.le Int _ p.1 (b.index + 1)
          omega
        · intro k hk hck
          show (b.modes.set (car - 1).toNat mode).getD k 0 = 0
          have hck' : b.conf.cars ≤ (k : Int) := hck
          rw [getD_set_ne (by omega)]
          exact hI.mode k hk hck
end
end Go.Proofs.Ytnanihffljpdbaa.Bk
