/- Layer 9, plain laws: what changes a book is the reference's. -/
import Derived.Test.YtnanihffljpdbaaProg
import Derived.Below
import Derived.WalkKit
import Derived.KernelRfl
import Derived.RowKit3
import Derived.Deep.LoopGhost
import Derived.Deep.QuietTactic
import Derived.BigQuiet
import Derived.WideLaws
import Derived.Deep.DeepCutAuto
import Derived.Deep.CutBlock
import Derived.Lib.Hide
import Derived.Laws.BitsLemmas
import Derived.Laws.Bits64
import Derived.Laws.BitsAllLaws
import Derived.IntWalk
import Derived.Outline
import Derived.WalkSpells
import Derived.Test.YtnanihffljpdbaaGA
import Derived.Test.YtnanihffljpdbaaBp1
namespace Go.Proofs.Ytnanihffljpdbaa.Bk
open Go.RowKit Go.Proofs.Ytnanihffljpdbaa.Mem Go.Proofs.Ytnanihffljpdbaa.Reg Go.Proofs.Ytnanihffljpdbaa.Si Go.Proofs.Ytnanihffljpdbaa.Ca Go.Proofs.Ytnanihffljpdbaa.Sc6
set_option linter.unusedVariables false
set_option linter.unusedSimpArgs false
section
variable {b : BookV} {x : CallV}
theorem checkCall_ok {c : Cfg} (h : (checkCallV c x != 0) = false) : checkV c = 0 := by
  rcases check_all c with h1 | h1
  · exact h1
  · unfold checkCallV at h
    rw [h1] at h
    cases h
/-- the book, the change and the error of a pair, for the reference -/
def to3 (r : BookV × ChgV × Int) : RBook × ChgV × Int := (toR r.1, r.2.1, r.2.2)
theorem range_is (id owner now : Int) (h : 1 ≤ id ∧ id ≤ 1073741824) : ((decide (min id owner < 1) || decide (now < 0)) || decide (1073741824 < max (max id owner) now)) = (((decide (owner < 1) || decide (1073741824 < owner)) || decide (now < 0)) || decide (1073741824 < now)) := by
  rw [Bool.eq_iff_iff]
  simp
  omega
theorem min_is (hix : b.index < 1073741824) : min (b.index + 1) 1073741824 = b.index + 1 := by omega
theorem new_nx (y : CallV) (owner now : Int) : Nx b ⟨b.index + 1, y.kind, y.src, y.dst, y.car, 1, owner, now⟩ := ⟨⟨by show (1 : Int) ≤ 1; decide, by show (1 : Int) ≤ 6; decide⟩, fun _ => .inr rfl⟩
theorem place_toR (hI : InvB b) (hix : b.index < 1073741824) (owner now : Int) : placeR (toR b) x owner now = to3 (placeV b x owner now) ∧ InvB (placeV b x owner now).1 := by
  have hr := hI.ok.index
  unfold placeR placeV newCV
  show (bif checkCallV b.conf x != 0 then _ else _) = _ ∧ _
  rw [min_is hix]
  cases h1 : (checkCallV b.conf x != 0) with
  | true =>
    simp only [cond_true]
    rw [h1]
    exact ⟨rfl, inv_zero⟩
  | false =>
    have h0 := hI.is (checkCall_ok h1)
    simp only [cond_false]
    rw [range_is _ _ _ ⟨by omega, by omega⟩]
    cases h2 : (((decide (owner < 1) || decide (1073741824 < owner)) || decide (now < 0)) || decide (1073741824 < now)) with
    | true => exact ⟨rfl, inv_zero⟩
    | false =>
      simp only [cond_false]
      exact ⟨next_toR hI h0 (new_nx x owner now), inv_next hI h0 (new_nx x owner now)⟩
theorem cancel_nx {x : CallV} (h : (cancelV x).2 = 0) : Nx b (cancelV x).1 := by
  unfold cancelV toV at h ⊢
  cases h1 : ((x.state == 1) || (x.state == 2)) with
  | false => rw [h1] at h; cases h
  | true => exact ⟨⟨by show (1 : Int) ≤ 5; decide, by show (5 : Int) ≤ 6; decide⟩, fun hl => by cases hl⟩
theorem cancel_toR (hI : InvB b) (id owner : Int) : cancelR (toR b) id owner = to3 (cancelBV b id owner) ∧ InvB (cancelBV b id owner).1 := by
  unfold cancelR cancelBV
  rw [find_toR hI]
  show (bif !(b.room != 0) then _ else _) = _ ∧ _
  rw [show (!(b.room != 0)) = (b.room == 0) by rw [bne]; simp]
  cases h0 : (b.room == 0) with
  | true => exact ⟨rfl, inv_zero⟩
  | false =>
    simp only [cond_false]
    cases h1 : (!(findV b id).2) with
    | true => exact ⟨rfl, inv_zero⟩
    | false =>
      simp only [cond_false]
      cases h2 : ((findV b id).1.owner != owner) with
      | true => exact ⟨rfl, inv_zero⟩
      | false =>
        simp only [cond_false]
        cases h3 : (((findV b id).1.state == 1) || ((findV b id).1.state == 2)) with
        | false =>
          have e : (((findV b id).1.state != 1) && ((findV b id).1.state != 2)) = true := by
            simp at h3 ⊢
            omega
          have e2 : cancelV (findV b id).1 = (⟨0, 0, 0, 0, 0, 0, 0, 0⟩, 7) := by unfold cancelV toV; rw [h3]; rfl
          rw [e, e2]
          exact ⟨rfl, inv_zero⟩
        | true =>
          have e : (((findV b id).1.state != 1) && ((findV b id).1.state != 2)) = false := by
            simp at h3 ⊢
            omega
          have e2 : cancelV (findV b id).1 = (⟨(findV b id).1.id, (findV b id).1.kind, (findV b id).1.src, (findV b id).1.dst, (findV b id).1.car, 5, (findV b id).1.owner, (findV b id).1.born⟩, 0) := by unfold cancelV toV; rw [h3]; rfl
          have hn := cancel_nx (b := b) (x := (findV b id).1) (by rw [e2])
          rw [e2] at hn
          rw [e, e2]
          exact ⟨next_toR hI h0 hn, inv_next hI h0 hn⟩
theorem carV_is {c : Cfg} (h : checkV c = 0) (n : Int) : carV c n = !(decide (n < 1) || decide (c.cars < n)) := by
  unfold carV
  rw [h, Bool.eq_iff_iff]
  simp
theorem getD_set_ne {l : List Int} {i k : Nat} {v : Int} (h : i ≠ k) : (l.set i v).getD k 0 = l.getD k 0 := by
  rw [List.getD_eq_getElem?_getD, List.getD_eq_getElem?_getD, List.getElem?_set_ne h]
theorem set_toR (hI : InvB b) (car mode : Int) : setR (toR b) car mode = to3 (setV b car mode) ∧ InvB (setV b car mode).1 := by
  unfold setR setV
  show (bif !(b.room != 0) then _ else _) = _ ∧ _
  rw [show (!(b.room != 0)) = (b.room == 0) by rw [bne]; simp]
  cases h0 : (b.room == 0) with
  | true => exact ⟨rfl, inv_zero⟩
  | false =>
    obtain ⟨hc, hr⟩ := hI.live h0
    simp only [cond_false]
    rw [carV_is hc, Bool.not_not]
    show (bif (decide (car < 1) || decide (b.conf.cars < car)) || ((mode != 1) && (mode != 2)) then _ else _) = _ ∧ _
    cases h1 : ((decide (car < 1) || decide (b.conf.cars < car)) || ((mode != 1) && (mode != 2))) with
    | true => exact ⟨rfl, inv_zero⟩
    | false =>
      have h1' := ol h1
      simp at h1'
      simp only [cond_false]
      show (bif decide (1073741824 ≤ b.index) then _ else _) = _ ∧ _
      cases h2 : decide (1073741824 ≤ b.index) with
      | true => exact ⟨rfl, inv_zero⟩
      | false =>
        have h2' := of_decide_eq_false h2
        have hix := hI.ok.index
        refine ⟨rfl, ⟨hI.ok.sorted, hI.ok.live, hI.ok.done, by show (b.modes.set _ _).length = 4; rw [List.length_set]; exact hI.ok.modes, ?_⟩, ?_, .inr ⟨hc, hr⟩, hI.done, ?_⟩
        · show 0 ≤ b.index + 1 ∧ b.index + 1 ≤ 1073741824
          omega
        · intro p hp
          have h := hI.key p hp
          have h3 : @LE.le Int _ p.1 b.index := h.2.2.1
          refine ⟨h.1, h.2.1, ?_, h.2.2.2⟩
          show @LE.le Int _ p.1 (b.index + 1)
          omega
        · intro k hk hck
          show (b.modes.set (car - 1).toNat mode).getD k 0 = 0
          have hck' : b.conf.cars ≤ (k : Int) := hck
          rw [getD_set_ne (by omega)]
          exact hI.mode k hk hck
theorem free_state (x : CallV) (s : Int) : (freeV x s).state = s := by unfold freeV; cases (x.kind != 3) <;> rfl
theorem to_state {x y : CallV} {s : Int} {t : Bool} (h : goneB (toV x s t) y = true) : y.state = s := by
  obtain ⟨h1, h2⟩ := gone_at h
  unfold toV at h1 h2
  cases t with
  | false => cases h1
  | true => rw [← h2]; rfl
theorem may_state {c : Cfg} {a b : CallV} (h : mayV c a b = true) : 1 ≤ b.state ∧ b.state ≤ 6 := by
  have hc : checkV c = 0 := by
    rcases check_all c with hc | hc
    · exact hc
    · rw [may_bad a b (by rw [hc]; rfl)] at h; cases h
  rw [may_good a b hc] at h
  cases h1 : goneB (assignV c a b.car) b with
  | true =>
    obtain ⟨e1, e2⟩ := gone_at h1
    unfold assignV at e1 e2
    cases t1 : (a.state != 1) with
    | true => rw [t1] at e1; cases e1
    | false =>
      rw [t1] at e1 e2
      simp only [cond_false] at e1 e2
      cases t2 : ((!(carV c b.car)) || ((a.kind == 3) && (a.car != b.car))) with
      | true => rw [t2] at e1; cases e1
      | false =>
        rw [t2] at e2
        have : b.state = 2 := by rw [← e2]; rfl
        omega
  | false =>
    rw [h1] at h
    cases h2 : goneB (boardV a) b with
    | true => have : b.state = 3 := to_state h2; omega
    | false =>
      rw [h2] at h
      cases h3 : goneB (serveV a) b with
      | true => have : b.state = 4 := to_state h3; omega
      | false =>
        rw [h3] at h
        cases h4 : goneB (cancelV a) b with
        | true => have : b.state = 5 := to_state h4; omega
        | false =>
          rw [h4] at h
          cases h5 : goneB (expireV a) b with
          | true =>
            obtain ⟨e1, e2⟩ := gone_at h5
            unfold expireV at e1 e2
            cases t1 : (a.state != 1) with
            | true => rw [t1] at e1; cases e1
            | false =>
              rw [t1] at e2
              have : b.state = 6 := by rw [← e2]; exact free_state _ _
              omega
          | false =>
            rw [h5] at h
            simp only [Bool.false_or] at h
            have key : ∀ n, goneB (leaveV c a n) b = true → 1 ≤ b.state ∧ b.state ≤ 6 := fun n hn => by
              obtain ⟨e1, e2⟩ := gone_at hn
              unfold leaveV at e1 e2
              cases t1 : ((a.state != 2) && (a.state != 3)) with
              | true => rw [t1] at e1; cases e1
              | false =>
                rw [t1] at e1 e2
                simp only [cond_false] at e1 e2
                cases t2 : (!(floorV c n)) with
                | true => rw [t2] at e1; cases e1
                | false =>
                  rw [t2] at e2
                  simp only [cond_false] at e2
                  cases t3 : (a.state == 2) with
                  | true =>
                    rw [t3] at e2
                    have : b.state = 1 := by rw [← e2]; exact free_state _ _
                    omega
                  | false =>
                    rw [t3] at e2
                    simp only [cond_false] at e2
                    cases t4 : (a.dst == n) with
                    | true =>
                      rw [t4] at e2
                      have : b.state = 4 := by rw [← e2]; rfl
                      omega
                    | false =>
                      rw [t4] at e2
                      have : b.state = 1 := by rw [← e2]; exact free_state _ _
                      omega
            rw [left_is] at h
            cases h6 : (a.state == 3) with
            | true => rw [h6] at h; exact key _ h
            | false => rw [h6] at h; exact key _ h
theorem wrap_is {n : Int} (hn : -9223372036854775808 ≤ n ∧ n ≤ 9223372036854775807) {k : Int} (hk : 0 ≤ k ∧ k ≤ 1073741824) : (IntKind.i64.wrap (n - 1) != k) = (n != k + 1) := by
  rw [Bool.eq_iff_iff]
  by_cases h : n = -9223372036854775808
  · subst h
    have : IntKind.i64.wrap (-9223372036854775808 - 1) = 9223372036854775807 := by decide
    rw [this]
    simp
    omega
  · rw [IntWalk.i64_in (n - 1) (by omega)]
    simp
    omega
theorem asked_is (hix : 0 ≤ b.index ∧ b.index < 1073741824) : ((((((((x.id != b.index + 1) || (x.state != 1)) || (checkCallV b.conf ⟨0, x.kind, x.src, x.dst, x.car, 0, 0, 0⟩ != 0)) || decide (x.owner < 1)) || decide (1073741824 < x.owner)) || decide (x.born < 0)) || decide (1073741824 < x.born))) = !(((newCV b.conf (askedV x) (b.index + 1) x.owner x.born).2 == 0) && decide ((newCV b.conf (askedV x) (b.index + 1) x.owner x.born).1 = x)) := by
  unfold newCV askedV
  cases h1 : (checkCallV b.conf ⟨0, x.kind, x.src, x.dst, x.car, 0, 0, 0⟩ != 0) with
  | true =>
    have : (checkCallV b.conf ⟨0, x.kind, x.src, x.dst, x.car, 0, 0, 0⟩ == 0) = false := by simpa [bne] using h1
    simp [this]
  | false =>
    simp only [cond_false]
    rw [range_is _ _ _ ⟨by omega, by omega⟩]
    cases h2 : (((decide (x.owner < 1) || decide (1073741824 < x.owner)) || decide (x.born < 0)) || decide (1073741824 < x.born)) with
    | true =>
      simp only [cond_true]
      rw [Bool.eq_iff_iff]
      simp at h2 ⊢
      omega
    | false =>
      simp only [cond_false]
      have h3 : decide ((⟨b.index + 1, x.kind, x.src, x.dst, x.car, 1, x.owner, x.born⟩ : CallV) = x) = ((x.id == b.index + 1) && (x.state == 1)) := by
        rw [Bool.eq_iff_iff]
        simp
        constructor
        · intro h
          rw [← h]
          simp
        · rintro ⟨e1, e2⟩
          cases x
          simp at e1 e2 ⊢
          omega
      rw [h3, Bool.eq_iff_iff]
      simp at h2 ⊢
      omega
theorem isNext_nx (hI : InvB b) (hix : b.index < 1073741824) (h : isNextV b x = true) : Nx b x := by
  unfold isNextV at h
  have hr := hI.ok.index
  cases h1 : (getV x.id b.live).2 with
  | true =>
    rw [h1] at h
    exact ⟨may_state h, fun _ => .inl (by rw [← get_is _ _ hI.ok.sorted]; exact h1)⟩
  | false =>
    rw [h1] at h
    simp only [cond_false] at h
    have h2 := asked_is (b := b) (x := x) ⟨hr.1, hix⟩
    rw [h] at h2
    simp at h2
    exact ⟨by omega, fun _ => .inr (by omega)⟩
theorem apply_toR (hI : InvB b) (hix : b.index < 1073741824) {ch : ChgV} (hch : -9223372036854775808 ≤ ch.index ∧ ch.index ≤ 9223372036854775807) : applyR (toR b) ch = (toR (applyV b ch).1, (applyV b ch).2) ∧ InvB (applyV b ch).1 := by
  have hr := hI.ok.index
  unfold applyR applyV
  show (bif !(b.room != 0) then _ else _) = _ ∧ _
  rw [show (!(b.room != 0)) = (b.room == 0) by rw [bne]; simp]
  cases h0 : (b.room == 0) with
  | true => exact ⟨rfl, inv_zero⟩
  | false =>
    simp only [cond_false]
    show (bif decide (ch.index < 1) || (IntKind.i64.wrap (ch.index - 1) != b.index) then _ else _) = _ ∧ _
    rw [wrap_is hch ⟨hr.1, by omega⟩, show (decide (ch.index < 1) || (ch.index != b.index + 1)) = (ch.index != b.index + 1) by rw [Bool.eq_iff_iff]; simp; omega]
    cases h1 : (ch.index != b.index + 1) with
    | true =>
      simp only [cond_true, Bool.true_or]
      cases decide (ch.call = ⟨0, 0, 0, 0, 0, 0, 0, 0⟩) <;> exact ⟨rfl, inv_zero⟩
    | false =>
      have h1' : ch.index = b.index + 1 := by simpa using h1
      simp only [cond_false, Bool.false_or]
      cases h2 : decide (ch.call = ⟨0, 0, 0, 0, 0, 0, 0, 0⟩) with
      | true =>
        simp only [cond_true]
        have := set_toR hI ch.car ch.mode
        rw [this.1]
        exact ⟨rfl, this.2⟩
      | false =>
        simp only [cond_false]
        cases h3 : ((ch.car != 0) || (ch.mode != 0)) with
        | true => exact ⟨rfl, inv_zero⟩
        | false =>
          simp only [cond_false, Bool.false_or]
          have hlf := live_find hI ch.call.id
          show (match (liveV b).find? (fun x => x.id == ch.call.id) with | some z => _ | none => _) = _ ∧ _
          rw [hlf]
          cases h4 : isNextV b ch.call with
          | false =>
            have key : ∀ (A B : RBook × Int), (match bif (getV ch.call.id b.live).2 then some (getV ch.call.id b.live).1 else none with | some z => (bif !(mayV b.conf z ch.call) then A else B) | none => (bif ((((((ch.call.id != ch.index) || (ch.call.state != 1)) || (checkCallV b.conf ⟨0, ch.call.kind, ch.call.src, ch.call.dst, ch.call.car, 0, 0, 0⟩ != 0)) || decide (ch.call.owner < 1)) || decide (1073741824 < ch.call.owner)) || decide (ch.call.born < 0)) || decide (1073741824 < ch.call.born) then A else B)) = A := fun A B => by
              unfold isNextV at h4
              cases h5 : (getV ch.call.id b.live).2 with
              | true =>
                rw [h5] at h4
                simp only [cond_true] at h4 ⊢
                rw [h4]
                rfl
              | false =>
                rw [h5] at h4
                simp only [cond_false] at h4 ⊢
                rw [h1', asked_is ⟨hr.1, hix⟩, h4]
                rfl
            exact ⟨key _ _, inv_zero⟩
          | true =>
            have hn := isNext_nx hI hix h4
            have key : ∀ (A B : RBook × Int), (match bif (getV ch.call.id b.live).2 then some (getV ch.call.id b.live).1 else none with | some z => (bif !(mayV b.conf z ch.call) then A else B) | none => (bif ((((((ch.call.id != ch.index) || (ch.call.state != 1)) || (checkCallV b.conf ⟨0, ch.call.kind, ch.call.src, ch.call.dst, ch.call.car, 0, 0, 0⟩ != 0)) || decide (ch.call.owner < 1)) || decide (1073741824 < ch.call.owner)) || decide (ch.call.born < 0)) || decide (1073741824 < ch.call.born) then A else B)) = B := fun A B => by
              unfold isNextV at h4
              cases h5 : (getV ch.call.id b.live).2 with
              | true =>
                rw [h5] at h4
                simp only [cond_true] at h4 ⊢
                rw [h4]
                rfl
              | false =>
                rw [h5] at h4
                simp only [cond_false] at h4 ⊢
                rw [h1', asked_is ⟨hr.1, hix⟩, h4]
                rfl
            refine ⟨(key _ _).trans ?_, inv_next hI h0 hn⟩
            rw [next_toR hI h0 hn]
            rfl
end
end Go.Proofs.Ytnanihffljpdbaa.Bk
