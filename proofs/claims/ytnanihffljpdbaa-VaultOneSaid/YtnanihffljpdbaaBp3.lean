/- Layer 9, plain laws: a change, applied to the book that it comes of, makes the same book. -/
import Derived.Test.YtnanihffljpdbaaProg
import Derived.Below
import Derived.WalkKit
import Derived.KernelRfl
import Derived.RowKit3
import Derived.Deep.LoopGhost
import Derived.Deep.QuietTactic
import Derived.BigQuiet
import Derived.WideLaws
import Derived.Deep.DeepCutAuto
import Derived.Deep.CutBlock
import Derived.Lib.Hide
import Derived.Laws.BitsLemmas
import Derived.Laws.Bits64
import Derived.Laws.BitsAllLaws
import Derived.IntWalk
import Derived.Outline
import Derived.WalkSpells
import Derived.Test.YtnanihffljpdbaaGA
import Derived.Test.YtnanihffljpdbaaBd
namespace Go.Proofs.Ytnanihffljpdbaa.Bk
open Go.RowKit Go.Proofs.Ytnanihffljpdbaa.Mem Go.Proofs.Ytnanihffljpdbaa.Reg Go.Proofs.Ytnanihffljpdbaa.Si Go.Proofs.Ytnanihffljpdbaa.Ca Go.Proofs.Ytnanihffljpdbaa.Sc6
set_option linter.unusedVariables false
set_option linter.unusedSimpArgs false
section
variable {b : BookV} {x : CallV}
theorem live_len (b : BookV) : (liveV b).length = b.live.length := by unfold liveV; rw [List.length_map]
/-- what an error leaves; what none tells -/
def Told (b : BookV) (r : BookV × ChgV × Int) : Prop := (r.2.2 ≠ 0 → r.1 = zeroB ∧ r.2.1 = zeroCh) ∧ (r.2.2 = 0 → r.1.index = b.index + 1 ∧ r.2.1.index = b.index + 1)
theorem told_err {b : BookV} {e : Int} (he : e ≠ 0) : Told b (zeroB, zeroCh, e) := ⟨fun _ => ⟨rfl, rfl⟩, fun h => absurd h he⟩
theorem next_told (b : BookV) (x : CallV) : Told b (nextV b x) := by
  unfold nextV
  cases decide (1073741824 ≤ b.index) with
  | true => exact told_err (by decide)
  | false =>
    cases livesV x with
    | false => exact ⟨fun h => absurd rfl h, fun _ => ⟨rfl, rfl⟩⟩
    | true =>
      cases (withV b.room x.id x b.live).2 with
      | false => exact told_err (by decide)
      | true => exact ⟨fun h => absurd rfl h, fun _ => ⟨rfl, rfl⟩⟩
theorem next_ch (h : (nextV b x).2.2 = 0) : (nextV b x).2.1 = ⟨b.index + 1, x, 0, 0⟩ ∧ b.index < 1073741824 := by
  unfold nextV at h ⊢
  cases h1 : decide (1073741824 ≤ b.index) with
  | true => rw [h1] at h; cases h
  | false =>
    rw [h1] at h
    have h1' := of_decide_eq_false h1
    cases h2 : livesV x with
    | false => exact ⟨rfl, by omega⟩
    | true =>
      rw [h2] at h
      cases h3 : (withV b.room x.id x b.live).2 with
      | false => rw [h3] at h; cases h
      | true => exact ⟨rfl, by omega⟩
theorem place_told (b : BookV) (x : CallV) (owner now : Int) : Told b (placeV b x owner now) := by
  unfold placeV
  cases h : ((newCV b.conf x (min (b.index + 1) 1073741824) owner now).2 != 0) with
  | true => exact told_err (by simpa using h)
  | false => exact next_told _ _
theorem cancel_told (b : BookV) (id owner : Int) : Told b (cancelBV b id owner) := by
  unfold cancelBV
  cases (b.room == 0) with
  | true => exact told_err (by decide)
  | false =>
    cases (!(findV b id).2) with
    | true => exact told_err (by decide)
    | false =>
      cases ((findV b id).1.owner != owner) with
      | true => exact told_err (by decide)
      | false =>
        cases h : ((cancelV (findV b id).1).2 != 0) with
        | true => exact told_err (by simpa using h)
        | false => exact next_told _ _
theorem set_told (b : BookV) (car mode : Int) : Told b (setV b car mode) := by
  unfold setV
  cases (b.room == 0) with
  | true => exact told_err (by decide)
  | false =>
    cases ((!(carV b.conf car)) || ((mode != 1) && (mode != 2))) with
    | true => exact told_err (by decide)
    | false =>
      cases decide (1073741824 ≤ b.index) with
      | true => exact told_err (by decide)
      | false => exact ⟨fun h => absurd rfl h, fun _ => ⟨rfl, rfl⟩⟩
theorem apply_told (hI : InvB b) (hix : b.index < 1073741824) {ch : ChgV} (hch : -9223372036854775808 ≤ ch.index ∧ ch.index ≤ 9223372036854775807) : ((applyV b ch).2 ≠ 0 → (applyV b ch).1 = zeroB) ∧ ((applyV b ch).2 = 0 → (applyV b ch).1.index = b.index + 1 ∧ ch.index = b.index + 1) := by
  have hr := hI.ok.index
  have hz : ∀ e : Int, e ≠ 0 → ((e ≠ 0 → zeroB = zeroB) ∧ (e = 0 → zeroB.index = b.index + 1 ∧ ch.index = b.index + 1)) := fun e he => ⟨fun _ => rfl, fun h => absurd h he⟩
  unfold applyV
  rw [wrap_is hch ⟨hr.1, by omega⟩]
  cases (b.room == 0) with
  | true => exact hz 3 (by decide)
  | false =>
    cases h1 : (ch.index != b.index + 1) with
    | true =>
      cases decide (ch.call = ⟨0, 0, 0, 0, 0, 0, 0, 0⟩) <;> exact hz 1 (by decide)
    | false =>
      have h1' : ch.index = b.index + 1 := by simpa using h1
      cases decide (ch.call = ⟨0, 0, 0, 0, 0, 0, 0, 0⟩) with
      | true =>
        have := set_told b ch.car ch.mode
        exact ⟨fun h => (this.1 h).1, fun h => ⟨(this.2 h).1, h1'⟩⟩
      | false =>
        simp only [cond_false, Bool.false_or]
        cases ((ch.car != 0) || (ch.mode != 0)) || !(isNextV b ch.call) with
        | true => exact hz 1 (by decide)
        | false =>
          have := next_told b ch.call
          exact ⟨fun h => (this.1 h).1, fun h => ⟨(this.2 h).1, h1'⟩⟩
theorem wrap_own (hI : InvB b) : (IntKind.i64.wrap (b.index + 1 - 1) != b.index) = false := by
  have := hI.ok.index
  rw [IntWalk.i64_in _ (by omega)]
  simp
theorem replay_next (hI : InvB b) (h0 : (b.room == 0) = false) (hn : isNextV b x = true) (hz : x ≠ ⟨0, 0, 0, 0, 0, 0, 0, 0⟩) : applyV b ⟨b.index + 1, x, 0, 0⟩ = ((nextV b x).1, (nextV b x).2.2) := by
  unfold applyV
  rw [h0]
  simp only [cond_false]
  rw [decide_eq_false hz, wrap_own hI, hn]
  rfl
theorem asked_self {c : Cfg} (h : (checkCallV c x != 0) = false) : (⟨0, x.kind, x.src, x.dst, x.car, 0, 0, 0⟩ : CallV) = x := by
  unfold checkCallV at h
  split at h
  · cases h
  · split at h
    · cases h
    · rename_i h1
      simp at h1
      cases x
      simp at h1 ⊢
      omega
theorem replay_place (hI : InvB b) (hix : b.index < 1073741824) {owner now : Int} (h : (placeV b x owner now).2.2 = 0) : applyV b (placeV b x owner now).2.1 = ((placeV b x owner now).1, 0) := by
  have hr := hI.ok.index
  unfold placeV at h ⊢
  rw [min_is hix] at h ⊢
  cases h1 : ((newCV b.conf x (b.index + 1) owner now).2 != 0) with
  | true =>
    rw [h1] at h
    have : (newCV b.conf x (b.index + 1) owner now).2 = 0 := h
    rw [this] at h1
    cases h1
  | false =>
    rw [h1] at h
    simp only [cond_false] at h ⊢
    have h2 : (newCV b.conf x (b.index + 1) owner now).2 = 0 := by simpa using h1
    have hc : (checkCallV b.conf x != 0) = false := by
      cases e : (checkCallV b.conf x != 0) with
      | false => rfl
      | true =>
        unfold newCV at h2
        rw [e] at h2
        simp only [cond_true] at h2
        rw [h2] at e
        cases e
    have he : (newCV b.conf x (b.index + 1) owner now).1 = ⟨b.index + 1, x.kind, x.src, x.dst, x.car, 1, owner, now⟩ := by
      unfold newCV at h2 ⊢
      rw [hc] at h2 ⊢
      simp only [cond_false] at h2 ⊢
      cases e : ((decide (min (b.index + 1) owner < 1) || decide (now < 0)) || decide (1073741824 < max (max (b.index + 1) owner) now)) with
      | true => rw [e] at h2; cases h2
      | false => rfl
    have h0 := hI.is (checkCall_ok hc)
    have hn : isNextV b (newCV b.conf x (b.index + 1) owner now).1 = true := by
      have e3 : (getV (b.index + 1) b.live).2 = false := by rw [get_is _ _ hI.ok.sorted]; exact not_new hI (by omega)
      have e4 : askedV (newCV b.conf x (b.index + 1) owner now).1 = x := by rw [he]; exact asked_self hc
      unfold isNextV
      rw [e4, he, e3]
      simp only [cond_false]
      rw [he, h2]
      simp
    have hz : (newCV b.conf x (b.index + 1) owner now).1 ≠ ⟨0, 0, 0, 0, 0, 0, 0, 0⟩ := fun e => by
      rw [he] at e
      have := congrArg CallV.state e
      cases this
    rw [(next_ch h).1, replay_next hI h0 hn hz, h]
theorem find_live_is (hI : InvB b) {id : Int} (h : (findV b id).2 = true) (hl : livesV (findV b id).1 = true) : getV id b.live = ((findV b id).1, true) ∧ (findV b id).1.id = id := by
  unfold findV at h hl ⊢
  cases e : (getV id b.live).2 with
  | true =>
    rw [e] at h hl
    simp only [cond_true]
    refine ⟨by rw [← e], ?_⟩
    have hi : isV id b.live = true := by rw [← get_is _ _ hI.ok.sorted]; exact e
    obtain ⟨A, v, B, e1, e2, _, _⟩ := is_split hI.ok.sorted hi
    rw [get_split e1 e2 hi]
    exact ((hI.key (id, v) (by rw [e1]; simp)).1).symm
  | false =>
    rw [e] at h hl
    simp only [cond_false] at h hl
    cases e2 : b.done[idxN b.done id]? with
    | none => rw [e2] at h; cases h
    | some y =>
      rw [e2] at hl
      rw [hI.done y (List.mem_of_getElem? e2)] at hl
      cases hl
theorem replay_cancel (hI : InvB b) {id owner : Int} (h : (cancelBV b id owner).2.2 = 0) : applyV b (cancelBV b id owner).2.1 = ((cancelBV b id owner).1, 0) := by
  unfold cancelBV at h ⊢
  cases h0 : (b.room == 0) with
  | true => rw [h0] at h; cases h
  | false =>
    rw [h0] at h
    simp only [cond_false] at h ⊢
    cases h1 : (!(findV b id).2) with
    | true => rw [h1] at h; cases h
    | false =>
      rw [h1] at h
      simp only [cond_false] at h ⊢
      cases h2 : ((findV b id).1.owner != owner) with
      | true => rw [h2] at h; cases h
      | false =>
        rw [h2] at h
        simp only [cond_false] at h ⊢
        cases h3 : ((cancelV (findV b id).1).2 != 0) with
        | true =>
          rw [h3] at h
          have : (cancelV (findV b id).1).2 = 0 := h
          rw [this] at h3
          cases h3
        | false =>
          rw [h3] at h
          simp only [cond_false] at h ⊢
          have hc : (cancelV (findV b id).1).2 = 0 := by simpa using h3
          have hs : (((findV b id).1.state == 1) || ((findV b id).1.state == 2)) = true := by
            cases e : (((findV b id).1.state == 1) || ((findV b id).1.state == 2)) with
            | true => rfl
            | false => unfold cancelV toV at hc; rw [e] at hc; cases hc
          have hl : livesV (findV b id).1 = true := by
            rw [lives_iff]
            simp at hs
            omega
          have hf : (findV b id).2 = true := by simpa using h1
          obtain ⟨g1, g2⟩ := find_live_is hI hf hl
          have he : (cancelV (findV b id).1).1 = ⟨(findV b id).1.id, (findV b id).1.kind, (findV b id).1.src, (findV b id).1.dst, (findV b id).1.car, 5, (findV b id).1.owner, (findV b id).1.born⟩ := by unfold cancelV toV; rw [hs]; rfl
          have hn : isNextV b (cancelV (findV b id).1).1 = true := by
            unfold isNextV
            have e5 : (cancelV (findV b id).1).1.id = id := by rw [he]; exact g2
            rw [e5, g1]
            simp only [cond_true]
            rw [may_good _ _ (hI.live h0).1]
            have : goneB (cancelV (findV b id).1) (cancelV (findV b id).1).1 = true := by unfold goneB; rw [hc]; simp
            rw [this]
            simp
          have hz : (cancelV (findV b id).1).1 ≠ ⟨0, 0, 0, 0, 0, 0, 0, 0⟩ := fun e => by
            rw [he] at e
            have := congrArg CallV.state e
            cases this
          rw [(next_ch h).1, replay_next hI h0 hn hz, h]
theorem replay_set (hI : InvB b) {car mode : Int} (h : (setV b car mode).2.2 = 0) : applyV b (setV b car mode).2.1 = ((setV b car mode).1, 0) := by
  have hch : (setV b car mode).2.1 = ⟨b.index + 1, zeroC, car, mode⟩ ∧ (b.room == 0) = false := by
    unfold setV at h ⊢
    cases h0 : (b.room == 0) with
    | true => rw [h0] at h; cases h
    | false =>
      rw [h0] at h
      cases h1 : ((!(carV b.conf car)) || ((mode != 1) && (mode != 2))) with
      | true => rw [h1] at h; cases h
      | false =>
        rw [h1] at h
        cases h2 : decide (1073741824 ≤ b.index) with
        | true => rw [h2] at h; cases h
        | false => exact ⟨rfl, rfl⟩
  rw [hch.1]
  unfold applyV
  rw [hch.2]
  simp only [cond_false]
  rw [show decide ((⟨b.index + 1, zeroC, car, mode⟩ : ChgV).call = ⟨0, 0, 0, 0, 0, 0, 0, 0⟩) = true from rfl]
  simp only [cond_true]
  rw [wrap_own hI]
  simp only [cond_false]
  rw [h]
end
end Go.Proofs.Ytnanihffljpdbaa.Bk
