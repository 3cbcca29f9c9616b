/- Layer 9, plain laws: changes that were made make the book again; whoever ended does not come back. -/
import Derived.Test.YtnanihffljpdbaaProg
import Derived.Below
import Derived.WalkKit
import Derived.KernelRfl
import Derived.RowKit3
import Derived.Deep.LoopGhost
import Derived.Deep.QuietTactic
import Derived.BigQuiet
import Derived.WideLaws
import Derived.Deep.DeepCutAuto
import Derived.Deep.CutBlock
import Derived.Lib.Hide
import Derived.Laws.BitsLemmas
import Derived.Laws.Bits64
import Derived.Laws.BitsAllLaws
import Derived.IntWalk
import Derived.Outline
import Derived.WalkSpells
import Derived.Test.YtnanihffljpdbaaGA
import Derived.Test.YtnanihffljpdbaaBp3
import Derived.Test.YtnanihffljpdbaaMpR
namespace Go.Proofs.Ytnanihffljpdbaa.Bk
open Go.RowKit Go.Proofs.Ytnanihffljpdbaa.Mem Go.Proofs.Ytnanihffljpdbaa.Reg Go.Proofs.Ytnanihffljpdbaa.Wk Go.Proofs.Ytnanihffljpdbaa.Si Go.Proofs.Ytnanihffljpdbaa.Ca Go.Proofs.Ytnanihffljpdbaa.Sc6
set_option linter.unusedVariables false
set_option linter.unusedSimpArgs false
theorem newCV_id {c : Cfg} {x : CallV} {id owner born : Int} (h : (newCV c x id owner born).2 = 0) : (newCV c x id owner born).1.id = id := by
  unfold newCV at h ⊢
  cases e : (checkCallV c x != 0) with
  | true =>
    rw [e] at h
    have h1 : checkCallV c x = 0 := h
    rw [h1] at e
    cases e
  | false =>
    rw [e] at h
    simp only [cond_false] at h ⊢
    cases e2 : ((decide (min id owner < 1) || decide (born < 0)) || decide (1073741824 < max (max id owner) born)) with
    | true => rw [e2] at h; cases h
    | false => rfl
section
variable {b : BookV} {x : CallV} {E : List Int}
theorem next_id (hI : InvB b) (h : isNextV b x = true) : x.id = b.index + 1 ∨ isV x.id b.live = true := by
  unfold isNextV at h
  cases e : (getV x.id b.live).2 with
  | true =>
    rw [get_is _ _ hI.ok.sorted] at e
    exact .inr e
  | false =>
    rw [e] at h
    simp only [cond_false, Bool.and_eq_true, beq_iff_eq, decide_eq_true_eq] at h
    have h1 := newCV_id h.1
    rw [h.2] at h1
    exact .inl h1
def EndI (b : BookV) (E : List Int) : Prop := ∀ k ∈ E, 1 ≤ k ∧ k ≤ b.index ∧ ∀ p ∈ b.live, (p.1 : Int) ≠ k
theorem ins_in {ps : List PairV} {i : Nat} {q p : PairV} (h : p ∈ insAt ps i q) : p = q ∨ p ∈ ps := by
  unfold insAt at h
  rcases List.mem_append.1 h with h | h
  · exact .inr (List.mem_of_mem_take h)
  · rcases List.mem_cons.1 h with h | h
    · exact .inl h
    · exact .inr (List.mem_of_mem_drop h)
theorem end_not (hI : InvB b) (hE : EndI b E) (hx : x.id = b.index + 1 ∨ isV x.id b.live = true) : x.id ∉ E ∧ 1 ≤ x.id ∧ x.id ≤ b.index + 1 := by
  have hix := hI.ok.index
  rcases hx with h | h
  · exact ⟨fun hm => by have := (hE _ hm).2.1; omega, by omega, by omega⟩
  · obtain ⟨A, v, B, e, _, _, _⟩ := is_split hI.ok.sorted h
    have hm : ((x.id, v) : PairV) ∈ b.live := by rw [e]; simp
    have hk := hI.key _ hm
    have h2 : (1 : Int) ≤ x.id := hk.2.1
    have h3 : x.id ≤ b.index := hk.2.2.1
    exact ⟨fun h4 => (hE _ h4).2.2 _ hm rfl, h2, by omega⟩
theorem end_next (hI : InvB b) (hE : EndI b E) (hx : x.id = b.index + 1 ∨ isV x.id b.live = true) (he : (nextV b x).2.2 = 0) : EndI (nextV b x).1 (bif !(livesV x) then x.id :: E else E) ∧ (nextV b x).1.conf = b.conf ∧ (nextV b x).1.room = b.room := by
  have hn := end_not hI hE hx
  have hix := hI.ok.index
  unfold nextV at he ⊢
  cases h1 : decide (1073741824 ≤ b.index) with
  | true => rw [h1] at he; cases he
  | false =>
    rw [h1] at he
    simp only [cond_false] at he ⊢
    cases h2 : livesV x with
    | false =>
      simp only [Bool.not_false, cond_true]
      refine ⟨fun k hk => ?_, (by first | rfl | trivial), (by first | rfl | trivial)⟩
      rcases List.mem_cons.1 hk with rfl | hk
      · refine ⟨hn.2.1, hn.2.2, fun p hp => ?_⟩
        rcases hx with h | h
        · have h3 : @LE.le Int _ p.1 b.index := (hI.key p (without_sub _ _ p hp)).2.2.1
          intro e
          have e' : (p.1 : Int) = b.index + 1 := Eq.trans e h
          have h6 : b.index + 1 ≤ b.index := e' ▸ h3
          omega
        · obtain ⟨A, v, B, e, e2, e3, e4⟩ := is_split hI.ok.sorted h
          have hp' : p ∈ withoutV x.id b.live := hp
          rw [without_split e e2 h] at hp'
          rcases List.mem_append.1 hp' with h5 | h5
          · exact e3 p h5
          · exact e4 p h5
      · have h3 := hE k hk
        refine ⟨h3.1, ?_, fun p hp => h3.2.2 p (without_sub _ _ p hp)⟩
        show k ≤ b.index + 1
        omega
    | true =>
      rw [h2] at he
      simp only [Bool.not_true, cond_false] at he ⊢
      cases h3 : (withV b.room x.id x b.live).2 with
      | false => rw [h3] at he; cases he
      | true =>
        simp only [Bool.not_true, cond_false]
        refine ⟨fun k hk => ?_, (by first | rfl | trivial), (by first | rfl | trivial)⟩
        have h4 := hE k hk
        have hne : x.id ≠ k := fun e => hn.1 (e ▸ hk)
        refine ⟨h4.1, ?_, fun p hp => ?_⟩
        · show k ≤ b.index + 1
          omega
        · have hp' : p ∈ (withV b.room x.id x b.live).1 := hp
          have hor : p = (x.id, x) ∨ p ∈ b.live := by
            unfold withV at hp'
            split at hp'
            · rcases List.mem_or_eq_of_mem_set hp' with h5 | h5
              · exact .inr h5
              · exact .inl h5
            · split at hp'
              · exact .inr hp'
              · exact ins_in hp'
          rcases hor with rfl | h5
          · exact hne
          · exact h4.2.2 p h5
/-- what a change that is applied does -/
theorem apply_form {ch : ChgV} (he : (applyV b ch).2 = 0) : (b.room == 0) = false ∧ ((ch.call = ⟨0, 0, 0, 0, 0, 0, 0, 0⟩ ∧ (applyV b ch).1.live = b.live ∧ (applyV b ch).1.index = b.index + 1 ∧ (applyV b ch).1.conf = b.conf ∧ (applyV b ch).1.room = b.room) ∨ (isNextV b ch.call = true ∧ (applyV b ch).1 = (nextV b ch.call).1 ∧ (nextV b ch.call).2.2 = 0)) := by
  unfold applyV at he ⊢
  cases h0 : (b.room == 0) with
  | true => rw [h0] at he; cases he
  | false =>
    rw [h0] at he
    simp only [cond_false] at he ⊢
    refine ⟨(by first | rfl | trivial), ?_⟩
    cases h1 : decide (ch.call = ⟨0, 0, 0, 0, 0, 0, 0, 0⟩) with
    | true =>
      rw [h1] at he
      simp only [cond_true] at he ⊢
      cases h2 : ((IntKind.i64.wrap (ch.index - 1)) != b.index) with
      | true => rw [h2] at he; cases he
      | false =>
        rw [h2] at he
        simp only [cond_false] at he ⊢
        refine .inl ⟨of_decide_eq_true h1, ?_⟩
        unfold setV at he ⊢
        rw [h0] at he ⊢
        simp only [cond_false] at he ⊢
        cases h3 : ((!(carV b.conf ch.car)) || ((ch.mode != 1) && (ch.mode != 2))) with
        | true => rw [h3] at he; cases he
        | false =>
          rw [h3] at he
          simp only [cond_false] at he ⊢
          cases h4 : decide (1073741824 ≤ b.index) with
          | true => rw [h4] at he; cases he
          | false => exact ⟨(by first | rfl | trivial), (by first | rfl | trivial), (by first | rfl | trivial), (by first | rfl | trivial)⟩
    | false =>
      rw [h1] at he
      simp only [cond_false] at he ⊢
      cases h2 : ((((IntKind.i64.wrap (ch.index - 1)) != b.index) || (ch.car != 0)) || (ch.mode != 0)) || !(isNextV b ch.call) with
      | true => rw [h2] at he; cases he
      | false =>
        rw [h2] at he
        simp only [cond_false] at he ⊢
        refine .inr ⟨?_, (by first | rfl | trivial), he⟩
        simpa using (Bool.or_eq_false_iff.1 h2).2
def endE (ch : ChgV) (E : List Int) : List Int := bif (ch.call.id != 0) && !(livesV ch.call) then ch.call.id :: E else E
theorem end_apply (hI : InvB b) (hE : EndI b E) {ch : ChgV} (he : (applyV b ch).2 = 0) : ch.call.id ∉ E ∧ (0 ≤ ch.call.id ∧ ch.call.id ≤ b.index + 1) ∧ EndI (applyV b ch).1 (endE ch E) ∧ (applyV b ch).1.conf = b.conf ∧ (applyV b ch).1.room = b.room := by
  have hix := hI.ok.index
  obtain ⟨h0, h1 | h1⟩ := apply_form he
  · obtain ⟨h2, h3, h4, h5, h6⟩ := h1
    have e0 : ch.call.id = 0 := by rw [h2]
    refine ⟨fun hm => by have := (hE _ hm).1; omega, by omega, ?_, h5, h6⟩
    have e1 : endE ch E = E := by
      unfold endE
      rw [e0]
      rfl
    rw [e1]
    intro k hk
    have h7 := hE k hk
    refine ⟨h7.1, by rw [h4]; omega, ?_⟩
    rw [h3]
    exact h7.2.2
  · obtain ⟨h2, h3, h4⟩ := h1
    have hx := next_id hI h2
    have hn := end_not hI hE hx
    have hs := end_next hI hE hx h4
    rw [h3]
    refine ⟨hn.1, by omega, ?_, hs.2.1, hs.2.2⟩
    have e1 : endE ch E = bif !(livesV ch.call) then ch.call.id :: E else E := by
      unfold endE
      rw [show (ch.call.id != 0) = true by simp; omega, Bool.true_and]
    rw [e1]
    exact hs.1
end
/-- the book that changes make -/
def foldB (c : Cfg) (l : List ChgV) : BookV := l.foldl (fun r ch => (applyV r ch).1) (newB c)
theorem foldB_snoc (c : Cfg) (l : List ChgV) (ch : ChgV) : foldB c (l ++ [ch]) = (applyV (foldB c l) ch).1 := by
  unfold foldB
  rw [List.foldl_append]
  rfl
theorem fold_next {c : Cfg} {l : List ChgV} {j : Nat} {z : ChgV} (h : l[j]? = some z) : (applyV (foldB c (l.take j)) z).1 = foldB c (l.take (j + 1)) := by
  obtain ⟨hj, he⟩ := List.getElem?_eq_some_iff.1 h
  rw [List.take_add_one, List.getElem?_eq_getElem hj, he]
  exact (foldB_snoc c (l.take j) z).symm
structure RepI (c : Cfg) (l : List ChgV) (E : List Int) (b : BookV) : Prop where
  inv : InvB b
  ix : b.index = (l.length : Int)
  conf : (b.room == 0) = false → b.conf = c
  book : b = foldB c l
  all : ∀ i ch, l[i]? = some ch → (applyV (foldB c (l.take i)) ch).2 = 0 ∧ ch.index = (i : Int) + 1
  invs : ∀ i, i ≤ l.length → InvB (foldB c (l.take i)) ∧ (foldB c (l.take i)).index = (i : Int)
  ended : EndI b E
  few : E.length ≤ l.length
theorem rep_new (c : Cfg) : RepI c [] [] (newB c) := by
  have h0 : (newB c).index = ((0 : Nat) : Int) := new_ix c
  refine ⟨inv_new c, h0, fun h => ?_, rfl, fun i ch h => (by simp at h), fun i hi => ?_, fun k hk => (by cases hk), Nat.le_refl _⟩
  · unfold newB at h ⊢
    cases e : (checkV c != 0) with
    | true => rw [e] at h; cases h
    | false => rfl
  · obtain rfl : i = 0 := by simpa using hi
    exact ⟨inv_new c, h0⟩
theorem rep_step {c : Cfg} {l : List ChgV} {E : List Int} {b d : BookV} {ch : ChgV} (h : RepI c l E b) (hl : l.length < 1000) (hch : -9223372036854775808 ≤ ch.index ∧ ch.index ≤ 9223372036854775807) (he : applyV b ch = (d, 0)) :
    (d.index = b.index + 1 ∧ ch.index = b.index + 1) ∧ ((d.live.length : Int) ≤ c.calls ∧ (d.done.length : Int) ≤ c.calls) ∧ (ch.call.id ∉ E ∧ 0 ≤ ch.call.id ∧ ch.call.id ≤ b.index + 1) ∧ RepI c (l ++ [ch]) (endE ch E) d := by
  have hix := h.ix
  have h0 : (applyV b ch).2 = 0 := by rw [he]
  have h1 := (apply_told h.inv (by omega) hch).2 h0
  have hI := (apply_toR h.inv (by omega) hch).2
  have h2 := end_apply h.inv h.ended h0
  have hr := (apply_form h0).1
  have hc := h.conf hr
  have hb := h.book
  rw [he] at h1 hI h2
  have h3 : (d.room == 0) = false := by rw [h2.2.2.2.2]; exact hr
  have h4 := (hI.live h3).2
  have hcd : d.conf = c := h2.2.2.2.1.trans hc
  refine ⟨h1, ⟨?_, ?_⟩, ⟨h2.1, h2.2.1.1, h2.2.1.2⟩, ⟨hI, ?_, fun _ => hcd, ?_, fun i z hz => ?_, fun i hi => ?_, h2.2.2.1, ?_⟩⟩
  · have := hI.ok.live.1
    rw [h4, hcd] at this
    exact this
  · have := hI.ok.done.1
    rw [hcd] at this
    exact this
  · rw [h1.1, hix]
    simp
  · rw [foldB_snoc, ← hb, he]
  · rcases Nat.lt_or_ge i l.length with hi | hi
    · rw [List.getElem?_append_left hi] at hz
      rw [List.take_append_of_le_length (by omega)]
      exact h.all i z hz
    · have hi' : i < (l ++ [ch]).length := (List.getElem?_eq_some_iff.1 hz).1
      rw [List.length_append] at hi'
      simp at hi'
      obtain rfl : i = l.length := by omega
      have hz' : z = ch := by simpa using hz.symm
      subst hz'
      rw [List.take_left', ← hb]
      · exact ⟨h0, by rw [h1.2, hix]⟩
      · rfl
  · rcases Nat.lt_or_ge l.length i with hi2 | hi2
    · have hi' : i ≤ l.length + 1 := by simpa using hi
      obtain rfl : i = l.length + 1 := by omega
      rw [List.take_of_length_le (by simp), foldB_snoc, ← hb, he]
      exact ⟨hI, by rw [h1.1, hix]; simp⟩
    · rw [List.take_append_of_le_length hi2]
      exact h.invs i hi2
  · unfold endE
    have := h.few
    cases ((ch.call.id != 0) && !(livesV ch.call)) <;> simp <;> omega
/-- what a deed leaves -/
structure RepT (b d : BookV) (ch : ChgV) (e : Int) : Prop where
  inv : InvB d
  yes : (e != 0) = false → applyV b ch = (d, 0) ∧ -9223372036854775808 ≤ ch.index ∧ ch.index ≤ 9223372036854775807
  no : (e != 0) = true → ch = zeroCh ∧ d = zeroB
theorem repT_of {b : BookV} {r : BookV × ChgV × Int} (hI : InvB b) (hI2 : InvB r.1) (ht : Told b r) (hr : r.2.2 = 0 → applyV b r.2.1 = (r.1, 0)) : RepT b r.1 r.2.1 r.2.2 := by
  have hix := hI.ok.index
  refine ⟨hI2, fun h => ?_, fun h => ?_⟩
  · have h0 : r.2.2 = 0 := by simpa using h
    have := (ht.2 h0).2
    exact ⟨hr h0, by omega, by omega⟩
  · have := ht.1 (by simpa using h)
    exact ⟨this.2, this.1⟩
theorem repT_place {b : BookV} (hI : InvB b) (hix : b.index < 1073741824) (x : CallV) (owner now : Int) : RepT b (placeV b x owner now).1 (placeV b x owner now).2.1 (placeV b x owner now).2.2 := repT_of hI (place_toR hI hix owner now).2 (place_told b x owner now) (replay_place hI hix)
theorem repT_cancel {b : BookV} (hI : InvB b) (id owner : Int) : RepT b (cancelBV b id owner).1 (cancelBV b id owner).2.1 (cancelBV b id owner).2.2 := repT_of hI (cancel_toR hI id owner).2 (cancel_told b id owner) (replay_cancel hI)
theorem repT_set {b : BookV} (hI : InvB b) (car mode : Int) : RepT b (setV b car mode).1 (setV b car mode).2.1 (setV b car mode).2.2 := repT_of hI (set_toR hI car mode).2 (set_told b car mode) (replay_set hI)
theorem repT_yes {b : BookV} (hI : InvB b) (hix : b.index < 1073741824) {ch : ChgV} (hch : -9223372036854775808 ≤ ch.index ∧ ch.index ≤ 9223372036854775807) (h : ((applyV b ch).2 == 0) = true) : RepT b (applyV b ch).1 ch (applyV b ch).2 := by
  have h0 : (applyV b ch).2 = 0 := by simpa using h
  refine ⟨(apply_toR hI hix hch).2, fun _ => ⟨Prod.ext rfl h0, hch⟩, fun h1 => ?_⟩
  rw [h0] at h1
  cases h1
theorem repT_no {b : BookV} (hI : InvB b) (hix : b.index < 1073741824) {ch : ChgV} (hch : -9223372036854775808 ≤ ch.index ∧ ch.index ≤ 9223372036854775807) (h : ((applyV b ch).2 == 0) = false) : RepT b (applyV b ch).1 zeroCh (applyV b ch).2 := by
  refine ⟨(apply_toR hI hix hch).2, fun h1 => ?_, fun _ => ⟨rfl, (apply_told hI hix hch).1 (by simpa using h)⟩⟩
  have h2 : (applyV b ch).2 = 0 := by simpa using h1
  rw [h2] at h
  cases h
theorem endV_no {E : List Int} {k : Int} (h : k ∉ E) : (endV E k != 0) = false := by
  unfold endV
  rw [show E.contains k = false by simpa using h]
  rfl
theorem key_wf {k : Int} (h : 0 ≤ k ∧ k ≤ 2000) : (Lit.int .i64 k).wf = true := by
  have h2 : IntKind.i64.min = -9223372036854775808 := by decide
  have h3 : IntKind.i64.max = 9223372036854775807 := by decide
  simp [Lit.wf]
  omega
/-- the calls of a book, one behind the other -/
theorem live_all {b : BookV} (hI : InvB b) {i : Nat} {x : CallV} (h : (liveV b)[i]? = some x) : livesV x = true ∧ x.id ≤ b.index := by
  unfold liveV at h
  rw [List.getElem?_map] at h
  cases e : b.live[i]? with
  | none => rw [e] at h; cases h
  | some p =>
    rw [e] at h
    injection h with h
    have hk := hI.key p (List.mem_of_getElem? e)
    rw [← h]
    have h1 : @LE.le Int _ p.1 b.index := hk.2.2.1
    exact ⟨hk.2.2.2, by rw [← hk.1]; exact h1⟩
theorem live_rise {b : BookV} (hI : InvB b) {i : Nat} {p x : CallV} (h0 : (liveV b)[i]? = some p) (h : (liveV b)[i + 1]? = some x) : p.id < x.id := by
  unfold liveV at h h0
  rw [List.getElem?_map] at h h0
  cases e : b.live[i + 1]? with
  | none => rw [e] at h; cases h
  | some y =>
    cases e0 : b.live[i]? with
    | none => rw [e0] at h0; cases h0
    | some z =>
      rw [e] at h
      rw [e0] at h0
      injection h with h
      injection h0 with h0
      have h1 := List.getElem?_eq_some_iff.1 e
      have h2 := List.getElem?_eq_some_iff.1 e0
      have h3 := List.pairwise_iff_getElem.1 hI.ok.sorted i (i + 1) h2.1 h1.1 (by omega)
      rw [h1.2, h2.2] at h3
      have hy := (hI.key y (List.mem_of_getElem? e)).1
      have hz := (hI.key z (List.mem_of_getElem? e0)).1
      rw [← h, ← h0, ← hy, ← hz]
      simpa [ltK] using h3
end Go.Proofs.Ytnanihffljpdbaa.Bk
