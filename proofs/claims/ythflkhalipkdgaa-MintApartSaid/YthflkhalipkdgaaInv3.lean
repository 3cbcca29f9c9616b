/- A region with guards, in whatever order: each operation is walked once. -/
import Derived.Test.YthflkhalipkdgaaProg
import Derived.Below
import Derived.WalkKit
import Derived.KernelRfl
import Derived.RowKit3
import Derived.Deep.LoopGhost
import Derived.Deep.QuietTactic
import Derived.BigQuiet
import Derived.WideLaws
import Derived.Deep.DeepCutAuto
import Derived.Deep.CutBlock
import Derived.Lib.Hide
import Derived.Laws.BitsLemmas
import Derived.Laws.Bits64
import Derived.Laws.BitsAllLaws
import Derived.IntWalk
import Derived.Outline
import Derived.WalkSpells
import Derived.Test.YthflkhalipkdgaaMem
import Derived.Test.YthflkhalipkdgaaInv2
namespace Go.Proofs.Ythflkhalipkdgaa.Inv
set_option maxRecDepth 20000
set_option linter.unusedVariables false
set_option linter.unusedSimpArgs false
open Go.RowKit
section
variable {P : Program} {ops : Array Oper} {Q : Exit → Act → World → Prop}
/-- Q, but K where all goes on -/
def swap (Q : Exit → Act → World → Prop) (K : Act → World → Prop) : Exit → Act → World → Prop
  | .normal, a, w => K a w
  | e, a, w => Q e a w
theorem of_list {o : Oper} {a : Act} {w : World} {K : Act → World → Prop} (hw : Region.wanted o (yielded ops a.tmps) = true) (h : wpList P ops (swap Q K) [o] a w) : o.wp P a w K Q ∨ (o.asks P a w ∧ LetsOut Q) := by
  unfold wpList at h
  rw [if_pos hw] at h
  rcases h with h | ⟨h1, h2⟩
  · exact .inl h
  · exact .inr ⟨h1, h2⟩
theorem wp_region_walks {id : Nat} {a0 : Act} {w : World} (hm : P.follows .mixedOrders = true) (hb : backward ops) (hdd : distinctDst ops = true)
    (N : Nat) (hN : a0.tmps.size = N) (hnd' : (ops.all fun o => o.dst.isSome) = true) (hsz' : (ops.all fun o => match o.dst with | some d => decide (d < N) | none => true) = true)
    (Rel : World → World → Prop) (hrefl : ∀ w, Rel w w) (W : World → Prop) (F : Nat → Value → World → Prop) (hF : ∀ j v w w', W w → Rel w w' → F j v w → F j v w') (hW : ∀ w w', W w → Rel w w' → W w') (hW0 : W w.drew)
    (step : ∀ i o, ops[i]? = some o → ∀ a w, Fr ops a0 a → W w → (∀ e ∈ o.after, Region.binds .any e = true → F e.on (slotv ops a e.on) w) → Region.wanted o (yielded ops a.tmps) = true →
      ∀ Q' : Exit → Act → World → Prop, (∀ v w', Rel w w' → F i v w' → Q' .normal (a.put o.dst v) w') → wpList P ops Q' [o] a w)
    (skip : ∀ i o, ops[i]? = some o → ∀ a w, Fr ops a0 a → W w → (∀ e ∈ o.after, Region.binds .any e = true → F e.on (slotv ops a e.on) w) → Region.wanted o (yielded ops a.tmps) = false → F i undef w)
    (fin : ∀ (vs : Nat → Value) w, W w → (∀ j, j < ops.size → F j (vs j) w) → Q .normal (putAll a0 ops vs ops.size) w) : (Code.region id ops true).wp P Q a0 w := by
  have hnd : ∀ j, j < ops.size → dstAt ops j ≠ none := fun j hj e => by
    have := Array.all_eq_true_iff_forall_mem.1 hnd' ops[j] (by simp)
    unfold dstAt at e
    simp only [Array.getElem?_eq_getElem, hj, Option.bind_some] at e
    rw [e] at this
    simp at this
  have hsz : ∀ j d, dstAt ops j = some d → d < a0.tmps.size := fun j d e => by
    unfold dstAt at e
    cases ho : ops[j]? with
    | none => simp [ho] at e
    | some o =>
      have := Array.all_eq_true_iff_forall_mem.1 hsz' o (Array.mem_of_getElem? ho)
      simp only [ho, Option.bind_some] at e
      rw [e] at this
      simpa [hN] using this
  refine wp_region_inv hm hb (fun listed a w => Fr ops a0 a ∧ W w ∧ ∀ j, j < ops.size → listed.getD j false = true → F j (slotv ops a j) w) ⟨⟨rfl, rfl, fun _ _ => rfl⟩, hW0, fun j hj h => ?_⟩ (fun listed i a w hz hI hi => ?_) (fun listed a w hl hI => ?_)
  · simp [Array.getD, hj] at h
  · obtain ⟨hfr, hw, hfs⟩ := hI
    have hi1 : i < ops.size := by simpa using (List.mem_filter.1 hi).1
    have hi2 := (List.mem_filter.1 hi).2
    obtain ⟨o, ho⟩ : ∃ o, ops[i]? = some o := ⟨ops[i], by simp [hi1]⟩
    unfold wpOp
    rw [ho]
    have hdep : ∀ e ∈ o.after, Region.binds .any e = true → F e.on (slotv ops a e.on) w := by
      intro e he hbe
      rw [ho] at hi2
      simp only [Option.map_some, Option.getD_some, Bool.and_eq_true] at hi2
      have h1 := Array.all_eq_true_iff_forall_mem.1 hi2.2 e he
      rw [hbe] at h1
      have hl : listed.getD e.on false = true := by simpa using h1
      obtain ⟨rk, hb0⟩ := hb
      exact hfs e.on (backward.edge hb0 ho he hbe).1 hl
    suffices key : ∀ v w', Rel w w' → F i v w' → Fr ops a0 (a.put o.dst v) ∧ W w' ∧ ∀ j, j < ops.size → (listed.setIfInBounds i true).getD j false = true → F j (slotv ops (a.put o.dst v) j) w' by
      by_cases hwant : Region.wanted o (yielded ops a.tmps) = true
      · simp only [hwant, if_true]
        exact of_list hwant (step i o ho a w hfr hw hdep hwant (swap Q _) fun v w' h1 h2 => key v w' h1 h2)
      · have hwant' : Region.wanted o (yielded ops a.tmps) = false := by simpa using hwant
        simp only [hwant', Bool.false_eq_true, if_false]
        exact key undef w (hrefl w) (skip i o ho a w hfr hw hdep hwant')
    intro v w' hoff hFv
    have hdi : dstAt ops i = o.dst := by simp [dstAt, ho]
    refine ⟨⟨by rw [put_defers]; exact hfr.defers, by rw [put_size]; exact hfr.size, fun t ht => ?_⟩, hW w w' hw hoff, fun j hj hl => ?_⟩
    · rw [put_getD _ _ _ _ (by rw [← hdi]; exact ht i hi1)]
      exact hfr.rest t ht
    · by_cases hji : j = i
      · subst hji
        have : slotv ops (a.put o.dst v) j = v ∨ o.dst = none := by
          unfold slotv
          rw [hdi]
          cases hd : o.dst with
          | none => exact .inr rfl
          | some d =>
            left
            have hlt : d < a.tmps.size := by rw [hfr.size]; exact hsz j d (by rw [hdi, hd])
            simp [Act.put, Array.getD_eq_getD_getElem?, hlt]
        rcases this with h | h
        · rw [h]; exact hFv
        · have h2 := hnd j hj
          rw [hdi] at h2
          exact absurd h h2
      · have hlj : listed.getD j false = true := by
          have hne : i ≠ j := fun e => hji e.symm
          rw [Array.getD_eq_getD_getElem?, Array.getElem?_setIfInBounds_ne hne, ← Array.getD_eq_getD_getElem?] at hl
          exact hl
        have h1 := hfs j hj hlj
        have h2 : slotv ops (a.put o.dst v) j = slotv ops a j := by
          unfold slotv
          cases hd : dstAt ops j with
          | none => rfl
          | some d =>
            refine put_getD _ _ _ _ ?_
            rw [← hdi]
            have h3 := List.all_eq_true.1 (List.all_eq_true.1 hdd i (by simpa using hi1)) j (by simpa using hj)
            simp only [Bool.or_eq_true, beq_iff_eq, bne_iff_ne, ne_eq] at h3
            rcases h3 with (h3 | h3) | h3
            · exact absurd h3.symm hji
            · rw [h3]; simp
            · intro e; rw [e, hd] at h3; exact h3 rfl
        rw [h2]
        exact hF j _ w w' hw hoff h1
  · obtain ⟨hfr, hw, hfs⟩ := hI
    rw [putAll_eq hfr]
    exact fin _ w hw fun j hj => hfs j hj (hl j hj)
end
end Go.Proofs.Ythflkhalipkdgaa.Inv
