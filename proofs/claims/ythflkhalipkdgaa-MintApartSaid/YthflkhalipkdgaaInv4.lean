/- A region that draws, whose last operations wait for all that stand ahead of them: the first part in whatever order, each operation once; the last part as a list. -/
import Derived.Test.YthflkhalipkdgaaProg
import Derived.Below
import Derived.WalkKit
import Derived.KernelRfl
import Derived.RowKit3
import Derived.Deep.LoopGhost
import Derived.Deep.QuietTactic
import Derived.BigQuiet
import Derived.WideLaws
import Derived.Deep.DeepCutAuto
import Derived.Deep.CutBlock
import Derived.Lib.Hide
import Derived.Laws.BitsLemmas
import Derived.Laws.Bits64
import Derived.Laws.BitsAllLaws
import Derived.IntWalk
import Derived.Outline
import Derived.WalkSpells
import Derived.Test.YthflkhalipkdgaaMem
import Derived.Test.YthflkhalipkdgaaInv3
namespace Go.Proofs.Ythflkhalipkdgaa.Inv
set_option maxRecDepth 20000
set_option linter.unusedVariables false
set_option linter.unusedSimpArgs false
open Go.RowKit
def tailAfter (m : Nat) (ops : Array Oper) : Bool := (List.range ops.size).all fun i => decide (i < m) || (List.range i).all fun j => ((ops[i]?).map (·.after.any fun e => e.on == j && Region.binds .any e)).getD false
def preIn (m : Nat) (ops : Array Oper) : Bool := ops.all fun o => o.after.all fun e => !Region.binds .any e || decide (e.on < m)
section
variable {P : Program} {ops pre : Array Oper} {Q : Exit → Act → World → Prop}
theorem ready_dep {listed : Array Bool} {i : Nat} {o : Oper} (ho : ops[i]? = some o) (hi : i ∈ Region.ready .any ops listed) {e : Edge} (he : e ∈ o.after) (hbe : Region.binds .any e = true) : listed.getD e.on false = true := by
  have hi2 := (List.mem_filter.1 hi).2
  rw [ho] at hi2
  simp only [Option.map_some, Option.getD_some, Bool.and_eq_true] at hi2
  have h1 := Array.all_eq_true_iff_forall_mem.1 hi2.2 e he
  rw [hbe] at h1
  simpa using h1
theorem tail_dep {m : Nat} (ht : tailAfter m ops = true) {listed : Array Bool} {i : Nat} (his : i < ops.size) (hmi : m ≤ i) (hi : i ∈ Region.ready .any ops listed) : ∀ j, j < i → listed.getD j false = true := by
  intro j hj
  have ho : ops[i]? = some ops[i] := by simp [his]
  have h1 := List.all_eq_true.1 ht i (by simpa using his)
  simp only [Bool.or_eq_true, decide_eq_true_eq] at h1
  rcases h1 with h1 | h1
  · omega
  · have h2 := List.all_eq_true.1 h1 j (by simpa using hj)
    rw [ho] at h2
    simp only [Option.map_some, Option.getD_some] at h2
    rw [← Array.any_toList, List.any_eq_true] at h2
    obtain ⟨e, he, h3⟩ := h2
    rw [Array.mem_toList_iff] at he
    simp only [Bool.and_eq_true, beq_iff_eq] at h3
    have := ready_dep ho hi he h3.2
    rwa [h3.1] at this
theorem set_getD (listed : Array Bool) (i j : Nat) (hi : i < listed.size) : (listed.setIfInBounds i true).getD j false = if i = j then true else listed.getD j false := by
  rw [Array.getD_eq_getD_getElem?, Array.getD_eq_getD_getElem?, Array.getElem?_setIfInBounds]
  split
  · rename_i h
    subst h
    simp [hi]
  · rfl
theorem wp_region_split {id : Nat} {a0 : Act} {w : World} (hm : P.follows .mixedOrders = true) (hb : backward ops) (m : Nat) (hpz : pre.size = m) (hpre : ops.toList.take m = pre.toList) (htail : tailAfter m ops = true) (hin : preIn m pre = true) (hdd : distinctDst pre = true)
    (N : Nat) (hN : a0.tmps.size = N) (hnd' : (pre.all fun o => o.dst.isSome) = true) (hsz' : (pre.all fun o => match o.dst with | some d => decide (d < N) | none => true) = true)
    (Rel : World → World → Prop) (hrefl : ∀ w, Rel w w) (W : World → Prop) (F : Nat → Value → World → Prop) (hF : ∀ j v w w', W w → Rel w w' → F j v w → F j v w') (hW : ∀ w w', W w → Rel w w' → W w') (hW0 : W w.drew)
    (step : ∀ i o, pre[i]? = some o → ∀ a w, Fr pre a0 a → W w → (∀ e ∈ o.after, Region.binds .any e = true → F e.on (slotv pre a e.on) w) → Region.wanted o (yielded ops a.tmps) = true →
      ∀ Q' : Exit → Act → World → Prop, (∀ v w', Rel w w' → F i v w' → Q' .normal (a.put o.dst v) w') → wpList P ops Q' [o] a w)
    (skip : ∀ i o, pre[i]? = some o → ∀ a w, Fr pre a0 a → W w → (∀ e ∈ o.after, Region.binds .any e = true → F e.on (slotv pre a e.on) w) → Region.wanted o (yielded ops a.tmps) = false → F i undef w)
    (fin : ∀ (vs : Nat → Value) w, W w → (∀ j, j < m → F j (vs j) w) → wpList P ops Q (ops.toList.drop m) (putAll a0 pre vs pre.size) w) : (Code.region id ops true).wp P Q a0 w := by
  have hmz : m ≤ ops.size := by
    have := congrArg List.length hpre
    rw [List.length_take, Array.length_toList, Array.length_toList, hpz] at this
    omega
  have hget : ∀ j, j < m → ops[j]? = pre[j]? := fun j hj => by
    rw [← Array.getElem?_toList, ← Array.getElem?_toList, ← hpre, List.getElem?_take_of_lt hj]
  have hnd : ∀ j, j < m → dstAt pre j ≠ none := fun j hj e => by
    have hj' : j < pre.size := by omega
    have := Array.all_eq_true_iff_forall_mem.1 hnd' pre[j] (by simp)
    unfold dstAt at e
    simp only [Array.getElem?_eq_getElem, hj', Option.bind_some] at e
    rw [e] at this
    simp at this
  have hsz : ∀ j d, dstAt pre j = some d → d < a0.tmps.size := fun j d e => by
    unfold dstAt at e
    cases ho : pre[j]? with
    | none => simp [ho] at e
    | some o =>
      have := Array.all_eq_true_iff_forall_mem.1 hsz' o (Array.mem_of_getElem? ho)
      simp only [ho, Option.bind_some] at e
      rw [e] at this
      simpa [hN] using this
  have hcons : ∀ i (hi : i < ops.size), ops.toList.drop i = ops[i] :: ops.toList.drop (i + 1) := fun i hi => by
    rw [List.drop_eq_getElem_cons (by simpa using hi)]
    simp
  have hop : ∀ i a w, i < ops.size → wpList P ops Q (ops.toList.drop i) a w → wpOp P ops Q i (wpList P ops Q (ops.toList.drop (i + 1))) a w := fun i a w hi h => by
    rw [hcons i hi] at h
    unfold wpOp
    rw [show ops[i]? = some ops[i] by simp [hi]]
    exact h
  refine wp_region_inv hm hb (fun listed a w => ((∀ j, m ≤ j → j < ops.size → listed.getD j false = false) ∧ Fr pre a0 a ∧ W w ∧ ∀ j, j < m → listed.getD j false = true → F j (slotv pre a j) w) ∨
      (∃ s, m + s ≤ ops.size ∧ (∀ j, j < ops.size → listed.getD j false = decide (j < m + s)) ∧ wpList P ops Q (ops.toList.drop (m + s)) a w)) (.inl ⟨fun j _ hj => by simp [Array.getD, hj], ⟨rfl, rfl, fun _ _ => rfl⟩, hW0, fun j hj h => ?_⟩) (fun listed i a w hz hI hi => ?_) (fun listed a w hl hI => ?_)
  · simp [Array.getD, show j < ops.size by omega] at h
  · have hi1 : i < ops.size := by simpa using (List.mem_filter.1 hi).1
    have hi0 : listed.getD i false = false := by
      have hi2 := (List.mem_filter.1 hi).2
      have hil : i < listed.size := by omega
      simp only [Array.getD, hil, dite_true, Bool.and_eq_true, Bool.not_eq_true'] at hi2
      simp only [Array.getD, hil, dite_true]
      exact hi2.1
    rcases hI with ⟨htl, hfr, hw, hfs⟩ | ⟨s, hs1, hs2, hs3⟩
    · rcases Nat.lt_or_ge i m with him | him
      · obtain ⟨o, ho⟩ : ∃ o, ops[i]? = some o := ⟨ops[i], by simp [hi1]⟩
        have hop' : pre[i]? = some o := by rw [← hget i him]; exact ho
        unfold wpOp
        rw [ho]
        have hdep : ∀ e ∈ o.after, Region.binds .any e = true → F e.on (slotv pre a e.on) w := by
          intro e he hbe
          have h2 := Array.all_eq_true_iff_forall_mem.1 (Array.all_eq_true_iff_forall_mem.1 hin o (Array.mem_of_getElem? hop')) e he
          rw [hbe] at h2
          exact hfs e.on (by simpa using h2) (ready_dep ho hi he hbe)
        suffices key : ∀ v w', Rel w w' → F i v w' → (fun listed a w => ((∀ j, m ≤ j → j < ops.size → listed.getD j false = false) ∧ Fr pre a0 a ∧ W w ∧ ∀ j, j < m → listed.getD j false = true → F j (slotv pre a j) w) ∨
            (∃ s, m + s ≤ ops.size ∧ (∀ j, j < ops.size → listed.getD j false = decide (j < m + s)) ∧ wpList P ops Q (ops.toList.drop (m + s)) a w)) (listed.setIfInBounds i true) (a.put o.dst v) w' by
          by_cases hwant : Region.wanted o (yielded ops a.tmps) = true
          · simp only [hwant, if_true]
            exact of_list hwant (step i o hop' a w hfr hw hdep hwant (swap Q _) fun v w' h1 h2 => key v w' h1 h2)
          · have hwant' : Region.wanted o (yielded ops a.tmps) = false := by simpa using hwant
            simp only [hwant', Bool.false_eq_true, if_false]
            exact key undef w (hrefl w) (skip i o hop' a w hfr hw hdep hwant')
        intro v w' hoff hFv
        have hdi : dstAt pre i = o.dst := by simp [dstAt, hop']
        refine .inl ⟨fun j hj hjs => ?_, ⟨by rw [put_defers]; exact hfr.defers, by rw [put_size]; exact hfr.size, fun t ht => ?_⟩, hW w w' hw hoff, fun j hj hl => ?_⟩
        · rw [set_getD _ _ _ (by omega), if_neg (by omega)]
          exact htl j hj hjs
        · rw [put_getD _ _ _ _ (by rw [← hdi]; exact ht i (by omega))]
          exact hfr.rest t ht
        · by_cases hji : j = i
          · subst hji
            have : slotv pre (a.put o.dst v) j = v ∨ o.dst = none := by
              unfold slotv
              rw [hdi]
              cases hd : o.dst with
              | none => exact .inr rfl
              | some d =>
                left
                have hlt : d < a.tmps.size := by rw [hfr.size]; exact hsz j d (by rw [hdi, hd])
                simp [Act.put, Array.getD_eq_getD_getElem?, hlt]
            rcases this with h | h
            · rw [h]; exact hFv
            · have h2 := hnd j hj
              rw [hdi] at h2
              exact absurd h h2
          · rw [set_getD _ _ _ (by omega), if_neg (fun e => hji e.symm)] at hl
            have h1 := hfs j hj hl
            have h2 : slotv pre (a.put o.dst v) j = slotv pre a j := by
              unfold slotv
              cases hd : dstAt pre j with
              | none => rfl
              | some d =>
                refine put_getD _ _ _ _ ?_
                rw [← hdi]
                have h3 := List.all_eq_true.1 (List.all_eq_true.1 hdd i (by simp; omega)) j (by simp; omega)
                simp only [Bool.or_eq_true, beq_iff_eq, bne_iff_ne, ne_eq] at h3
                rcases h3 with (h3 | h3) | h3
                · exact absurd h3.symm hji
                · rw [h3]; simp
                · intro e; rw [e, hd] at h3; exact h3 rfl
            rw [h2]
            exact hF j _ w w' hw hoff h1
      · have hall := tail_dep htail hi1 him hi
        have him' : i = m := by
          rcases Nat.lt_or_ge m i with h | h
          · have h1 := hall m h
            rw [htl m (Nat.le_refl _) (by omega)] at h1
            cases h1
          · omega
        subst him'
        have hpl := fin (slotv pre a) w hw (fun j hj => hfs j hj (hall j hj))
        rw [← putAll_eq hfr] at hpl
        refine wpOp_mono (fun a w h => .inr ⟨1, by omega, fun j hj => ?_, h⟩) (hop i a w hi1 hpl)
        rw [set_getD _ _ _ (by omega)]
        split
        · subst_vars
          simp
        · rename_i hne
          rcases Nat.lt_or_ge j i with h | h
          · rw [hall j h]
            simp; omega
          · rw [htl j h hj]
            simp; omega
    · have his : i = m + s := by
        have h1 := hs2 i hi1
        rw [hi0] at h1
        have h2 : ¬ i < m + s := by simpa using h1.symm
        rcases Nat.lt_or_ge (m + s) i with h | h
        · have h3 := tail_dep htail hi1 (by omega) hi (m + s) h
          rw [hs2 (m + s) (by omega)] at h3
          simp at h3
        · omega
      subst his
      refine wpOp_mono (fun a w h => .inr ⟨s + 1, by omega, fun j hj => ?_, h⟩) (hop (m + s) a w hi1 hs3)
      rw [set_getD _ _ _ (by omega)]
      split
      · subst_vars
        simp
      · rw [hs2 j hj]
        simp only [decide_eq_decide]
        omega
  · rcases hI with ⟨htl, hfr, hw, hfs⟩ | ⟨s, hs1, hs2, hs3⟩
    · have hme : m = ops.size := by
        rcases Nat.lt_or_ge m ops.size with h | h
        · have h1 := hl m h
          rw [htl m (Nat.le_refl _) h] at h1
          cases h1
        · omega
      have hpl := fin (slotv pre a) w hw (fun j hj => hfs j hj (hl j (by omega)))
      rw [← putAll_eq hfr, hme, List.drop_of_length_le (by simp)] at hpl
      exact hpl
    · have hse : m + s = ops.size := by
        rcases Nat.lt_or_ge (m + s) ops.size with h | h
        · have h1 := hl (m + s) h
          rw [hs2 (m + s) h] at h1
          simp at h1
        · omega
      rw [hse, List.drop_of_length_le (by simp)] at hs3
      exact hs3
end
end Go.Proofs.Ythflkhalipkdgaa.Inv
