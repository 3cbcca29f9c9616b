/- A region that draws, with one operation that changes the world for all (a store, the last append), and operations that may come behind it: each operation once. -/
import Derived.Test.YthflkhalipkdgaaProg
import Derived.Below
import Derived.WalkKit
import Derived.KernelRfl
import Derived.RowKit3
import Derived.Deep.LoopGhost
import Derived.Deep.QuietTactic
import Derived.BigQuiet
import Derived.WideLaws
import Derived.Deep.DeepCutAuto
import Derived.Deep.CutBlock
import Derived.Lib.Hide
import Derived.Laws.BitsLemmas
import Derived.Laws.Bits64
import Derived.Laws.BitsAllLaws
import Derived.IntWalk
import Derived.Outline
import Derived.WalkSpells
import Derived.Test.YthflkhalipkdgaaMem
import Derived.Test.YthflkhalipkdgaaInv4
namespace Go.Proofs.Ythflkhalipkdgaa.Inv
set_option maxRecDepth 20000
set_option linter.unusedVariables false
set_option linter.unusedSimpArgs false
open Go.RowKit
def depOk (s : Nat) (fl : List Nat) (ops : Array Oper) : Bool := (List.range ops.size).all fun j => j == s || fl.contains j || ((ops[s]?).map (·.after.any fun e => e.on == j && Region.binds .any e)).getD false
def hangs (s : Nat) (lt : List Nat) (ops : Array Oper) : Bool := (List.range ops.size).all fun j => !lt.contains j || ((ops[j]?).map (·.after.any fun e => e.on == s && Region.binds .any e)).getD false
def allIn (ops : Array Oper) : Bool := ops.all fun o => o.after.all fun e => !Region.binds .any e || decide (e.on < ops.size)
section
variable {P : Program} {ops : Array Oper} {Q : Exit → Act → World → Prop}
theorem slot_other {a : Act} {o : Oper} {i j : Nat} {v : Value} (ho : ops[i]? = some o) (hi : i < ops.size) (hj : j < ops.size) (hji : j ≠ i) (hdd : distinctDst ops = true) : slotv ops (a.put o.dst v) j = slotv ops a j := by
  have hdi : dstAt ops i = o.dst := by simp [dstAt, ho]
  unfold slotv
  cases hd : dstAt ops j with
  | none => rfl
  | some d =>
    refine put_getD _ _ _ _ ?_
    rw [← hdi]
    have h3 := List.all_eq_true.1 (List.all_eq_true.1 hdd i (by simpa using hi)) j (by simpa using hj)
    simp only [Bool.or_eq_true, beq_iff_eq, bne_iff_ne, ne_eq] at h3
    rcases h3 with (h3 | h3) | h3
    · exact absurd h3.symm hji
    · rw [h3]; simp
    · intro e; rw [e, hd] at h3; exact h3 rfl
theorem slot_self {a : Act} {o : Oper} {i d : Nat} {v : Value} (ho : ops[i]? = some o) (hd : o.dst = some d) (hlt : d < a.tmps.size) : slotv ops (a.put o.dst v) i = v := by
  have hdi : dstAt ops i = o.dst := by simp [dstAt, ho]
  unfold slotv
  rw [hdi, hd]
  simp [Act.put, Array.getD_eq_getD_getElem?, hlt]
theorem slot_none {a : Act} {o : Oper} {i : Nat} (ho : ops[i]? = some o) (hd : o.dst = none) : slotv ops a i = undef := by
  have hdi : dstAt ops i = o.dst := by simp [dstAt, ho]
  unfold slotv
  rw [hdi, hd]
theorem wp_region_late {id : Nat} {a0 : Act} {w : World} (hm : P.follows .mixedOrders = true) (hb : backward ops) (s : Nat) (hss : s < ops.size) (fl lt : List Nat) (hdo : depOk s fl ops = true) (hlt : hangs s lt ops = true) (hdd : distinctDst ops = true)
    (N : Nat) (hN : a0.tmps.size = N) (hnd' : ((List.range ops.size).all fun j => j == s || (dstAt ops j).isSome) = true) (hsz' : (ops.all fun o => match o.dst with | some d => decide (d < N) | none => true) = true) (hsg : ((ops[s]?).map (·.guard.isNone)) = some true)
    (Rel : World → World → Prop) (hrefl : ∀ w, Rel w w) (W : World → Prop) (V : World → World → Prop) (F : Nat → Value → World → World → Prop) (hF : ∀ j v w w', W w → Rel w w' → F j v w w → F j v w' w') (hFs : ∀ j, j ≠ s → lt.contains j = false → ∀ v wb w, V wb w → F j v wb wb → F j v wb w) (hW : ∀ w w', W w → Rel w w' → W w') (hW0 : W w.drew)
    (hs0 : dstAt ops s = none → ∀ wb w, V wb w → F s undef wb w)
    (step : ∀ i o, i ≠ s → ops[i]? = some o → ∀ a w, Fr ops a0 a → W w → (∀ e ∈ o.after, Region.binds .any e = true → e.on ≠ s → F e.on (slotv ops a e.on) w w) → (∀ e ∈ o.after, Region.binds .any e = true → e.on ≠ s) → Region.wanted o (yielded ops a.tmps) = true →
      ∀ Q' : Exit → Act → World → Prop, (∀ v w', Rel w w' → F i v w' w' → Q' .normal (a.put o.dst v) w') → wpList P ops Q' [o] a w)
    (skip : ∀ i o, i ≠ s → ops[i]? = some o → ∀ a w, Fr ops a0 a → W w → (∀ e ∈ o.after, Region.binds .any e = true → e.on ≠ s → F e.on (slotv ops a e.on) w w) → Region.wanted o (yielded ops a.tmps) = false → F i undef w w)
    (late : ∀ o, ops[s]? = some o → ∀ a wb, Fr ops a0 a → W wb → (∀ e ∈ o.after, Region.binds .any e = true → F e.on (slotv ops a e.on) wb wb) → (∀ j, j < ops.size → j ≠ s → fl.contains j = false → F j (slotv ops a j) wb wb) → Region.wanted o (yielded ops a.tmps) = true →
      ∀ Q' : Exit → Act → World → Prop, (∀ v w, V wb w → F s v wb w → Q' .normal (a.put o.dst v) w) → wpList P ops Q' [o] a wb)
    (step2 : ∀ i o, fl.contains i = true → ops[i]? = some o → ∀ a wb w, Fr ops a0 a → W wb → V wb w → (∀ e ∈ o.after, Region.binds .any e = true → F e.on (slotv ops a e.on) wb w) → Region.wanted o (yielded ops a.tmps) = true →
      ∀ Q' : Exit → Act → World → Prop, (∀ v, F i v wb w → Q' .normal (a.put o.dst v) w) → wpList P ops Q' [o] a w)
    (skip2 : ∀ i o, fl.contains i = true → ops[i]? = some o → ∀ a wb w, Fr ops a0 a → W wb → V wb w → (∀ e ∈ o.after, Region.binds .any e = true → F e.on (slotv ops a e.on) wb w) → Region.wanted o (yielded ops a.tmps) = false → F i undef wb w)
    (fin : ∀ (vs : Nat → Value) wb w, W wb → V wb w → (∀ j, j < ops.size → F j (vs j) wb w) → Q .normal (putAll a0 ops vs ops.size) w) : (Code.region id ops true).wp P Q a0 w := by
  have hb2 : backward ops := hb
  obtain ⟨rk, hb0⟩ := hb2
  have hsz : ∀ (j : Nat) (o : Oper) (d : Tmp), ops[j]? = some o → o.dst = some d → d < a0.tmps.size := fun j o d ho e => by
    have := Array.all_eq_true_iff_forall_mem.1 hsz' o (Array.mem_of_getElem? ho)
    rw [e] at this
    simpa [hN] using this
  have hdst : ∀ (j : Nat) (o : Oper), j ≠ s → ops[j]? = some o → ∃ d, o.dst = some d := fun j o hjs ho => by
    have hj : j < ops.size := (Array.getElem?_eq_some_iff.1 ho).1
    have := List.all_eq_true.1 hnd' j (by simpa using hj)
    simp only [Bool.or_eq_true, beq_iff_eq] at this
    rcases this with h | h
    · exact absurd h hjs
    · have hdj : dstAt ops j = o.dst := by simp [dstAt, ho]
      rw [hdj] at h
      exact Option.isSome_iff_exists.1 h
  have hfr' : ∀ {a : Act} {i : Nat} {o : Oper} {v : Value}, ops[i]? = some o → i < ops.size → Fr ops a0 a → Fr ops a0 (a.put o.dst v) := fun {a i o v} ho hi hfr => by
    have hdi : dstAt ops i = o.dst := by simp [dstAt, ho]
    exact ⟨by rw [put_defers]; exact hfr.defers, by rw [put_size]; exact hfr.size, fun t ht => by
      rw [put_getD _ _ _ _ (by rw [← hdi]; exact ht i hi)]
      exact hfr.rest t ht⟩
  refine wp_region_inv hm hb (fun listed a w => (listed.getD s false = false ∧ Fr ops a0 a ∧ W w ∧ ∀ j, j < ops.size → listed.getD j false = true → lt.contains j = false ∧ F j (slotv ops a j) w w) ∨
      (∃ wb, listed.getD s false = true ∧ Fr ops a0 a ∧ W wb ∧ V wb w ∧ (∀ j, j < ops.size → j ≠ s → fl.contains j = false → listed.getD j false = true) ∧ ∀ j, j < ops.size → listed.getD j false = true → F j (slotv ops a j) wb w)) (.inl ⟨by simp [Array.getD, hss], ⟨rfl, rfl, fun _ _ => rfl⟩, hW0, fun j hj h => ?_⟩) (fun listed i a w hz hI hi => ?_) (fun listed a w hl hI => ?_)
  · simp [Array.getD, hj] at h
  · have hi1 : i < ops.size := by simpa using (List.mem_filter.1 hi).1
    have hi0 : listed.getD i false = false := by
      have hi2 := (List.mem_filter.1 hi).2
      have hil : i < listed.size := by omega
      simp only [Array.getD, hil, dite_true, Bool.and_eq_true, Bool.not_eq_true'] at hi2
      simp only [Array.getD, hil, dite_true]
      exact hi2.1
    obtain ⟨o, ho⟩ : ∃ o, ops[i]? = some o := ⟨ops[i], by simp [hi1]⟩
    unfold wpOp
    rw [ho]
    rcases hI with ⟨hsl, hfr, hw, hfs⟩ | ⟨wb, hsl, hfr, hw, hv, hnf, hfs⟩
    · have hnes : i ≠ s → ∀ e ∈ o.after, Region.binds .any e = true → e.on ≠ s := fun _ e he hbe e1 => by
        have := ready_dep ho hi he hbe
        rw [e1, hsl] at this
        cases this
      have hdep : ∀ e ∈ o.after, Region.binds .any e = true → F e.on (slotv ops a e.on) w w := fun e he hbe => (hfs e.on (backward.edge hb0 ho he hbe).1 (ready_dep ho hi he hbe)).2
      by_cases his : i = s
      · subst his
        have hg : o.guard = none := by
          rw [ho] at hsg
          simpa using hsg
        have hwant : Region.wanted o (yielded ops a.tmps) = true := by simp [Region.wanted, hg]
        simp only [hwant, if_true]
        have hall : ∀ j, j < ops.size → j ≠ i → fl.contains j = false → listed.getD j false = true := fun j hj hji hjf => by
          have h1 := List.all_eq_true.1 hdo j (by simpa using hj)
          rw [ho, hjf] at h1
          simp only [Bool.or_false, Bool.or_eq_true, beq_iff_eq, Option.map_some, Option.getD_some] at h1
          rcases h1 with h1 | h1
          · exact absurd h1 hji
          · rw [← Array.any_toList, List.any_eq_true] at h1
            obtain ⟨e, he, h3⟩ := h1
            rw [Array.mem_toList_iff] at he
            simp only [Bool.and_eq_true, beq_iff_eq] at h3
            have := ready_dep ho hi he h3.2
            rwa [h3.1] at this
        refine of_list hwant (late o ho a w hfr hw hdep (fun j hj hji hjf => (hfs j hj (hall j hj hji hjf)).2) hwant (swap Q _) fun v w' hV hFv => .inr ⟨w, ?_, hfr' ho hi1 hfr, hw, hV, fun j hj hji hjf => ?_, fun j hj hlj => ?_⟩)
        · rw [set_getD _ _ _ (by omega), if_pos rfl]
        · rw [set_getD _ _ _ (by omega), if_neg (fun e => hji e.symm)]
          exact hall j hj hji hjf
        · by_cases hji : j = i
          · subst hji
            cases hd : o.dst with
            | none =>
              rw [show (none : Option Tmp) = o.dst from hd.symm, slot_none ho hd]
              exact hs0 (by simp [dstAt, ho, hd]) _ _ hV
            | some d =>
              rw [show (some d : Option Tmp) = o.dst from hd.symm, slot_self ho hd (by rw [hfr.size]; exact hsz _ o d ho hd)]
              exact hFv
          · rw [set_getD _ _ _ (by omega), if_neg (fun e => hji e.symm)] at hlj
            rw [slot_other ho hi1 hj hji hdd]
            exact hFs j hji (hfs j hj hlj).1 _ _ _ hV (hfs j hj hlj).2
      · suffices key : ∀ v w', Rel w w' → F i v w' w' → ((listed.setIfInBounds i true).getD s false = false ∧ Fr ops a0 (a.put o.dst v) ∧ W w' ∧ ∀ j, j < ops.size → (listed.setIfInBounds i true).getD j false = true → lt.contains j = false ∧ F j (slotv ops (a.put o.dst v) j) w' w') by
          by_cases hwant : Region.wanted o (yielded ops a.tmps) = true
          · simp only [hwant, if_true]
            exact of_list hwant (step i o his ho a w hfr hw (fun e he hbe _ => hdep e he hbe) (hnes his) hwant (swap Q _) fun v w' h1 h2 => .inl (key v w' h1 h2))
          · have hwant' : Region.wanted o (yielded ops a.tmps) = false := by simpa using hwant
            simp only [hwant', Bool.false_eq_true, if_false]
            exact .inl (key undef w (hrefl w) (skip i o his ho a w hfr hw (fun e he hbe _ => hdep e he hbe) hwant'))
        intro v w' hR hFv
        refine ⟨?_, hfr' ho hi1 hfr, hW w w' hw hR, fun j hj hlj => ?_⟩
        · rw [set_getD _ _ _ (by omega), if_neg his]
          exact hsl
        · by_cases hji : j = i
          · subst hji
            obtain ⟨d, hd⟩ := hdst _ o his ho
            rw [slot_self ho hd (by rw [hfr.size]; exact hsz _ o d ho hd)]
            refine ⟨?_, hFv⟩
            cases hc : lt.contains j with
            | false => rfl
            | true =>
              have h1 := List.all_eq_true.1 hlt j (by simpa using hj)
              rw [hc, ho] at h1
              simp only [Bool.not_true, Bool.false_or, Option.map_some, Option.getD_some] at h1
              rw [← Array.any_toList, List.any_eq_true] at h1
              obtain ⟨e, he, h3⟩ := h1
              rw [Array.mem_toList_iff] at he
              simp only [Bool.and_eq_true, beq_iff_eq] at h3
              exact absurd h3.1 (hnes his e he h3.2)
          · rw [set_getD _ _ _ (by omega), if_neg (fun e => hji e.symm)] at hlj
            rw [slot_other ho hi1 hj hji hdd]
            exact ⟨(hfs j hj hlj).1, hF j _ w w' hw hR (hfs j hj hlj).2⟩
    · have his : i ≠ s := fun e => by rw [e, hsl] at hi0; cases hi0
      have hif : fl.contains i = true := by
        cases h : fl.contains i with
        | true => rfl
        | false =>
          rw [hnf i hi1 his h] at hi0
          cases hi0
      have hdep : ∀ e ∈ o.after, Region.binds .any e = true → F e.on (slotv ops a e.on) wb w := fun e he hbe => hfs e.on (backward.edge hb0 ho he hbe).1 (ready_dep ho hi he hbe)
      suffices key : ∀ v, F i v wb w → (∃ wb, (listed.setIfInBounds i true).getD s false = true ∧ Fr ops a0 (a.put o.dst v) ∧ W wb ∧ V wb w ∧ (∀ j, j < ops.size → j ≠ s → fl.contains j = false → (listed.setIfInBounds i true).getD j false = true) ∧ ∀ j, j < ops.size → (listed.setIfInBounds i true).getD j false = true → F j (slotv ops (a.put o.dst v) j) wb w) by
        by_cases hwant : Region.wanted o (yielded ops a.tmps) = true
        · simp only [hwant, if_true]
          exact of_list hwant (step2 i o hif ho a wb w hfr hw hv hdep hwant (swap Q _) fun v h2 => .inr (key v h2))
        · have hwant' : Region.wanted o (yielded ops a.tmps) = false := by simpa using hwant
          simp only [hwant', Bool.false_eq_true, if_false]
          exact .inr (key undef (skip2 i o hif ho a wb w hfr hw hv hdep hwant'))
      intro v hFv
      refine ⟨wb, ?_, hfr' ho hi1 hfr, hw, hv, fun j hj hjs hjf => ?_, fun j hj hlj => ?_⟩
      · rw [set_getD _ _ _ (by omega), if_neg his]
        exact hsl
      · rw [set_getD _ _ _ (by omega)]
        split
        · rfl
        · exact hnf j hj hjs hjf
      · by_cases hji : j = i
        · subst hji
          obtain ⟨d, hd⟩ := hdst _ o his ho
          rw [slot_self ho hd (by rw [hfr.size]; exact hsz _ o d ho hd)]
          exact hFv
        · rw [set_getD _ _ _ (by omega), if_neg (fun e => hji e.symm)] at hlj
          rw [slot_other ho hi1 hj hji hdd]
          exact hfs j hj hlj
  · rcases hI with ⟨hsl, _⟩ | ⟨wb, hsl, hfr, hw, hv, hnf, hfs⟩
    · rw [hl s hss] at hsl
      cases hsl
    · rw [putAll_eq hfr]
      exact fin _ wb w hw hv fun j hj => hfs j hj (hl j hj)
end
end Go.Proofs.Ythflkhalipkdgaa.Inv
