/- Inv Inv2 Inv3 Inv4 Inv5 HpW -/
import Derived.Test.YtnanihffljpdbaaProg
import Derived.Below
import Derived.WalkKit
import Derived.KernelRfl
import Derived.RowKit3
import Derived.Deep.LoopGhost
import Derived.Deep.QuietTactic
import Derived.BigQuiet
import Derived.WideLaws
import Derived.Deep.DeepCutAuto
import Derived.Deep.CutBlock
import Derived.Lib.Hide
import Derived.Laws.BitsLemmas
import Derived.Laws.Bits64
import Derived.Laws.BitsAllLaws
import Derived.IntWalk
import Derived.Outline
import Derived.WalkSpells
import Derived.Test.YtnanihffljpdbaaGA
import Derived.RegionTactic
/- A region in whatever order, by what each operation leaves behind: each operation is walked once. -/
namespace Go.Proofs.Ytnanihffljpdbaa.Inv
set_option linter.unusedVariables false
set_option linter.unusedSimpArgs false
open Go.RowKit

section
variable {P : Program} {ops : Array Oper} {Q : Exit → Act → World → Prop}

/-- all edges go back: so whoever is left can come up -/
def backwardR (rk : List Nat) (ops : Array Oper) : Bool := (List.range ops.size).all fun i => ((ops[i]?).map (·.after.all fun e => !Region.binds .any e || (decide (e.on < ops.size) && decide (rk.getD e.on 0 < rk.getD i 0)))).getD true
def backward (ops : Array Oper) : Prop := ∃ rk : List Nat, backwardR rk ops = true
theorem backward.edge {ops : Array Oper} {rk : List Nat} (h : backwardR rk ops = true) {i : Nat} {o : Oper} (ho : ops[i]? = some o) {e : Edge} (he : e ∈ o.after) (hbe : Region.binds .any e = true) : e.on < ops.size ∧ rk.getD e.on 0 < rk.getD i 0 := by
  have hi : i < ops.size := (Array.getElem?_eq_some_iff.1 ho).1
  have h1 := List.all_eq_true.1 h i (by simpa using hi)
  rw [ho] at h1
  simp only [Option.map_some, Option.getD_some] at h1
  have h2 := Array.all_eq_true_iff_forall_mem.1 h1 e he
  rw [hbe] at h2
  simpa using h2
theorem ready_none {listed : Array Bool} (hz : listed.size = ops.size) (hb : backward ops) (hr : Region.ready .any ops listed = []) : ∀ i, i < ops.size → listed.getD i false = true := by
  obtain ⟨rk, hb⟩ := hb
  suffices h : ∀ n i, rk.getD i 0 = n → i < ops.size → listed.getD i false = true from fun i hi => h _ i rfl hi
  intro n
  induction n using Nat.strongRecOn with
  | ind n ih =>
    intro i hn hi
    cases hl : listed.getD i false with
    | true => rfl
    | false =>
      exfalso
      have hl' : listed[i]? = some false := by
        have : i < listed.size := by omega
        simp [Array.getD, this] at hl
        simp [this, hl]
      have hm : i ∈ Region.ready .any ops listed := by
        unfold Region.ready
        rw [List.mem_filter]
        refine ⟨by simpa using hi, ?_⟩
        have ho : ops[i]? = some ops[i] := by simp [hi]
        rw [ho]
        have h1 : listed.getD i true = false := by simp [Array.getD_eq_getD_getElem?, hl']
        rw [h1]
        simp only [Bool.not_false, Bool.true_and, Option.map_some, Option.getD_some]
        rw [Array.all_eq_true_iff_forall_mem]
        intro e he
        cases hbe : Region.binds .any e with
        | false => simp
        | true =>
          have h2 := backward.edge hb ho he hbe
          have := ih _ (by omega) e.on rfl h2.1
          simp [this]
      rw [hr] at hm
      cases hm
theorem wpAny_inv (I : Array Bool → Act → World → Prop) (hb : backward ops)
    (hs : ∀ listed i a w, listed.size = ops.size → I listed a w → i ∈ Region.ready .any ops listed → wpOp P ops Q i (I (listed.setIfInBounds i true)) a w)
    (hd : ∀ listed a w, (∀ i, i < ops.size → listed.getD i false = true) → I listed a w → Q .normal a w) :
    ∀ (fuel : Nat) (listed : Array Bool) (a : Act) (w : World), listed.size = ops.size → I listed a w → (listed.toList.count false ≤ fuel) → wpAny P .any ops Q fuel listed a w := by
  intro fuel
  induction fuel with
  | zero =>
    intro listed a w hz hI hf
    have hall : ∀ i, i < ops.size → listed.getD i false = true := by
      intro i hi
      have h0 : ¬ false ∈ listed.toList := by rw [← List.count_pos_iff]; omega
      have hi' : i < listed.size := by omega
      cases hg : listed[i] with
      | true => simp [Array.getD, hi', hg]
      | false => exact absurd (by rw [← hg]; simp) h0
    refine ⟨?_, hd _ _ _ hall hI⟩
    unfold Region.ready
    rw [List.filter_eq_nil_iff]
    intro i hi
    have := hall i (by simpa using hi)
    have hi' : i < listed.size := by rw [hz]; simpa using hi
    have h2 : listed[i]? = some true := by simpa [Array.getD_eq_getD_getElem?, hi'] using this
    simp [Array.getD_eq_getD_getElem?, h2]
  | succ fuel ih =>
    intro listed a w hz hI hf
    refine ⟨fun hr => hd _ _ _ (ready_none hz hb hr) hI, fun i hi => ?_⟩
    refine wpOp_mono (fun a w h => ih _ a w (by simpa using hz) h ?_) (hs listed i a w hz hI hi)
    have hi2 := (List.mem_filter.1 hi).2
    have hil : i < listed.size := by
      have := (List.mem_filter.1 hi).1
      rw [hz]; simpa using this
    have hfalse : listed[i] = false := by
      simp only [Array.getD, hil, dite_true, Bool.and_eq_true, Bool.not_eq_true'] at hi2
      exact hi2.1
    rw [Array.toList_setIfInBounds, List.count_set (by simpa using hil)]
    have : listed.toList[i]'(by simpa using hil) = false := by simpa using hfalse
    simp only [this]
    have hp : 0 < listed.toList.count false := List.count_pos_iff.2 (by rw [← this]; exact List.getElem_mem _)
    simp
    have hp' : 0 < Array.count false listed := by simpa using hp
    have hf' : Array.count false listed ≤ fuel + 1 := by simpa using hf
    omega
theorem wp_region_inv {id : Nat} {a : Act} {w : World} (hm : P.follows .mixedOrders = true) (hb : backward ops) (I : Array Bool → Act → World → Prop) (h0 : I (Array.replicate ops.size false) a w.drew)
    (hs : ∀ listed i a w, listed.size = ops.size → I listed a w → i ∈ Region.ready .any ops listed → wpOp P ops Q i (I (listed.setIfInBounds i true)) a w)
    (hd : ∀ listed a w, (∀ i, i < ops.size → listed.getD i false = true) → I listed a w → Q .normal a w) : (Code.region id ops true).wp P Q a w :=
  wp_region_any hm (wpAny_inv I hb hs hd _ _ _ _ (by simp) h0 (by simp [List.count_replicate_self]))
/-! the same, by a fact for each operation on what it has put into its slot -/
def dstAt (ops : Array Oper) (j : Nat) : Option Tmp := (ops[j]?).bind (·.dst)
def slotv (ops : Array Oper) (a : Act) (j : Nat) : Value := match dstAt ops j with | some d => a.tmps.getD d undef | none => undef
def putAll (a : Act) (ops : Array Oper) (vs : Nat → Value) : Nat → Act
  | 0 => a
  | k + 1 => (putAll a ops vs k).put (dstAt ops k) (vs k)
def distinctDst (ops : Array Oper) : Bool := (List.range ops.size).all fun i => (List.range ops.size).all fun j => i == j || dstAt ops i == none || dstAt ops i != dstAt ops j
def noGuards (ops : Array Oper) : Bool := ops.all fun o => o.guard.isNone
structure Fr (ops : Array Oper) (a0 a : Act) : Prop where
  defers : a.defers = a0.defers
  size : a.tmps.size = a0.tmps.size
  rest : ∀ t, (∀ j, j < ops.size → dstAt ops j ≠ some t) → a.tmps.getD t undef = a0.tmps.getD t undef
theorem put_getD (a : Act) (d : Option Tmp) (v : Value) (t : Tmp) (h : d ≠ some t) : (a.put d v).tmps.getD t undef = a.tmps.getD t undef := by
  cases d with
  | none => rfl
  | some d =>
    have hne : d ≠ t := fun e => h (by rw [e])
    simp [Act.put, Array.getD_eq_getD_getElem?, Array.getElem?_setIfInBounds_ne hne]
theorem put_size (a : Act) (d : Option Tmp) (v : Value) : (a.put d v).tmps.size = a.tmps.size := by cases d <;> simp [Act.put]
theorem put_defers (a : Act) (d : Option Tmp) (v : Value) : (a.put d v).defers = a.defers := by cases d <;> rfl
theorem putAll_size (a : Act) (ops : Array Oper) (vs : Nat → Value) : ∀ k, (putAll a ops vs k).tmps.size = a.tmps.size
  | 0 => rfl
  | k + 1 => by rw [putAll, put_size, putAll_size a ops vs k]
theorem putAll_defers (a : Act) (ops : Array Oper) (vs : Nat → Value) : ∀ k, (putAll a ops vs k).defers = a.defers
  | 0 => rfl
  | k + 1 => by rw [putAll, put_defers, putAll_defers a ops vs k]
theorem putAll_get (a0 a : Act) (ops : Array Oper) : ∀ k (t : Nat), t < a0.tmps.size →
    ((∃ j, j < k ∧ dstAt ops j = some t) → (putAll a0 ops (slotv ops a) k).tmps.getD t undef = a.tmps.getD t undef) ∧ ((¬ ∃ j, j < k ∧ dstAt ops j = some t) → (putAll a0 ops (slotv ops a) k).tmps.getD t undef = a0.tmps.getD t undef)
  | 0, t, _ => ⟨fun ⟨j, hj, _⟩ => absurd hj (by omega), fun _ => rfl⟩
  | k + 1, t, ht => by
    rw [putAll]
    by_cases hd : dstAt ops k = some t
    · refine ⟨fun _ => ?_, fun h => absurd ⟨k, by omega, hd⟩ h⟩
      have : t < (putAll a0 ops (slotv ops a) k).tmps.size := by rw [putAll_size]; exact ht
      simp [Act.put, Array.getD_eq_getD_getElem?, this, slotv, hd]
    · rw [put_getD _ _ _ _ hd]
      have ih := putAll_get a0 a ops k t ht
      refine ⟨fun ⟨j, hj, h⟩ => ih.1 ⟨j, ?_, h⟩, fun h => ih.2 fun ⟨j, hj, h2⟩ => h ⟨j, by omega, h2⟩⟩
      rcases Nat.lt_or_ge j k with h1 | h1
      · exact h1
      · exact absurd (by rw [← h, show j = k by omega]) hd
theorem putAll_eq {ops : Array Oper} {a0 a : Act} (h : Fr ops a0 a) : a = putAll a0 ops (slotv ops a) ops.size := by
  have hd := putAll_defers a0 ops (slotv ops a) ops.size
  have hz := putAll_size a0 ops (slotv ops a) ops.size
  have hg := putAll_get a0 a ops ops.size
  generalize putAll a0 ops (slotv ops a) ops.size = b at *
  have e1 : a.tmps = b.tmps := by
    apply Array.ext
    · exact h.size.trans hz.symm
    · intro t h1 h2
      have ht : t < a0.tmps.size := by rw [← hz]; exact h2
      have hgt := hg t ht
      by_cases hj : ∃ j, j < ops.size ∧ dstAt ops j = some t
      · have := hgt.1 hj
        simp only [Array.getD_eq_getD_getElem?, h1, h2, Array.getElem?_eq_getElem, Option.getD_some] at this
        exact this.symm
      · have := hgt.2 hj
        have h3 := h.rest t (fun j hj' he => hj ⟨j, hj', he⟩)
        rw [← h3] at this
        simp only [Array.getD_eq_getD_getElem?, h1, h2, Array.getElem?_eq_getElem, Option.getD_some] at this
        exact this.symm
  have e2 : a.defers = b.defers := h.defers.trans hd.symm
  cases a
  cases b
  simp only at e1 e2
  subst e1
  subst e2
  rfl
theorem Fr.old {ops : Array Oper} {a0 a : Act} (h : Fr ops a0 a) (t : Tmp) (hc : (ops.all fun o => o.dst != some t) = true) : a.eval (.tmp t) = a0.eval (.tmp t) := by
  refine h.rest t fun j hj e => ?_
  unfold dstAt at e
  cases ho : ops[j]? with
  | none => simp [ho] at e
  | some o =>
    have := Array.all_eq_true_iff_forall_mem.1 hc o (Array.mem_of_getElem? ho)
    simp only [ho, Option.bind_some] at e
    rw [e] at this
    simp at this
theorem wp_val {o : Oper} {a : Act} {w w' : World} {K : Act → World → Prop} (v : Value) (he : (execOp a.eval o).run P w = .ok (.value v) w') (h : K (a.put o.dst v) w') : Oper.wp P o a w K Q := by
  unfold Oper.wp
  rw [he]
  exact h
theorem wp_call {o : Oper} {a : Act} {w : World} {K : Act → World → Prop} (f : FuncId) (args : Array Value) (he : (execOp a.eval o).run P w = .ok (.enter f args) w) {post : Ending → World → Prop} (hc : Calls P f args w post) (h : ∀ e w', post e w' → ∃ v, e = .returned v ∧ K (a.put o.dst v) w') : Oper.wp P o a w K Q := by
  unfold Oper.wp
  rw [he]
  refine hc.mono fun e w' hp => ?_
  obtain ⟨v, rfl, hk⟩ := h e w' hp
  exact hk
theorem wp_region_facts {id : Nat} {a0 : Act} {w : World} (hm : P.follows .mixedOrders = true) (hb : backward ops) (hdd : distinctDst ops = true) (hng : noGuards ops = true)
    (N : Nat) (hN : a0.tmps.size = N) (hnd' : (ops.all fun o => o.dst.isSome) = true) (hsz' : (ops.all fun o => match o.dst with | some d => decide (d < N) | none => true) = true)
    (W : World → Prop) (F : Nat → Value → World → Prop) (hF : ∀ j v w w', W w → Mem.Off [] w w' → F j v w → F j v w') (hW : ∀ w w', W w → Mem.Off [] w w' → W w') (hW0 : W w.drew)
    (step : ∀ i o, ops[i]? = some o → ∀ a w, Fr ops a0 a → W w → (∀ e ∈ o.after, Region.binds .any e = true → F e.on (slotv ops a e.on) w) →
      ∀ K : Act → World → Prop, (∀ v w', Mem.Off [] w w' → F i v w' → K (a.put o.dst v) w') → Oper.wp P o a w K Q)
    (fin : ∀ (vs : Nat → Value) w, W w → (∀ j, j < ops.size → F j (vs j) w) → Q .normal (putAll a0 ops vs ops.size) w) : (Code.region id ops true).wp P Q a0 w := by
  have hnd : ∀ j, j < ops.size → dstAt ops j ≠ none := fun j hj e => by
    have := Array.all_eq_true_iff_forall_mem.1 hnd' ops[j] (by simp)
    unfold dstAt at e
    simp only [Array.getElem?_eq_getElem, hj, Option.bind_some] at e
    rw [e] at this
    simp at this
  have hsz : ∀ j d, dstAt ops j = some d → d < a0.tmps.size := fun j d e => by
    unfold dstAt at e
    cases ho : ops[j]? with
    | none => simp [ho] at e
    | some o =>
      have := Array.all_eq_true_iff_forall_mem.1 hsz' o (Array.mem_of_getElem? ho)
      simp only [ho, Option.bind_some] at e
      rw [e] at this
      simpa [hN] using this
  refine wp_region_inv hm hb (fun listed a w => Fr ops a0 a ∧ W w ∧ ∀ j, j < ops.size → listed.getD j false = true → F j (slotv ops a j) w) ⟨⟨rfl, rfl, fun _ _ => rfl⟩, hW0, fun j hj h => ?_⟩ (fun listed i a w hz hI hi => ?_) (fun listed a w hl hI => ?_)
  · simp [Array.getD, hj] at h
  · obtain ⟨hfr, hw, hfs⟩ := hI
    have hi1 : i < ops.size := by simpa using (List.mem_filter.1 hi).1
    have hi2 := (List.mem_filter.1 hi).2
    obtain ⟨o, ho⟩ : ∃ o, ops[i]? = some o := ⟨ops[i], by simp [hi1]⟩
    unfold wpOp
    rw [ho]
    have hg : o.guard = none := by
      have := Array.all_eq_true_iff_forall_mem.1 hng o (Array.mem_of_getElem? ho)
      simpa using this
    have hwant : Region.wanted o (yielded ops a.tmps) = true := by simp [Region.wanted, hg]
    simp only [hwant, if_true]
    refine .inl (step i o ho a w hfr hw (fun e he hbe => ?_) _ fun v w' hoff hFv => ?_)
    · rw [ho] at hi2
      simp only [Option.map_some, Option.getD_some, Bool.and_eq_true] at hi2
      have h1 := Array.all_eq_true_iff_forall_mem.1 hi2.2 e he
      rw [hbe] at h1
      have hl : listed.getD e.on false = true := by simpa using h1
      obtain ⟨rk, hb0⟩ := hb
      exact hfs e.on (backward.edge hb0 ho he hbe).1 hl
    · have hdi : dstAt ops i = o.dst := by simp [dstAt, ho]
      refine ⟨⟨by rw [put_defers]; exact hfr.defers, by rw [put_size]; exact hfr.size, fun t ht => ?_⟩, hW w w' hw hoff, fun j hj hl => ?_⟩
      · rw [put_getD _ _ _ _ (by rw [← hdi]; exact ht i hi1)]
        exact hfr.rest t ht
      · by_cases hji : j = i
        · subst hji
          have : slotv ops (a.put o.dst v) j = v ∨ o.dst = none := by
            unfold slotv
            rw [hdi]
            cases hd : o.dst with
            | none => exact .inr rfl
            | some d =>
              left
              have hlt : d < a.tmps.size := by rw [hfr.size]; exact hsz j d (by rw [hdi, hd])
              simp [Act.put, Array.getD_eq_getD_getElem?, hlt]
          rcases this with h | h
          · rw [h]; exact hFv
          · have h2 := hnd j hj
            rw [hdi] at h2
            exact absurd h h2
        · have hlj : listed.getD j false = true := by
            have hne : i ≠ j := fun e => hji e.symm
            rw [Array.getD_eq_getD_getElem?, Array.getElem?_setIfInBounds_ne hne, ← Array.getD_eq_getD_getElem?] at hl
            exact hl
          have h1 := hfs j hj hlj
          have h2 : slotv ops (a.put o.dst v) j = slotv ops a j := by
            unfold slotv
            cases hd : dstAt ops j with
            | none => rfl
            | some d =>
              refine put_getD _ _ _ _ ?_
              rw [← hdi]
              have h3 := List.all_eq_true.1 (List.all_eq_true.1 hdd i (by simpa using hi1)) j (by simpa using hj)
              simp only [Bool.or_eq_true, beq_iff_eq, bne_iff_ne, ne_eq] at h3
              rcases h3 with (h3 | h3) | h3
              · exact absurd h3.symm hji
              · rw [h3]; simp
              · intro e; rw [e, hd] at h3; exact h3 rfl
          rw [h2]
          exact hF j _ w w' hw hoff h1
  · obtain ⟨hfr, hw, hfs⟩ := hI
    rw [putAll_eq hfr]
    exact fin _ w hw fun j hj => hfs j hj (hl j hj)
end
end Go.Proofs.Ytnanihffljpdbaa.Inv

/- A region with guards, in whatever order, by what each operation leaves behind. -/
namespace Go.Proofs.Ytnanihffljpdbaa.Inv
set_option linter.unusedVariables false
set_option linter.unusedSimpArgs false
open Go.RowKit
section
variable {P : Program} {ops : Array Oper} {Q : Exit → Act → World → Prop}
theorem wp_region_facts_g {id : Nat} {a0 : Act} {w : World} (hm : P.follows .mixedOrders = true) (hb : backward ops) (hdd : distinctDst ops = true)
    (N : Nat) (hN : a0.tmps.size = N) (hnd' : (ops.all fun o => o.dst.isSome) = true) (hsz' : (ops.all fun o => match o.dst with | some d => decide (d < N) | none => true) = true)
    (W : World → Prop) (F : Nat → Value → World → Prop) (hF : ∀ j v w w', W w → Mem.Off [] w w' → F j v w → F j v w') (hW : ∀ w w', W w → Mem.Off [] w w' → W w') (hW0 : W w.drew)
    (step : ∀ i o, ops[i]? = some o → ∀ a w, Fr ops a0 a → W w → (∀ e ∈ o.after, Region.binds .any e = true → F e.on (slotv ops a e.on) w) → Region.wanted o (yielded ops a.tmps) = true →
      ∀ K : Act → World → Prop, (∀ v w', Mem.Off [] w w' → F i v w' → K (a.put o.dst v) w') → Oper.wp P o a w K Q)
    (skip : ∀ i o, ops[i]? = some o → ∀ a w, Fr ops a0 a → W w → (∀ e ∈ o.after, Region.binds .any e = true → F e.on (slotv ops a e.on) w) → Region.wanted o (yielded ops a.tmps) = false → F i undef w)
    (fin : ∀ (vs : Nat → Value) w, W w → (∀ j, j < ops.size → F j (vs j) w) → Q .normal (putAll a0 ops vs ops.size) w) : (Code.region id ops true).wp P Q a0 w := by
  have hnd : ∀ j, j < ops.size → dstAt ops j ≠ none := fun j hj e => by
    have := Array.all_eq_true_iff_forall_mem.1 hnd' ops[j] (by simp)
    unfold dstAt at e
    simp only [Array.getElem?_eq_getElem, hj, Option.bind_some] at e
    rw [e] at this
    simp at this
  have hsz : ∀ j d, dstAt ops j = some d → d < a0.tmps.size := fun j d e => by
    unfold dstAt at e
    cases ho : ops[j]? with
    | none => simp [ho] at e
    | some o =>
      have := Array.all_eq_true_iff_forall_mem.1 hsz' o (Array.mem_of_getElem? ho)
      simp only [ho, Option.bind_some] at e
      rw [e] at this
      simpa [hN] using this
  refine wp_region_inv hm hb (fun listed a w => Fr ops a0 a ∧ W w ∧ ∀ j, j < ops.size → listed.getD j false = true → F j (slotv ops a j) w) ⟨⟨rfl, rfl, fun _ _ => rfl⟩, hW0, fun j hj h => ?_⟩ (fun listed i a w hz hI hi => ?_) (fun listed a w hl hI => ?_)
  · simp [Array.getD, hj] at h
  · obtain ⟨hfr, hw, hfs⟩ := hI
    have hi1 : i < ops.size := by simpa using (List.mem_filter.1 hi).1
    have hi2 := (List.mem_filter.1 hi).2
    obtain ⟨o, ho⟩ : ∃ o, ops[i]? = some o := ⟨ops[i], by simp [hi1]⟩
    unfold wpOp
    rw [ho]
    have hdep : ∀ e ∈ o.after, Region.binds .any e = true → F e.on (slotv ops a e.on) w := by
      intro e he hbe
      rw [ho] at hi2
      simp only [Option.map_some, Option.getD_some, Bool.and_eq_true] at hi2
      have h1 := Array.all_eq_true_iff_forall_mem.1 hi2.2 e he
      rw [hbe] at h1
      have hl : listed.getD e.on false = true := by simpa using h1
      obtain ⟨rk, hb0⟩ := hb
      exact hfs e.on (backward.edge hb0 ho he hbe).1 hl
    suffices key : ∀ v w', Mem.Off [] w w' → F i v w' → Fr ops a0 (a.put o.dst v) ∧ W w' ∧ ∀ j, j < ops.size → (listed.setIfInBounds i true).getD j false = true → F j (slotv ops (a.put o.dst v) j) w' by
      by_cases hwant : Region.wanted o (yielded ops a.tmps) = true
      · simp only [hwant, if_true]
        exact .inl (step i o ho a w hfr hw hdep hwant _ key)
      · have hwant' : Region.wanted o (yielded ops a.tmps) = false := by simpa using hwant
        simp only [hwant', Bool.false_eq_true, if_false]
        exact key undef w (Mem.Off.refl [] w) (skip i o ho a w hfr hw hdep hwant')
    intro v w' hoff hFv
    have hdi : dstAt ops i = o.dst := by simp [dstAt, ho]
    refine ⟨⟨by rw [put_defers]; exact hfr.defers, by rw [put_size]; exact hfr.size, fun t ht => ?_⟩, hW w w' hw hoff, fun j hj hl => ?_⟩
    · rw [put_getD _ _ _ _ (by rw [← hdi]; exact ht i hi1)]
      exact hfr.rest t ht
    · by_cases hji : j = i
      · subst hji
        have : slotv ops (a.put o.dst v) j = v ∨ o.dst = none := by
          unfold slotv
          rw [hdi]
          cases hd : o.dst with
          | none => exact .inr rfl
          | some d =>
            left
            have hlt : d < a.tmps.size := by rw [hfr.size]; exact hsz j d (by rw [hdi, hd])
            simp [Act.put, Array.getD_eq_getD_getElem?, hlt]
        rcases this with h | h
        · rw [h]; exact hFv
        · have h2 := hnd j hj
          rw [hdi] at h2
          exact absurd h h2
      · have hlj : listed.getD j false = true := by
          have hne : i ≠ j := fun e => hji e.symm
          rw [Array.getD_eq_getD_getElem?, Array.getElem?_setIfInBounds_ne hne, ← Array.getD_eq_getD_getElem?] at hl
          exact hl
        have h1 := hfs j hj hlj
        have h2 : slotv ops (a.put o.dst v) j = slotv ops a j := by
          unfold slotv
          cases hd : dstAt ops j with
          | none => rfl
          | some d =>
            refine put_getD _ _ _ _ ?_
            rw [← hdi]
            have h3 := List.all_eq_true.1 (List.all_eq_true.1 hdd i (by simpa using hi1)) j (by simpa using hj)
            simp only [Bool.or_eq_true, beq_iff_eq, bne_iff_ne, ne_eq] at h3
            rcases h3 with (h3 | h3) | h3
            · exact absurd h3.symm hji
            · rw [h3]; simp
            · intro e; rw [e, hd] at h3; exact h3 rfl
        rw [h2]
        exact hF j _ w w' hw hoff h1
  · obtain ⟨hfr, hw, hfs⟩ := hI
    rw [putAll_eq hfr]
    exact fin _ w hw fun j hj => hfs j hj (hl j hj)
end
end Go.Proofs.Ytnanihffljpdbaa.Inv

/- A region with guards, in whatever order: each operation is walked once. -/
namespace Go.Proofs.Ytnanihffljpdbaa.Inv
set_option linter.unusedVariables false
set_option linter.unusedSimpArgs false
open Go.RowKit
section
variable {P : Program} {ops : Array Oper} {Q : Exit → Act → World → Prop}
/-- Q, but K where all goes on -/
def swap (Q : Exit → Act → World → Prop) (K : Act → World → Prop) : Exit → Act → World → Prop
  | .normal, a, w => K a w
  | e, a, w => Q e a w
theorem of_list {o : Oper} {a : Act} {w : World} {K : Act → World → Prop} (hw : Region.wanted o (yielded ops a.tmps) = true) (h : wpList P ops (swap Q K) [o] a w) : o.wp P a w K Q ∨ (o.asks P a w ∧ LetsOut Q) := by
  unfold wpList at h
  rw [if_pos hw] at h
  rcases h with h | ⟨h1, h2⟩
  · exact .inl h
  · exact .inr ⟨h1, h2⟩
theorem wp_region_walks {id : Nat} {a0 : Act} {w : World} (hm : P.follows .mixedOrders = true) (hb : backward ops) (hdd : distinctDst ops = true)
    (N : Nat) (hN : a0.tmps.size = N) (hnd' : (ops.all fun o => o.dst.isSome) = true) (hsz' : (ops.all fun o => match o.dst with | some d => decide (d < N) | none => true) = true)
    (Rel : World → World → Prop) (hrefl : ∀ w, Rel w w) (W : World → Prop) (F : Nat → Value → World → Prop) (hF : ∀ j v w w', W w → Rel w w' → F j v w → F j v w') (hW : ∀ w w', W w → Rel w w' → W w') (hW0 : W w.drew)
    (step : ∀ i o, ops[i]? = some o → ∀ a w, Fr ops a0 a → W w → (∀ e ∈ o.after, Region.binds .any e = true → F e.on (slotv ops a e.on) w) → Region.wanted o (yielded ops a.tmps) = true →
      ∀ Q' : Exit → Act → World → Prop, (∀ v w', Rel w w' → F i v w' → Q' .normal (a.put o.dst v) w') → wpList P ops Q' [o] a w)
    (skip : ∀ i o, ops[i]? = some o → ∀ a w, Fr ops a0 a → W w → (∀ e ∈ o.after, Region.binds .any e = true → F e.on (slotv ops a e.on) w) → Region.wanted o (yielded ops a.tmps) = false → F i undef w)
    (fin : ∀ (vs : Nat → Value) w, W w → (∀ j, j < ops.size → F j (vs j) w) → Q .normal (putAll a0 ops vs ops.size) w) : (Code.region id ops true).wp P Q a0 w := by
  have hnd : ∀ j, j < ops.size → dstAt ops j ≠ none := fun j hj e => by
    have := Array.all_eq_true_iff_forall_mem.1 hnd' ops[j] (by simp)
    unfold dstAt at e
    simp only [Array.getElem?_eq_getElem, hj, Option.bind_some] at e
    rw [e] at this
    simp at this
  have hsz : ∀ j d, dstAt ops j = some d → d < a0.tmps.size := fun j d e => by
    unfold dstAt at e
    cases ho : ops[j]? with
    | none => simp [ho] at e
    | some o =>
      have := Array.all_eq_true_iff_forall_mem.1 hsz' o (Array.mem_of_getElem? ho)
      simp only [ho, Option.bind_some] at e
      rw [e] at this
      simpa [hN] using this
  refine wp_region_inv hm hb (fun listed a w => Fr ops a0 a ∧ W w ∧ ∀ j, j < ops.size → listed.getD j false = true → F j (slotv ops a j) w) ⟨⟨rfl, rfl, fun _ _ => rfl⟩, hW0, fun j hj h => ?_⟩ (fun listed i a w hz hI hi => ?_) (fun listed a w hl hI => ?_)
  · simp [Array.getD, hj] at h
  · obtain ⟨hfr, hw, hfs⟩ := hI
    have hi1 : i < ops.size := by simpa using (List.mem_filter.1 hi).1
    have hi2 := (List.mem_filter.1 hi).2
    obtain ⟨o, ho⟩ : ∃ o, ops[i]? = some o := ⟨ops[i], by simp [hi1]⟩
    unfold wpOp
    rw [ho]
    have hdep : ∀ e ∈ o.after, Region.binds .any e = true → F e.on (slotv ops a e.on) w := by
      intro e he hbe
      rw [ho] at hi2
      simp only [Option.map_some, Option.getD_some, Bool.and_eq_true] at hi2
      have h1 := Array.all_eq_true_iff_forall_mem.1 hi2.2 e he
      rw [hbe] at h1
      have hl : listed.getD e.on false = true := by simpa using h1
      obtain ⟨rk, hb0⟩ := hb
      exact hfs e.on (backward.edge hb0 ho he hbe).1 hl
    suffices key : ∀ v w', Rel w w' → F i v w' → Fr ops a0 (a.put o.dst v) ∧ W w' ∧ ∀ j, j < ops.size → (listed.setIfInBounds i true).getD j false = true → F j (slotv ops (a.put o.dst v) j) w' by
      by_cases hwant : Region.wanted o (yielded ops a.tmps) = true
      · simp only [hwant, if_true]
        exact of_list hwant (step i o ho a w hfr hw hdep hwant (swap Q _) fun v w' h1 h2 => key v w' h1 h2)
      · have hwant' : Region.wanted o (yielded ops a.tmps) = false := by simpa using hwant
        simp only [hwant', Bool.false_eq_true, if_false]
        exact key undef w (hrefl w) (skip i o ho a w hfr hw hdep hwant')
    intro v w' hoff hFv
    have hdi : dstAt ops i = o.dst := by simp [dstAt, ho]
    refine ⟨⟨by rw [put_defers]; exact hfr.defers, by rw [put_size]; exact hfr.size, fun t ht => ?_⟩, hW w w' hw hoff, fun j hj hl => ?_⟩
    · rw [put_getD _ _ _ _ (by rw [← hdi]; exact ht i hi1)]
      exact hfr.rest t ht
    · by_cases hji : j = i
      · subst hji
        have : slotv ops (a.put o.dst v) j = v ∨ o.dst = none := by
          unfold slotv
          rw [hdi]
          cases hd : o.dst with
          | none => exact .inr rfl
          | some d =>
            left
            have hlt : d < a.tmps.size := by rw [hfr.size]; exact hsz j d (by rw [hdi, hd])
            simp [Act.put, Array.getD_eq_getD_getElem?, hlt]
        rcases this with h | h
        · rw [h]; exact hFv
        · have h2 := hnd j hj
          rw [hdi] at h2
          exact absurd h h2
      · have hlj : listed.getD j false = true := by
          have hne : i ≠ j := fun e => hji e.symm
          rw [Array.getD_eq_getD_getElem?, Array.getElem?_setIfInBounds_ne hne, ← Array.getD_eq_getD_getElem?] at hl
          exact hl
        have h1 := hfs j hj hlj
        have h2 : slotv ops (a.put o.dst v) j = slotv ops a j := by
          unfold slotv
          cases hd : dstAt ops j with
          | none => rfl
          | some d =>
            refine put_getD _ _ _ _ ?_
            rw [← hdi]
            have h3 := List.all_eq_true.1 (List.all_eq_true.1 hdd i (by simpa using hi1)) j (by simpa using hj)
            simp only [Bool.or_eq_true, beq_iff_eq, bne_iff_ne, ne_eq] at h3
            rcases h3 with (h3 | h3) | h3
            · exact absurd h3.symm hji
            · rw [h3]; simp
            · intro e; rw [e, hd] at h3; exact h3 rfl
        rw [h2]
        exact hF j _ w w' hw hoff h1
  · obtain ⟨hfr, hw, hfs⟩ := hI
    rw [putAll_eq hfr]
    exact fin _ w hw fun j hj => hfs j hj (hl j hj)
end
end Go.Proofs.Ytnanihffljpdbaa.Inv

/- A region that draws, whose last operations wait for all that stand ahead of them: the first part in whatever order, each operation once; the last part as a list. -/
namespace Go.Proofs.Ytnanihffljpdbaa.Inv
set_option linter.unusedVariables false
set_option linter.unusedSimpArgs false
open Go.RowKit
def tailAfter (m : Nat) (ops : Array Oper) : Bool := (List.range ops.size).all fun i => decide (i < m) || (List.range i).all fun j => ((ops[i]?).map (·.after.any fun e => e.on == j && Region.binds .any e)).getD false
def preIn (m : Nat) (ops : Array Oper) : Bool := ops.all fun o => o.after.all fun e => !Region.binds .any e || decide (e.on < m)
section
variable {P : Program} {ops pre : Array Oper} {Q : Exit → Act → World → Prop}
theorem ready_dep {listed : Array Bool} {i : Nat} {o : Oper} (ho : ops[i]? = some o) (hi : i ∈ Region.ready .any ops listed) {e : Edge} (he : e ∈ o.after) (hbe : Region.binds .any e = true) : listed.getD e.on false = true := by
  have hi2 := (List.mem_filter.1 hi).2
  rw [ho] at hi2
  simp only [Option.map_some, Option.getD_some, Bool.and_eq_true] at hi2
  have h1 := Array.all_eq_true_iff_forall_mem.1 hi2.2 e he
  rw [hbe] at h1
  simpa using h1
theorem tail_dep {m : Nat} (ht : tailAfter m ops = true) {listed : Array Bool} {i : Nat} (his : i < ops.size) (hmi : m ≤ i) (hi : i ∈ Region.ready .any ops listed) : ∀ j, j < i → listed.getD j false = true := by
  intro j hj
  have ho : ops[i]? = some ops[i] := by simp [his]
  have h1 := List.all_eq_true.1 ht i (by simpa using his)
  simp only [Bool.or_eq_true, decide_eq_true_eq] at h1
  rcases h1 with h1 | h1
  · omega
  · have h2 := List.all_eq_true.1 h1 j (by simpa using hj)
    rw [ho] at h2
    simp only [Option.map_some, Option.getD_some] at h2
    rw [← Array.any_toList, List.any_eq_true] at h2
    obtain ⟨e, he, h3⟩ := h2
    rw [Array.mem_toList_iff] at he
    simp only [Bool.and_eq_true, beq_iff_eq] at h3
    have := ready_dep ho hi he h3.2
    rwa [h3.1] at this
theorem set_getD (listed : Array Bool) (i j : Nat) (hi : i < listed.size) : (listed.setIfInBounds i true).getD j false = if i = j then true else listed.getD j false := by
  rw [Array.getD_eq_getD_getElem?, Array.getD_eq_getD_getElem?, Array.getElem?_setIfInBounds]
  split
  · rename_i h
    subst h
    simp [hi]
  · rfl
theorem wp_region_split {id : Nat} {a0 : Act} {w : World} (hm : P.follows .mixedOrders = true) (hb : backward ops) (m : Nat) (hpz : pre.size = m) (hpre : ops.toList.take m = pre.toList) (htail : tailAfter m ops = true) (hin : preIn m pre = true) (hdd : distinctDst pre = true)
    (N : Nat) (hN : a0.tmps.size = N) (hnd' : (pre.all fun o => o.dst.isSome) = true) (hsz' : (pre.all fun o => match o.dst with | some d => decide (d < N) | none => true) = true)
    (Rel : World → World → Prop) (hrefl : ∀ w, Rel w w) (W : World → Prop) (F : Nat → Value → World → Prop) (hF : ∀ j v w w', W w → Rel w w' → F j v w → F j v w') (hW : ∀ w w', W w → Rel w w' → W w') (hW0 : W w.drew)
    (step : ∀ i o, pre[i]? = some o → ∀ a w, Fr pre a0 a → W w → (∀ e ∈ o.after, Region.binds .any e = true → F e.on (slotv pre a e.on) w) → Region.wanted o (yielded ops a.tmps) = true →
      ∀ Q' : Exit → Act → World → Prop, (∀ v w', Rel w w' → F i v w' → Q' .normal (a.put o.dst v) w') → wpList P ops Q' [o] a w)
    (skip : ∀ i o, pre[i]? = some o → ∀ a w, Fr pre a0 a → W w → (∀ e ∈ o.after, Region.binds .any e = true → F e.on (slotv pre a e.on) w) → Region.wanted o (yielded ops a.tmps) = false → F i undef w)
    (fin : ∀ (vs : Nat → Value) w, W w → (∀ j, j < m → F j (vs j) w) → wpList P ops Q (ops.toList.drop m) (putAll a0 pre vs pre.size) w) : (Code.region id ops true).wp P Q a0 w := by
  have hmz : m ≤ ops.size := by
    have := congrArg List.length hpre
    rw [List.length_take, Array.length_toList, Array.length_toList, hpz] at this
    omega
  have hget : ∀ j, j < m → ops[j]? = pre[j]? := fun j hj => by
    rw [← Array.getElem?_toList, ← Array.getElem?_toList, ← hpre, List.getElem?_take_of_lt hj]
  have hnd : ∀ j, j < m → dstAt pre j ≠ none := fun j hj e => by
    have hj' : j < pre.size := by omega
    have := Array.all_eq_true_iff_forall_mem.1 hnd' pre[j] (by simp)
    unfold dstAt at e
    simp only [Array.getElem?_eq_getElem, hj', Option.bind_some] at e
    rw [e] at this
    simp at this
  have hsz : ∀ j d, dstAt pre j = some d → d < a0.tmps.size := fun j d e => by
    unfold dstAt at e
    cases ho : pre[j]? with
    | none => simp [ho] at e
    | some o =>
      have := Array.all_eq_true_iff_forall_mem.1 hsz' o (Array.mem_of_getElem? ho)
      simp only [ho, Option.bind_some] at e
      rw [e] at this
      simpa [hN] using this
  have hcons : ∀ i (hi : i < ops.size), ops.toList.drop i = ops[i] :: ops.toList.drop (i + 1) := fun i hi => by
    rw [List.drop_eq_getElem_cons (by simpa using hi)]
    simp
  have hop : ∀ i a w, i < ops.size → wpList P ops Q (ops.toList.drop i) a w → wpOp P ops Q i (wpList P ops Q (ops.toList.drop (i + 1))) a w := fun i a w hi h => by
    rw [hcons i hi] at h
    unfold wpOp
    rw [show ops[i]? = some ops[i] by simp [hi]]
    exact h
  refine wp_region_inv hm hb (fun listed a w => ((∀ j, m ≤ j → j < ops.size → listed.getD j false = false) ∧ Fr pre a0 a ∧ W w ∧ ∀ j, j < m → listed.getD j false = true → F j (slotv pre a j) w) ∨
      (∃ s, m + s ≤ ops.size ∧ (∀ j, j < ops.size → listed.getD j false = decide (j < m + s)) ∧ wpList P ops Q (ops.toList.drop (m + s)) a w)) (.inl ⟨fun j _ hj => by simp [Array.getD, hj], ⟨rfl, rfl, fun _ _ => rfl⟩, hW0, fun j hj h => ?_⟩) (fun listed i a w hz hI hi => ?_) (fun listed a w hl hI => ?_)
  · simp [Array.getD, show j < ops.size by omega] at h
  · have hi1 : i < ops.size := by simpa using (List.mem_filter.1 hi).1
    have hi0 : listed.getD i false = false := by
      have hi2 := (List.mem_filter.1 hi).2
      have hil : i < listed.size := by omega
      simp only [Array.getD, hil, dite_true, Bool.and_eq_true, Bool.not_eq_true'] at hi2
      simp only [Array.getD, hil, dite_true]
      exact hi2.1
    rcases hI with ⟨htl, hfr, hw, hfs⟩ | ⟨s, hs1, hs2, hs3⟩
    · rcases Nat.lt_or_ge i m with him | him
      · obtain ⟨o, ho⟩ : ∃ o, ops[i]? = some o := ⟨ops[i], by simp [hi1]⟩
        have hop' : pre[i]? = some o := by rw [← hget i him]; exact ho
        unfold wpOp
        rw [ho]
        have hdep : ∀ e ∈ o.after, Region.binds .any e = true → F e.on (slotv pre a e.on) w := by
          intro e he hbe
          have h2 := Array.all_eq_true_iff_forall_mem.1 (Array.all_eq_true_iff_forall_mem.1 hin o (Array.mem_of_getElem? hop')) e he
          rw [hbe] at h2
          exact hfs e.on (by simpa using h2) (ready_dep ho hi he hbe)
        suffices key : ∀ v w', Rel w w' → F i v w' → (fun listed a w => ((∀ j, m ≤ j → j < ops.size → listed.getD j false = false) ∧ Fr pre a0 a ∧ W w ∧ ∀ j, j < m → listed.getD j false = true → F j (slotv pre a j) w) ∨
            (∃ s, m + s ≤ ops.size ∧ (∀ j, j < ops.size → listed.getD j false = decide (j < m + s)) ∧ wpList P ops Q (ops.toList.drop (m + s)) a w)) (listed.setIfInBounds i true) (a.put o.dst v) w' by
          by_cases hwant : Region.wanted o (yielded ops a.tmps) = true
          · simp only [hwant, if_true]
            exact of_list hwant (step i o hop' a w hfr hw hdep hwant (swap Q _) fun v w' h1 h2 => key v w' h1 h2)
          · have hwant' : Region.wanted o (yielded ops a.tmps) = false := by simpa using hwant
            simp only [hwant', Bool.false_eq_true, if_false]
            exact key undef w (hrefl w) (skip i o hop' a w hfr hw hdep hwant')
        intro v w' hoff hFv
        have hdi : dstAt pre i = o.dst := by simp [dstAt, hop']
        refine .inl ⟨fun j hj hjs => ?_, ⟨by rw [put_defers]; exact hfr.defers, by rw [put_size]; exact hfr.size, fun t ht => ?_⟩, hW w w' hw hoff, fun j hj hl => ?_⟩
        · rw [set_getD _ _ _ (by omega), if_neg (by omega)]
          exact htl j hj hjs
        · rw [put_getD _ _ _ _ (by rw [← hdi]; exact ht i (by omega))]
          exact hfr.rest t ht
        · by_cases hji : j = i
          · subst hji
            have : slotv pre (a.put o.dst v) j = v ∨ o.dst = none := by
              unfold slotv
              rw [hdi]
              cases hd : o.dst with
              | none => exact .inr rfl
              | some d =>
                left
                have hlt : d < a.tmps.size := by rw [hfr.size]; exact hsz j d (by rw [hdi, hd])
                simp [Act.put, Array.getD_eq_getD_getElem?, hlt]
            rcases this with h | h
            · rw [h]; exact hFv
            · have h2 := hnd j hj
              rw [hdi] at h2
              exact absurd h h2
          · rw [set_getD _ _ _ (by omega), if_neg (fun e => hji e.symm)] at hl
            have h1 := hfs j hj hl
            have h2 : slotv pre (a.put o.dst v) j = slotv pre a j := by
              unfold slotv
              cases hd : dstAt pre j with
              | none => rfl
              | some d =>
                refine put_getD _ _ _ _ ?_
                rw [← hdi]
                have h3 := List.all_eq_true.1 (List.all_eq_true.1 hdd i (by simp; omega)) j (by simp; omega)
                simp only [Bool.or_eq_true, beq_iff_eq, bne_iff_ne, ne_eq] at h3
                rcases h3 with (h3 | h3) | h3
                · exact absurd h3.symm hji
                · rw [h3]; simp
                · intro e; rw [e, hd] at h3; exact h3 rfl
            rw [h2]
            exact hF j _ w w' hw hoff h1
      · have hall := tail_dep htail hi1 him hi
        have him' : i = m := by
          rcases Nat.lt_or_ge m i with h | h
          · have h1 := hall m h
            rw [htl m (Nat.le_refl _) (by omega)] at h1
            cases h1
          · omega
        subst him'
        have hpl := fin (slotv pre a) w hw (fun j hj => hfs j hj (hall j hj))
        rw [← putAll_eq hfr] at hpl
        refine wpOp_mono (fun a w h => .inr ⟨1, by omega, fun j hj => ?_, h⟩) (hop i a w hi1 hpl)
        rw [set_getD _ _ _ (by omega)]
        split
        · subst_vars
          simp
        · rename_i hne
          rcases Nat.lt_or_ge j i with h | h
          · rw [hall j h]
            simp; omega
          · rw [htl j h hj]
            simp; omega
    · have his : i = m + s := by
        have h1 := hs2 i hi1
        rw [hi0] at h1
        have h2 : ¬ i < m + s := by simpa using h1.symm
        rcases Nat.lt_or_ge (m + s) i with h | h
        · have h3 := tail_dep htail hi1 (by omega) hi (m + s) h
          rw [hs2 (m + s) (by omega)] at h3
          simp at h3
        · omega
      subst his
      refine wpOp_mono (fun a w h => .inr ⟨s + 1, by omega, fun j hj => ?_, h⟩) (hop (m + s) a w hi1 hs3)
      rw [set_getD _ _ _ (by omega)]
      split
      · subst_vars
        simp
      · rw [hs2 j hj]
        simp only [decide_eq_decide]
        omega
  · rcases hI with ⟨htl, hfr, hw, hfs⟩ | ⟨s, hs1, hs2, hs3⟩
    · have hme : m = ops.size := by
        rcases Nat.lt_or_ge m ops.size with h | h
        · have h1 := hl m h
          rw [htl m (Nat.le_refl _) h] at h1
          cases h1
        · omega
      have hpl := fin (slotv pre a) w hw (fun j hj => hfs j hj (hl j (by omega)))
      rw [← putAll_eq hfr, hme, List.drop_of_length_le (by simp)] at hpl
      exact hpl
    · have hse : m + s = ops.size := by
        rcases Nat.lt_or_ge (m + s) ops.size with h | h
        · have h1 := hl (m + s) h
          rw [hs2 (m + s) h] at h1
          simp at h1
        · omega
      rw [hse, List.drop_of_length_le (by simp)] at hs3
      exact hs3
end
end Go.Proofs.Ytnanihffljpdbaa.Inv

/- A region that draws, with one operation that changes the world for all (a store, the last append), and operations that may come behind it: each operation once. -/
namespace Go.Proofs.Ytnanihffljpdbaa.Inv
set_option linter.unusedVariables false
set_option linter.unusedSimpArgs false
open Go.RowKit
def depOk (s : Nat) (fl : List Nat) (ops : Array Oper) : Bool := (List.range ops.size).all fun j => j == s || fl.contains j || ((ops[s]?).map (·.after.any fun e => e.on == j && Region.binds .any e)).getD false
def hangs (s : Nat) (lt : List Nat) (ops : Array Oper) : Bool := (List.range ops.size).all fun j => !lt.contains j || ((ops[j]?).map (·.after.any fun e => e.on == s && Region.binds .any e)).getD false
def allIn (ops : Array Oper) : Bool := ops.all fun o => o.after.all fun e => !Region.binds .any e || decide (e.on < ops.size)
section
variable {P : Program} {ops : Array Oper} {Q : Exit → Act → World → Prop}
theorem slot_other {a : Act} {o : Oper} {i j : Nat} {v : Value} (ho : ops[i]? = some o) (hi : i < ops.size) (hj : j < ops.size) (hji : j ≠ i) (hdd : distinctDst ops = true) : slotv ops (a.put o.dst v) j = slotv ops a j := by
  have hdi : dstAt ops i = o.dst := by simp [dstAt, ho]
  unfold slotv
  cases hd : dstAt ops j with
  | none => rfl
  | some d =>
    refine put_getD _ _ _ _ ?_
    rw [← hdi]
    have h3 := List.all_eq_true.1 (List.all_eq_true.1 hdd i (by simpa using hi)) j (by simpa using hj)
    simp only [Bool.or_eq_true, beq_iff_eq, bne_iff_ne, ne_eq] at h3
    rcases h3 with (h3 | h3) | h3
    · exact absurd h3.symm hji
    · rw [h3]; simp
    · intro e; rw [e, hd] at h3; exact h3 rfl
theorem slot_self {a : Act} {o : Oper} {i d : Nat} {v : Value} (ho : ops[i]? = some o) (hd : o.dst = some d) (hlt : d < a.tmps.size) : slotv ops (a.put o.dst v) i = v := by
  have hdi : dstAt ops i = o.dst := by simp [dstAt, ho]
  unfold slotv
  rw [hdi, hd]
  simp [Act.put, Array.getD_eq_getD_getElem?, hlt]
theorem slot_none {a : Act} {o : Oper} {i : Nat} (ho : ops[i]? = some o) (hd : o.dst = none) : slotv ops a i = undef := by
  have hdi : dstAt ops i = o.dst := by simp [dstAt, ho]
  unfold slotv
  rw [hdi, hd]
theorem wp_region_late {id : Nat} {a0 : Act} {w : World} (hm : P.follows .mixedOrders = true) (hb : backward ops) (s : Nat) (hss : s < ops.size) (fl lt : List Nat) (hdo : depOk s fl ops = true) (hlt : hangs s lt ops = true) (hdd : distinctDst ops = true)
    (N : Nat) (hN : a0.tmps.size = N) (hnd' : ((List.range ops.size).all fun j => j == s || (dstAt ops j).isSome) = true) (hsz' : (ops.all fun o => match o.dst with | some d => decide (d < N) | none => true) = true) (hsg : ((ops[s]?).map (·.guard.isNone)) = some true)
    (Rel : World → World → Prop) (hrefl : ∀ w, Rel w w) (W : World → Prop) (V : World → World → Prop) (F : Nat → Value → World → World → Prop) (hF : ∀ j v w w', W w → Rel w w' → F j v w w → F j v w' w') (hFs : ∀ j, j ≠ s → lt.contains j = false → ∀ v wb w, V wb w → F j v wb wb → F j v wb w) (hW : ∀ w w', W w → Rel w w' → W w') (hW0 : W w.drew)
    (hs0 : dstAt ops s = none → ∀ wb w, V wb w → F s undef wb w)
    (step : ∀ i o, i ≠ s → ops[i]? = some o → ∀ a w, Fr ops a0 a → W w → (∀ e ∈ o.after, Region.binds .any e = true → e.on ≠ s → F e.on (slotv ops a e.on) w w) → (∀ e ∈ o.after, Region.binds .any e = true → e.on ≠ s) → Region.wanted o (yielded ops a.tmps) = true →
      ∀ Q' : Exit → Act → World → Prop, (∀ v w', Rel w w' → F i v w' w' → Q' .normal (a.put o.dst v) w') → wpList P ops Q' [o] a w)
    (skip : ∀ i o, i ≠ s → ops[i]? = some o → ∀ a w, Fr ops a0 a → W w → (∀ e ∈ o.after, Region.binds .any e = true → e.on ≠ s → F e.on (slotv ops a e.on) w w) → Region.wanted o (yielded ops a.tmps) = false → F i undef w w)
    (late : ∀ o, ops[s]? = some o → ∀ a wb, Fr ops a0 a → W wb → (∀ e ∈ o.after, Region.binds .any e = true → F e.on (slotv ops a e.on) wb wb) → (∀ j, j < ops.size → j ≠ s → fl.contains j = false → F j (slotv ops a j) wb wb) → Region.wanted o (yielded ops a.tmps) = true →
      ∀ Q' : Exit → Act → World → Prop, (∀ v w, V wb w → F s v wb w → Q' .normal (a.put o.dst v) w) → wpList P ops Q' [o] a wb)
    (step2 : ∀ i o, fl.contains i = true → ops[i]? = some o → ∀ a wb w, Fr ops a0 a → W wb → V wb w → (∀ e ∈ o.after, Region.binds .any e = true → F e.on (slotv ops a e.on) wb w) → Region.wanted o (yielded ops a.tmps) = true →
      ∀ Q' : Exit → Act → World → Prop, (∀ v, F i v wb w → Q' .normal (a.put o.dst v) w) → wpList P ops Q' [o] a w)
    (skip2 : ∀ i o, fl.contains i = true → ops[i]? = some o → ∀ a wb w, Fr ops a0 a → W wb → V wb w → (∀ e ∈ o.after, Region.binds .any e = true → F e.on (slotv ops a e.on) wb w) → Region.wanted o (yielded ops a.tmps) = false → F i undef wb w)
    (fin : ∀ (vs : Nat → Value) wb w, W wb → V wb w → (∀ j, j < ops.size → F j (vs j) wb w) → Q .normal (putAll a0 ops vs ops.size) w) : (Code.region id ops true).wp P Q a0 w := by
  have hb2 : backward ops := hb
  obtain ⟨rk, hb0⟩ := hb2
  have hsz : ∀ (j : Nat) (o : Oper) (d : Tmp), ops[j]? = some o → o.dst = some d → d < a0.tmps.size := fun j o d ho e => by
    have := Array.all_eq_true_iff_forall_mem.1 hsz' o (Array.mem_of_getElem? ho)
    rw [e] at this
    simpa [hN] using this
  have hdst : ∀ (j : Nat) (o : Oper), j ≠ s → ops[j]? = some o → ∃ d, o.dst = some d := fun j o hjs ho => by
    have hj : j < ops.size := (Array.getElem?_eq_some_iff.1 ho).1
    have := List.all_eq_true.1 hnd' j (by simpa using hj)
    simp only [Bool.or_eq_true, beq_iff_eq] at this
    rcases this with h | h
    · exact absurd h hjs
    · have hdj : dstAt ops j = o.dst := by simp [dstAt, ho]
      rw [hdj] at h
      exact Option.isSome_iff_exists.1 h
  have hfr' : ∀ {a : Act} {i : Nat} {o : Oper} {v : Value}, ops[i]? = some o → i < ops.size → Fr ops a0 a → Fr ops a0 (a.put o.dst v) := fun {a i o v} ho hi hfr => by
    have hdi : dstAt ops i = o.dst := by simp [dstAt, ho]
    exact ⟨by rw [put_defers]; exact hfr.defers, by rw [put_size]; exact hfr.size, fun t ht => by
      rw [put_getD _ _ _ _ (by rw [← hdi]; exact ht i hi)]
      exact hfr.rest t ht⟩
  refine wp_region_inv hm hb (fun listed a w => (listed.getD s false = false ∧ Fr ops a0 a ∧ W w ∧ ∀ j, j < ops.size → listed.getD j false = true → lt.contains j = false ∧ F j (slotv ops a j) w w) ∨
      (∃ wb, listed.getD s false = true ∧ Fr ops a0 a ∧ W wb ∧ V wb w ∧ (∀ j, j < ops.size → j ≠ s → fl.contains j = false → listed.getD j false = true) ∧ ∀ j, j < ops.size → listed.getD j false = true → F j (slotv ops a j) wb w)) (.inl ⟨by simp [Array.getD, hss], ⟨rfl, rfl, fun _ _ => rfl⟩, hW0, fun j hj h => ?_⟩) (fun listed i a w hz hI hi => ?_) (fun listed a w hl hI => ?_)
  · simp [Array.getD, hj] at h
  · have hi1 : i < ops.size := by simpa using (List.mem_filter.1 hi).1
    have hi0 : listed.getD i false = false := by
      have hi2 := (List.mem_filter.1 hi).2
      have hil : i < listed.size := by omega
      simp only [Array.getD, hil, dite_true, Bool.and_eq_true, Bool.not_eq_true'] at hi2
      simp only [Array.getD, hil, dite_true]
      exact hi2.1
    obtain ⟨o, ho⟩ : ∃ o, ops[i]? = some o := ⟨ops[i], by simp [hi1]⟩
    unfold wpOp
    rw [ho]
    rcases hI with ⟨hsl, hfr, hw, hfs⟩ | ⟨wb, hsl, hfr, hw, hv, hnf, hfs⟩
    · have hnes : i ≠ s → ∀ e ∈ o.after, Region.binds .any e = true → e.on ≠ s := fun _ e he hbe e1 => by
        have := ready_dep ho hi he hbe
        rw [e1, hsl] at this
        cases this
      have hdep : ∀ e ∈ o.after, Region.binds .any e = true → F e.on (slotv ops a e.on) w w := fun e he hbe => (hfs e.on (backward.edge hb0 ho he hbe).1 (ready_dep ho hi he hbe)).2
      by_cases his : i = s
      · subst his
        have hg : o.guard = none := by
          rw [ho] at hsg
          simpa using hsg
        have hwant : Region.wanted o (yielded ops a.tmps) = true := by simp [Region.wanted, hg]
        simp only [hwant, if_true]
        have hall : ∀ j, j < ops.size → j ≠ i → fl.contains j = false → listed.getD j false = true := fun j hj hji hjf => by
          have h1 := List.all_eq_true.1 hdo j (by simpa using hj)
          rw [ho, hjf] at h1
          simp only [Bool.or_false, Bool.or_eq_true, beq_iff_eq, Option.map_some, Option.getD_some] at h1
          rcases h1 with h1 | h1
          · exact absurd h1 hji
          · rw [← Array.any_toList, List.any_eq_true] at h1
            obtain ⟨e, he, h3⟩ := h1
            rw [Array.mem_toList_iff] at he
            simp only [Bool.and_eq_true, beq_iff_eq] at h3
            have := ready_dep ho hi he h3.2
            rwa [h3.1] at this
        refine of_list hwant (late o ho a w hfr hw hdep (fun j hj hji hjf => (hfs j hj (hall j hj hji hjf)).2) hwant (swap Q _) fun v w' hV hFv => .inr ⟨w, ?_, hfr' ho hi1 hfr, hw, hV, fun j hj hji hjf => ?_, fun j hj hlj => ?_⟩)
        · rw [set_getD _ _ _ (by omega), if_pos rfl]
        · rw [set_getD _ _ _ (by omega), if_neg (fun e => hji e.symm)]
          exact hall j hj hji hjf
        · by_cases hji : j = i
          · subst hji
            cases hd : o.dst with
            | none =>
              rw [show (none : Option Tmp) = o.dst from hd.symm, slot_none ho hd]
              exact hs0 (by simp [dstAt, ho, hd]) _ _ hV
            | some d =>
              rw [show (some d : Option Tmp) = o.dst from hd.symm, slot_self ho hd (by rw [hfr.size]; exact hsz _ o d ho hd)]
              exact hFv
          · rw [set_getD _ _ _ (by omega), if_neg (fun e => hji e.symm)] at hlj
            rw [slot_other ho hi1 hj hji hdd]
            exact hFs j hji (hfs j hj hlj).1 _ _ _ hV (hfs j hj hlj).2
      · suffices key : ∀ v w', Rel w w' → F i v w' w' → ((listed.setIfInBounds i true).getD s false = false ∧ Fr ops a0 (a.put o.dst v) ∧ W w' ∧ ∀ j, j < ops.size → (listed.setIfInBounds i true).getD j false = true → lt.contains j = false ∧ F j (slotv ops (a.put o.dst v) j) w' w') by
          by_cases hwant : Region.wanted o (yielded ops a.tmps) = true
          · simp only [hwant, if_true]
            exact of_list hwant (step i o his ho a w hfr hw (fun e he hbe _ => hdep e he hbe) (hnes his) hwant (swap Q _) fun v w' h1 h2 => .inl (key v w' h1 h2))
          · have hwant' : Region.wanted o (yielded ops a.tmps) = false := by simpa using hwant
            simp only [hwant', Bool.false_eq_true, if_false]
            exact .inl (key undef w (hrefl w) (skip i o his ho a w hfr hw (fun e he hbe _ => hdep e he hbe) hwant'))
        intro v w' hR hFv
        refine ⟨?_, hfr' ho hi1 hfr, hW w w' hw hR, fun j hj hlj => ?_⟩
        · rw [set_getD _ _ _ (by omega), if_neg his]
          exact hsl
        · by_cases hji : j = i
          · subst hji
            obtain ⟨d, hd⟩ := hdst _ o his ho
            rw [slot_self ho hd (by rw [hfr.size]; exact hsz _ o d ho hd)]
            refine ⟨?_, hFv⟩
            cases hc : lt.contains j with
            | false => rfl
            | true =>
              have h1 := List.all_eq_true.1 hlt j (by simpa using hj)
              rw [hc, ho] at h1
              simp only [Bool.not_true, Bool.false_or, Option.map_some, Option.getD_some] at h1
              rw [← Array.any_toList, List.any_eq_true] at h1
              obtain ⟨e, he, h3⟩ := h1
              rw [Array.mem_toList_iff] at he
              simp only [Bool.and_eq_true, beq_iff_eq] at h3
              exact absurd h3.1 (hnes his e he h3.2)
          · rw [set_getD _ _ _ (by omega), if_neg (fun e => hji e.symm)] at hlj
            rw [slot_other ho hi1 hj hji hdd]
            exact ⟨(hfs j hj hlj).1, hF j _ w w' hw hR (hfs j hj hlj).2⟩
    · have his : i ≠ s := fun e => by rw [e, hsl] at hi0; cases hi0
      have hif : fl.contains i = true := by
        cases h : fl.contains i with
        | true => rfl
        | false =>
          rw [hnf i hi1 his h] at hi0
          cases hi0
      have hdep : ∀ e ∈ o.after, Region.binds .any e = true → F e.on (slotv ops a e.on) wb w := fun e he hbe => hfs e.on (backward.edge hb0 ho he hbe).1 (ready_dep ho hi he hbe)
      suffices key : ∀ v, F i v wb w → (∃ wb, (listed.setIfInBounds i true).getD s false = true ∧ Fr ops a0 (a.put o.dst v) ∧ W wb ∧ V wb w ∧ (∀ j, j < ops.size → j ≠ s → fl.contains j = false → (listed.setIfInBounds i true).getD j false = true) ∧ ∀ j, j < ops.size → (listed.setIfInBounds i true).getD j false = true → F j (slotv ops (a.put o.dst v) j) wb w) by
        by_cases hwant : Region.wanted o (yielded ops a.tmps) = true
        · simp only [hwant, if_true]
          exact of_list hwant (step2 i o hif ho a wb w hfr hw hv hdep hwant (swap Q _) fun v h2 => .inr (key v h2))
        · have hwant' : Region.wanted o (yielded ops a.tmps) = false := by simpa using hwant
          simp only [hwant', Bool.false_eq_true, if_false]
          exact .inr (key undef (skip2 i o hif ho a wb w hfr hw hv hdep hwant'))
      intro v hFv
      refine ⟨wb, ?_, hfr' ho hi1 hfr, hw, hv, fun j hj hjs hjf => ?_, fun j hj hlj => ?_⟩
      · rw [set_getD _ _ _ (by omega), if_neg his]
        exact hsl
      · rw [set_getD _ _ _ (by omega)]
        split
        · rfl
        · exact hnf j hj hjs hjf
      · by_cases hji : j = i
        · subst hji
          obtain ⟨d, hd⟩ := hdst _ o his ho
          rw [slot_self ho hd (by rw [hfr.size]; exact hsz _ o d ho hd)]
          exact hFv
        · rw [set_getD _ _ _ (by omega), if_neg (fun e => hji e.symm)] at hlj
          rw [slot_other ho hi1 hj hji hdd]
          exact hfs j hj hlj
  · rcases hI with ⟨hsl, _⟩ | ⟨wb, hsl, hfr, hw, hv, hnf, hfs⟩
    · rw [hl s hss] at hsl
      cases hsl
    · rw [putAll_eq hfr]
      exact fin _ wb w hw hv fun j hj => hfs j hj (hl j hj)
end
end Go.Proofs.Ytnanihffljpdbaa.Inv

/- A region that draws, in whatever order, with the memory as one hypothesis: each operation is walked once; its value is told ahead. -/
namespace Go.Proofs.Ytnanihffljpdbaa.Mem
set_option linter.unusedVariables false
set_option linter.unusedSimpArgs false
open Go.RowKit

theorem got_bool {xs : Array Value} {t : Nat} {b : Bool} (h : (xs[t]?).getD undef = .bool b) : xs[t]? = some (.bool b) := by
  cases hx : xs[t]? with
  | none =>
    rw [hx] at h
    exact absurd h (by simp [undef])
  | some v =>
    rw [hx] at h
    rw [show v = .bool b from h]
theorem skip_none {o : Oper} {y : Nat → Option Bool} (h : Region.wanted o y = false) (hg : o.guard = none) : False := by
  simp [Region.wanted, hg] at h
theorem yield_of {ops : Array Oper} {tmps : Array Value} {j d : Nat} {b : Bool} (hd : Inv.dstAt ops j = some d) (he : tmps.getD d undef = .bool b) : yielded ops tmps j = some b := by
  unfold Inv.dstAt at hd
  rw [Array.getD_eq_getD_getElem?] at he
  unfold yielded
  rw [hd]
  simp only [Option.bind_some, got_bool he]
theorem skip_want {o : Oper} {ops : Array Oper} {tmps : Array Value} {j d : Nat} {b : Bool} (h : Region.wanted o (yielded ops tmps) = false) (hg : o.guard = some (j, b)) (hd : Inv.dstAt ops j = some d) (he : tmps.getD d undef = .bool b) : False := by
  rw [Region.wanted, hg] at h
  simp only [yield_of hd he] at h
  simp at h
theorem keep_bad {o : Oper} {ops : Array Oper} {tmps : Array Value} {j d : Nat} {b : Bool} (h : Region.wanted o (yielded ops tmps) = true) (hg : o.guard = some (j, !b)) (hd : Inv.dstAt ops j = some d) (he : tmps.getD d undef = .bool b) : False := by
  rw [Region.wanted, hg] at h
  simp only [yield_of hd he] at h
  cases b <;> simp at h
section
variable {P : Program} {ops : Array Oper} {Q : Exit → Act → World → Prop} {S : List Nat} {w0 w : World} {R : List Res}
theorem putAll_same (a0 : Act) (ops : Array Oper) (vs us : Nat → Value) : ∀ k, (∀ j, j < k → vs j = us j) → Inv.putAll a0 ops vs k = Inv.putAll a0 ops us k
  | 0, _ => rfl
  | k + 1, h => by rw [Inv.putAll, Inv.putAll, putAll_same a0 ops vs us k (fun j hj => h j (by omega)), h k (by omega)]
theorem hp_walks {id : Nat} {a0 : Act} (H : Hid (Hp S w0 w R)) (vals : Nat → Value) (hm : P.follows .mixedOrders = true) (hb : Inv.backward ops) (hdd : Inv.distinctDst ops = true) (N : Nat) (hN : a0.tmps.size = N) (hnd : (ops.all fun o => o.dst.isSome) = true) (hsz : (ops.all fun o => match o.dst with | some d => decide (d < N) | none => true) = true)
    (step : ∀ i o, ops[i]? = some o → ∀ a' w', Inv.Fr ops a0 a' → Hid (Hp S w0 w' R) → (∀ e ∈ o.after, Region.binds .any e = true → Inv.slotv ops a' e.on = vals e.on) → Region.wanted o (yielded ops a'.tmps) = true → ∀ Q' : Exit → Act → World → Prop, (∀ w'', Hid (Hp S w0 w'' R) → Q' .normal (a'.put o.dst (vals i)) w'') → wpList P ops Q' [o] a' w')
    (skip : ∀ i o, ops[i]? = some o → ∀ a', (∀ e ∈ o.after, Region.binds .any e = true → Inv.slotv ops a' e.on = vals e.on) → Region.wanted o (yielded ops a'.tmps) = false → vals i = undef)
    (fin : ∀ w', Hid (Hp S w0 w' R) → Q .normal (Inv.putAll a0 ops vals ops.size) w') : (Code.region id ops true).wp P Q a0 w := by
  refine Inv.wp_region_walks hm hb hdd N hN hnd hsz (fun w w' => Hp S w0 w R → Hp S w0 w' R) (fun _ h => h) (fun w' => Hp S w0 w' R) (fun j v _ => v = vals j) (fun _ _ _ _ _ _ h => h) (fun _ _ h ho => ho h) H.out.drew (fun i o ho a' w' hfr hW hdep hwant Q' hQ => ?_) (fun i o ho a' w' _ _ hdep hwant => ?_) (fun vs w' hW hF => ?_)
  · exact step i o ho a' w' hfr (Lib.hid hW) hdep hwant Q' (fun w'' H'' => hQ _ _ (fun _ => H''.out) rfl)
  · exact (skip i o ho a' hdep hwant).symm
  · rw [putAll_same a0 ops vs vals ops.size (fun j hj => hF j hj)]
    exact fin w' (Lib.hid hW)
end
end Go.Proofs.Ytnanihffljpdbaa.Mem
