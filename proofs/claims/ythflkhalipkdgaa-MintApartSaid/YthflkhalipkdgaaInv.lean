/- A region in whatever order, by what each operation leaves behind: each operation is walked once. -/
import Derived.Test.YthflkhalipkdgaaProg
import Derived.Below
import Derived.WalkKit
import Derived.KernelRfl
import Derived.RowKit3
import Derived.Deep.LoopGhost
import Derived.Deep.QuietTactic
import Derived.BigQuiet
import Derived.WideLaws
import Derived.Deep.DeepCutAuto
import Derived.Deep.CutBlock
import Derived.Lib.Hide
import Derived.Laws.BitsLemmas
import Derived.Laws.Bits64
import Derived.Laws.BitsAllLaws
import Derived.IntWalk
import Derived.Outline
import Derived.WalkSpells
import Derived.Test.YthflkhalipkdgaaMem
import Derived.RegionTactic
namespace Go.Proofs.Ythflkhalipkdgaa.Inv
set_option maxRecDepth 20000
set_option linter.unusedVariables false
set_option linter.unusedSimpArgs false
open Go.RowKit

section
variable {P : Program} {ops : Array Oper} {Q : Exit → Act → World → Prop}

/-- all edges go back: so whoever is left can come up -/
def backwardR (rk : List Nat) (ops : Array Oper) : Bool := (List.range ops.size).all fun i => ((ops[i]?).map (·.after.all fun e => !Region.binds .any e || (decide (e.on < ops.size) && decide (rk.getD e.on 0 < rk.getD i 0)))).getD true
def backward (ops : Array Oper) : Prop := ∃ rk : List Nat, backwardR rk ops = true
theorem backward.edge {ops : Array Oper} {rk : List Nat} (h : backwardR rk ops = true) {i : Nat} {o : Oper} (ho : ops[i]? = some o) {e : Edge} (he : e ∈ o.after) (hbe : Region.binds .any e = true) : e.on < ops.size ∧ rk.getD e.on 0 < rk.getD i 0 := by
  have hi : i < ops.size := (Array.getElem?_eq_some_iff.1 ho).1
  have h1 := List.all_eq_true.1 h i (by simpa using hi)
  rw [ho] at h1
  simp only [Option.map_some, Option.getD_some] at h1
  have h2 := Array.all_eq_true_iff_forall_mem.1 h1 e he
  rw [hbe] at h2
  simpa using h2
theorem ready_none {listed : Array Bool} (hz : listed.size = ops.size) (hb : backward ops) (hr : Region.ready .any ops listed = []) : ∀ i, i < ops.size → listed.getD i false = true := by
  obtain ⟨rk, hb⟩ := hb
  suffices h : ∀ n i, rk.getD i 0 = n → i < ops.size → listed.getD i false = true from fun i hi => h _ i rfl hi
  intro n
  induction n using Nat.strongRecOn with
  | ind n ih =>
    intro i hn hi
    cases hl : listed.getD i false with
    | true => rfl
    | false =>
      exfalso
      have hl' : listed[i]? = some false := by
        have : i < listed.size := by omega
        simp [Array.getD, this] at hl
        simp [this, hl]
      have hm : i ∈ Region.ready .any ops listed := by
        unfold Region.ready
        rw [List.mem_filter]
        refine ⟨by simpa using hi, ?_⟩
        have ho : ops[i]? = some ops[i] := by simp [hi]
        rw [ho]
        have h1 : listed.getD i true = false := by simp [Array.getD_eq_getD_getElem?, hl']
        rw [h1]
        simp only [Bool.not_false, Bool.true_and, Option.map_some, Option.getD_some]
        rw [Array.all_eq_true_iff_forall_mem]
        intro e he
        cases hbe : Region.binds .any e with
        | false => simp
        | true =>
          have h2 := backward.edge hb ho he hbe
          have := ih _ (by omega) e.on rfl h2.1
          simp [this]
      rw [hr] at hm
      cases hm
theorem wpAny_inv (I : Array Bool → Act → World → Prop) (hb : backward ops)
    (hs : ∀ listed i a w, listed.size = ops.size → I listed a w → i ∈ Region.ready .any ops listed → wpOp P ops Q i (I (listed.setIfInBounds i true)) a w)
    (hd : ∀ listed a w, (∀ i, i < ops.size → listed.getD i false = true) → I listed a w → Q .normal a w) :
    ∀ (fuel : Nat) (listed : Array Bool) (a : Act) (w : World), listed.size = ops.size → I listed a w → (listed.toList.count false ≤ fuel) → wpAny P .any ops Q fuel listed a w := by
  intro fuel
  induction fuel with
  | zero =>
    intro listed a w hz hI hf
    have hall : ∀ i, i < ops.size → listed.getD i false = true := by
      intro i hi
      have h0 : ¬ false ∈ listed.toList := by rw [← List.count_pos_iff]; omega
      have hi' : i < listed.size := by omega
      cases hg : listed[i] with
      | true => simp [Array.getD, hi', hg]
      | false => exact absurd (by rw [← hg]; simp) h0
    refine ⟨?_, hd _ _ _ hall hI⟩
    unfold Region.ready
    rw [List.filter_eq_nil_iff]
    intro i hi
    have := hall i (by simpa using hi)
    have hi' : i < listed.size := by rw [hz]; simpa using hi
    have h2 : listed[i]? = some true := by simpa [Array.getD_eq_getD_getElem?, hi'] using this
    simp [Array.getD_eq_getD_getElem?, h2]
  | succ fuel ih =>
    intro listed a w hz hI hf
    refine ⟨fun hr => hd _ _ _ (ready_none hz hb hr) hI, fun i hi => ?_⟩
    refine wpOp_mono (fun a w h => ih _ a w (by simpa using hz) h ?_) (hs listed i a w hz hI hi)
    have hi2 := (List.mem_filter.1 hi).2
    have hil : i < listed.size := by
      have := (List.mem_filter.1 hi).1
      rw [hz]; simpa using this
    have hfalse : listed[i] = false := by
      simp only [Array.getD, hil, dite_true, Bool.and_eq_true, Bool.not_eq_true'] at hi2
      exact hi2.1
    rw [Array.toList_setIfInBounds, List.count_set (by simpa using hil)]
    have : listed.toList[i]'(by simpa using hil) = false := by simpa using hfalse
    simp only [this]
    have hp : 0 < listed.toList.count false := List.count_pos_iff.2 (by rw [← this]; exact List.getElem_mem _)
    simp
    have hp' : 0 < Array.count false listed := by simpa using hp
    have hf' : Array.count false listed ≤ fuel + 1 := by simpa using hf
    omega
theorem wp_region_inv {id : Nat} {a : Act} {w : World} (hm : P.follows .mixedOrders = true) (hb : backward ops) (I : Array Bool → Act → World → Prop) (h0 : I (Array.replicate ops.size false) a w.drew)
    (hs : ∀ listed i a w, listed.size = ops.size → I listed a w → i ∈ Region.ready .any ops listed → wpOp P ops Q i (I (listed.setIfInBounds i true)) a w)
    (hd : ∀ listed a w, (∀ i, i < ops.size → listed.getD i false = true) → I listed a w → Q .normal a w) : (Code.region id ops true).wp P Q a w :=
  wp_region_any hm (wpAny_inv I hb hs hd _ _ _ _ (by simp) h0 (by simp [List.count_replicate_self]))
/-! the same, by a fact for each operation on what it has put into its slot -/
def dstAt (ops : Array Oper) (j : Nat) : Option Tmp := (ops[j]?).bind (·.dst)
def slotv (ops : Array Oper) (a : Act) (j : Nat) : Value := match dstAt ops j with | some d => a.tmps.getD d undef | none => undef
def putAll (a : Act) (ops : Array Oper) (vs : Nat → Value) : Nat → Act
  | 0 => a
  | k + 1 => (putAll a ops vs k).put (dstAt ops k) (vs k)
def distinctDst (ops : Array Oper) : Bool := (List.range ops.size).all fun i => (List.range ops.size).all fun j => i == j || dstAt ops i == none || dstAt ops i != dstAt ops j
def noGuards (ops : Array Oper) : Bool := ops.all fun o => o.guard.isNone
structure Fr (ops : Array Oper) (a0 a : Act) : Prop where
  defers : a.defers = a0.defers
  size : a.tmps.size = a0.tmps.size
  rest : ∀ t, (∀ j, j < ops.size → dstAt ops j ≠ some t) → a.tmps.getD t undef = a0.tmps.getD t undef
theorem put_getD (a : Act) (d : Option Tmp) (v : Value) (t : Tmp) (h : d ≠ some t) : (a.put d v).tmps.getD t undef = a.tmps.getD t undef := by
  cases d with
  | none => rfl
  | some d =>
    have hne : d ≠ t := fun e => h (by rw [e])
    simp [Act.put, Array.getD_eq_getD_getElem?, Array.getElem?_setIfInBounds_ne hne]
theorem put_size (a : Act) (d : Option Tmp) (v : Value) : (a.put d v).tmps.size = a.tmps.size := by cases d <;> simp [Act.put]
theorem put_defers (a : Act) (d : Option Tmp) (v : Value) : (a.put d v).defers = a.defers := by cases d <;> rfl
theorem putAll_size (a : Act) (ops : Array Oper) (vs : Nat → Value) : ∀ k, (putAll a ops vs k).tmps.size = a.tmps.size
  | 0 => rfl
  | k + 1 => by rw [putAll, put_size, putAll_size a ops vs k]
theorem putAll_defers (a : Act) (ops : Array Oper) (vs : Nat → Value) : ∀ k, (putAll a ops vs k).defers = a.defers
  | 0 => rfl
  | k + 1 => by rw [putAll, put_defers, putAll_defers a ops vs k]
theorem putAll_get (a0 a : Act) (ops : Array Oper) : ∀ k (t : Nat), t < a0.tmps.size →
    ((∃ j, j < k ∧ dstAt ops j = some t) → (putAll a0 ops (slotv ops a) k).tmps.getD t undef = a.tmps.getD t undef) ∧ ((¬ ∃ j, j < k ∧ dstAt ops j = some t) → (putAll a0 ops (slotv ops a) k).tmps.getD t undef = a0.tmps.getD t undef)
  | 0, t, _ => ⟨fun ⟨j, hj, _⟩ => absurd hj (by omega), fun _ => rfl⟩
  | k + 1, t, ht => by
    rw [putAll]
    by_cases hd : dstAt ops k = some t
    · refine ⟨fun _ => ?_, fun h => absurd ⟨k, by omega, hd⟩ h⟩
      have : t < (putAll a0 ops (slotv ops a) k).tmps.size := by rw [putAll_size]; exact ht
      simp [Act.put, Array.getD_eq_getD_getElem?, this, slotv, hd]
    · rw [put_getD _ _ _ _ hd]
      have ih := putAll_get a0 a ops k t ht
      refine ⟨fun ⟨j, hj, h⟩ => ih.1 ⟨j, ?_, h⟩, fun h => ih.2 fun ⟨j, hj, h2⟩ => h ⟨j, by omega, h2⟩⟩
      rcases Nat.lt_or_ge j k with h1 | h1
      · exact h1
      · exact absurd (by rw [← h, show j = k by omega]) hd
theorem putAll_eq {ops : Array Oper} {a0 a : Act} (h : Fr ops a0 a) : a = putAll a0 ops (slotv ops a) ops.size := by
  have hd := putAll_defers a0 ops (slotv ops a) ops.size
  have hz := putAll_size a0 ops (slotv ops a) ops.size
  have hg := putAll_get a0 a ops ops.size
  generalize putAll a0 ops (slotv ops a) ops.size = b at *
  have e1 : a.tmps = b.tmps := by
    apply Array.ext
    · exact h.size.trans hz.symm
    · intro t h1 h2
      have ht : t < a0.tmps.size := by rw [← hz]; exact h2
      have hgt := hg t ht
      by_cases hj : ∃ j, j < ops.size ∧ dstAt ops j = some t
      · have := hgt.1 hj
        simp only [Array.getD_eq_getD_getElem?, h1, h2, Array.getElem?_eq_getElem, Option.getD_some] at this
        exact this.symm
      · have := hgt.2 hj
        have h3 := h.rest t (fun j hj' he => hj ⟨j, hj', he⟩)
        rw [← h3] at this
        simp only [Array.getD_eq_getD_getElem?, h1, h2, Array.getElem?_eq_getElem, Option.getD_some] at this
        exact this.symm
  have e2 : a.defers = b.defers := h.defers.trans hd.symm
  cases a
  cases b
  simp only at e1 e2
  subst e1
  subst e2
  rfl
theorem Fr.old {ops : Array Oper} {a0 a : Act} (h : Fr ops a0 a) (t : Tmp) (hc : (ops.all fun o => o.dst != some t) = true) : a.eval (.tmp t) = a0.eval (.tmp t) := by
  refine h.rest t fun j hj e => ?_
  unfold dstAt at e
  cases ho : ops[j]? with
  | none => simp [ho] at e
  | some o =>
    have := Array.all_eq_true_iff_forall_mem.1 hc o (Array.mem_of_getElem? ho)
    simp only [ho, Option.bind_some] at e
    rw [e] at this
    simp at this
theorem wp_val {o : Oper} {a : Act} {w w' : World} {K : Act → World → Prop} (v : Value) (he : (execOp a.eval o).run P w = .ok (.value v) w') (h : K (a.put o.dst v) w') : Oper.wp P o a w K Q := by
  unfold Oper.wp
  rw [he]
  exact h
theorem wp_call {o : Oper} {a : Act} {w : World} {K : Act → World → Prop} (f : FuncId) (args : Array Value) (he : (execOp a.eval o).run P w = .ok (.enter f args) w) {post : Ending → World → Prop} (hc : Calls P f args w post) (h : ∀ e w', post e w' → ∃ v, e = .returned v ∧ K (a.put o.dst v) w') : Oper.wp P o a w K Q := by
  unfold Oper.wp
  rw [he]
  refine hc.mono fun e w' hp => ?_
  obtain ⟨v, rfl, hk⟩ := h e w' hp
  exact hk
theorem wp_region_facts {id : Nat} {a0 : Act} {w : World} (hm : P.follows .mixedOrders = true) (hb : backward ops) (hdd : distinctDst ops = true) (hng : noGuards ops = true)
    (N : Nat) (hN : a0.tmps.size = N) (hnd' : (ops.all fun o => o.dst.isSome) = true) (hsz' : (ops.all fun o => match o.dst with | some d => decide (d < N) | none => true) = true)
    (W : World → Prop) (F : Nat → Value → World → Prop) (hF : ∀ j v w w', W w → Mem.Off [] w w' → F j v w → F j v w') (hW : ∀ w w', W w → Mem.Off [] w w' → W w') (hW0 : W w.drew)
    (step : ∀ i o, ops[i]? = some o → ∀ a w, Fr ops a0 a → W w → (∀ e ∈ o.after, Region.binds .any e = true → F e.on (slotv ops a e.on) w) →
      ∀ K : Act → World → Prop, (∀ v w', Mem.Off [] w w' → F i v w' → K (a.put o.dst v) w') → Oper.wp P o a w K Q)
    (fin : ∀ (vs : Nat → Value) w, W w → (∀ j, j < ops.size → F j (vs j) w) → Q .normal (putAll a0 ops vs ops.size) w) : (Code.region id ops true).wp P Q a0 w := by
  have hnd : ∀ j, j < ops.size → dstAt ops j ≠ none := fun j hj e => by
    have := Array.all_eq_true_iff_forall_mem.1 hnd' ops[j] (by simp)
    unfold dstAt at e
    simp only [Array.getElem?_eq_getElem, hj, Option.bind_some] at e
    rw [e] at this
    simp at this
  have hsz : ∀ j d, dstAt ops j = some d → d < a0.tmps.size := fun j d e => by
    unfold dstAt at e
    cases ho : ops[j]? with
    | none => simp [ho] at e
    | some o =>
      have := Array.all_eq_true_iff_forall_mem.1 hsz' o (Array.mem_of_getElem? ho)
      simp only [ho, Option.bind_some] at e
      rw [e] at this
      simpa [hN] using this
  refine wp_region_inv hm hb (fun listed a w => Fr ops a0 a ∧ W w ∧ ∀ j, j < ops.size → listed.getD j false = true → F j (slotv ops a j) w) ⟨⟨rfl, rfl, fun _ _ => rfl⟩, hW0, fun j hj h => ?_⟩ (fun listed i a w hz hI hi => ?_) (fun listed a w hl hI => ?_)
  · simp [Array.getD, hj] at h
  · obtain ⟨hfr, hw, hfs⟩ := hI
    have hi1 : i < ops.size := by simpa using (List.mem_filter.1 hi).1
    have hi2 := (List.mem_filter.1 hi).2
    obtain ⟨o, ho⟩ : ∃ o, ops[i]? = some o := ⟨ops[i], by simp [hi1]⟩
    unfold wpOp
    rw [ho]
    have hg : o.guard = none := by
      have := Array.all_eq_true_iff_forall_mem.1 hng o (Array.mem_of_getElem? ho)
      simpa using this
    have hwant : Region.wanted o (yielded ops a.tmps) = true := by simp [Region.wanted, hg]
    simp only [hwant, if_true]
    refine .inl (step i o ho a w hfr hw (fun e he hbe => ?_) _ fun v w' hoff hFv => ?_)
    · rw [ho] at hi2
      simp only [Option.map_some, Option.getD_some, Bool.and_eq_true] at hi2
      have h1 := Array.all_eq_true_iff_forall_mem.1 hi2.2 e he
      rw [hbe] at h1
      have hl : listed.getD e.on false = true := by simpa using h1
      obtain ⟨rk, hb0⟩ := hb
      exact hfs e.on (backward.edge hb0 ho he hbe).1 hl
    · have hdi : dstAt ops i = o.dst := by simp [dstAt, ho]
      refine ⟨⟨by rw [put_defers]; exact hfr.defers, by rw [put_size]; exact hfr.size, fun t ht => ?_⟩, hW w w' hw hoff, fun j hj hl => ?_⟩
      · rw [put_getD _ _ _ _ (by rw [← hdi]; exact ht i hi1)]
        exact hfr.rest t ht
      · by_cases hji : j = i
        · subst hji
          have : slotv ops (a.put o.dst v) j = v ∨ o.dst = none := by
            unfold slotv
            rw [hdi]
            cases hd : o.dst with
            | none => exact .inr rfl
            | some d =>
              left
              have hlt : d < a.tmps.size := by rw [hfr.size]; exact hsz j d (by rw [hdi, hd])
              simp [Act.put, Array.getD_eq_getD_getElem?, hlt]
          rcases this with h | h
          · rw [h]; exact hFv
          · have h2 := hnd j hj
            rw [hdi] at h2
            exact absurd h h2
        · have hlj : listed.getD j false = true := by
            have hne : i ≠ j := fun e => hji e.symm
            rw [Array.getD_eq_getD_getElem?, Array.getElem?_setIfInBounds_ne hne, ← Array.getD_eq_getD_getElem?] at hl
            exact hl
          have h1 := hfs j hj hlj
          have h2 : slotv ops (a.put o.dst v) j = slotv ops a j := by
            unfold slotv
            cases hd : dstAt ops j with
            | none => rfl
            | some d =>
              refine put_getD _ _ _ _ ?_
              rw [← hdi]
              have h3 := List.all_eq_true.1 (List.all_eq_true.1 hdd i (by simpa using hi1)) j (by simpa using hj)
              simp only [Bool.or_eq_true, beq_iff_eq, bne_iff_ne, ne_eq] at h3
              rcases h3 with (h3 | h3) | h3
              · exact absurd h3.symm hji
              · rw [h3]; simp
              · intro e; rw [e, hd] at h3; exact h3 rfl
          rw [h2]
          exact hF j _ w w' hw hoff h1
  · obtain ⟨hfr, hw, hfs⟩ := hI
    rw [putAll_eq hfr]
    exact fin _ w hw fun j hj => hfs j hj (hl j hj)
end
end Go.Proofs.Ythflkhalipkdgaa.Inv
