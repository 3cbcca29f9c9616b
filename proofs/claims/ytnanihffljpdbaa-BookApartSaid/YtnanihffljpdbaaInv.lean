/- A region in whatever order, by what each operation leaves behind: each operation is walked once. -/
import Derived.Test.YtnanihffljpdbaaProg
import Derived.Below
import Derived.WalkKit
import Derived.KernelRfl
import Derived.RowKit3
import Derived.Deep.LoopGhost
import Derived.Deep.QuietTactic
import Derived.BigQuiet
import Derived.WideLaws
import Derived.Deep.DeepCutAuto
import Derived.Deep.CutBlock
import Derived.Lib.Hide
import Derived.Laws.BitsLemmas
import Derived.Laws.Bits64
import Derived.Laws.BitsAllLaws
import Derived.IntWalk
import Derived.Outline
import Derived.WalkSpells
import Derived.Test.YtnanihffljpdbaaMem
import Derived.RegionTactic
namespace Go.Proofs.Ytnanihffljpdbaa.Inv
set_option linter.unusedVariables false
set_option linter.unusedSimpArgs false
open Go.RowKit

section
variable {P : Program} {ops : Array Oper} {Q : Exit → Act → World → Prop}

/-- all edges go back: so whoever is left can come up -/
def backwardR (rk : List Nat) (ops : Array Oper) : Bool := (List.range ops.size).all fun i => ((ops[i]?).map (·.after.all fun e => !Region.binds .any e || (decide (e.on < ops.size) && decide (rk.getD e.on 0 < rk.getD i 0)))).getD true
def backward (ops : Array Oper) : Prop := ∃ rk : List Nat, backwardR rk ops = true
theorem backward.edge {ops : Array Oper} {rk : List Nat} (h : backwardR rk ops = true) {i : Nat} {o : Oper} (ho : ops[i]? = some o) {e : Edge} (he : e ∈ o.after) (hbe : Region.binds .any e = true) : e.on < ops.size ∧ rk.getD e.on 0 < rk.getD i 0 := by
  have hi : i < ops.size := (Array.getElem?_eq_some_iff.1 ho).1
  have h1 := List.all_eq_true.1 h i (by simpa using hi)
  rw [ho] at h1
  simp only [Option.map_some, Option.getD_some] at h1
  have h2 := Array.all_eq_true_iff_forall_mem.1 h1 e he
  rw [hbe] at h2
  simpa using h2
theorem ready_none {listed : Array Bool} (hz : listed.size = ops.size) (hb : backward ops) (hr : Region.ready .any ops listed = []) : ∀ i, i < ops.size → listed.getD i false = true := by
  obtain ⟨rk, hb⟩ := hb
  suffices h : ∀ n i, rk.getD i 0 = n → i < ops.size → listed.getD i false = true from fun i hi => h _ i rfl hi
  intro n
  induction n using Nat.strongRecOn with
  | ind n ih =>
    intro i hn hi
    cases hl : listed.getD i false with
    | true => rfl
    | false =>
      exfalso
      have hl' : listed[i]? = some false := by
        have : i < listed.size := by omega
        simp [Array.getD, this] at hl
        simp [this, hl]
      have hm : i ∈ Region.ready .any ops listed := by
        unfold Region.ready
        rw [List.mem_filter]
        refine ⟨by simpa using hi, ?_⟩
        have ho : ops[i]? = some ops[i] := by simp [hi]
        rw [ho]
        have h1 : listed.getD i true = false := by simp [Array.getD_eq_getD_getElem?, hl']
        rw [h1]
        simp only [Bool.not_false, Bool.true_and, Option.map_some, Option.getD_some]
        rw [Array.all_eq_true_iff_forall_mem]
        intro e he
        cases hbe : Region.binds .any e with
        | false => simp
        | true =>
          have h2 := backward.edge hb ho he hbe
          have := ih _ (by omega) e.on rfl h2.1
          simp [this]
      rw [hr] at hm
      cases hm
theorem wpAny_inv (I : Array Bool → Act → World → Prop) (hb : backward ops)
    (hs : ∀ listed i a w, listed.size = ops.size → I listed a w → i ∈ Region.ready .any ops listed → wpOp P ops Q i (I (listed.setIfInBounds i true)) a w)
    (hd : ∀ listed a w, (∀ i, i < ops.size → listed.getD i false = true) → I listed a w → Q .normal a w) :
    ∀ (fuel : Nat) (listed : Array Bool) (a : Act) (w : World), listed.size = ops.size → I listed a w → (listed.toList.count false ≤ fuel) → wpAny P .any ops Q fuel listed a w := by
  intro fuel
  induction fuel with
  | zero =>
    intro listed a w hz hI hf
    have hall : ∀ i, i < ops.size → listed.getD i false = true := by
      intro i hi
      have h0 : ¬ false ∈ listed.toList := by rw [← List.count_pos_iff]; omega
      have hi' : i < listed.size := by omega
      cases hg : listed[i] with
      | true => simp [Array.getD, hi', hg]
      | false => exact absurd (by rw [← hg]; simp) h0
    refine ⟨?_, hd _ _ _ hall hI⟩
    unfold Region.ready
    rw [List.filter_eq_nil_iff]
    intro i hi
    have := hall i (by simpa using hi)
    have hi' : i < listed.size := by rw [hz]; simpa using hi
    have h2 : listed[i]? = some true := by simpa [Array.getD_eq_getD_getElem?, hi'] using this
    simp [Array.getD_eq_getD_getElem?, h2]
  | succ fuel ih =>
    intro listed a w hz hI hf
    refine ⟨fun hr => hd _ _ _ (ready_none hz hb hr) hI, fun i hi => ?_⟩
    refine wpOp_mono (fun a w h => ih _ a w (by simpa using hz) h ?_) (hs listed i a w hz hI hi)
    have hi2 := (List.mem_filter.1 hi).2
    have hil : i < listed.size := by
      have := (List.mem_filter.1 hi).1
      rw [hz]; simpa using this
    have hfalse : listed[i] = false := by
      simp only [Array.getD, hil, dite_true, Bool.and_eq_true, Bool.not_eq_true'] at hi2
      exact hi2.1
    rw [Array.toList_setIfInBounds, List.count_set (by simpa using hil)]
    have : listed.toList[i]'(by simpa using hil) = false := by simpa using hfalse
    simp only [this]
    have hp : 0 < listed.toList.count false := List.count_pos_iff.2 (by rw [← this]; exact List.getElem_mem _)
    simp
    have hp' : 0 < Array.count false listed := by simpa using hp
    have hf' : Array.count false listed ≤ fuel + 1 := by simpa using hf
    omega
theorem wp_region_inv {id : Nat} {a : Act} {w : World} (hm : P.follows .mixedOrders = true) (hb : backward ops) (I : Array Bool → Act → World → Prop) (h0 : I (Array.replicate ops.size false) a w.drew)
    (hs : ∀ listed i a w, listed.size = ops.size → I listed a w → i ∈ Region.ready .any ops listed → wpOp P ops Q i (I (listed.setIfInBounds i true)) a w)
    (hd : ∀ listed a w, (∀ i, i < ops.size → listed.getD i false = true) → I listed a w → Q .normal a w) : (Code.region id ops true).wp P Q a w :=
  wp_region_any hm (wpAny_inv I hb hs hd _ _ _ _ (by simp) h0 (by simp [List.count_replicate_self]))
/-! the same, by a fact for each operation on what it has put into its slot -/
def dstAt (ops : Array Oper) (j : Nat) : Option Tmp := (ops[j]?).bind (·.dst)
def slotv (ops : Array Oper) (a : Act) (j : Nat) : Value := match dstAt ops j with | some d => a.tmps.getD d undef | none => undef
def distinctDst (ops : Array Oper) : Bool := (List.range ops.size).all fun i => (List.range ops.size).all fun j => i == j || dstAt ops i == none || dstAt ops i != dstAt ops j
structure Fr (ops : Array Oper) (a0 a : Act) : Prop where
  defers : a.defers = a0.defers
  size : a.tmps.size = a0.tmps.size
  rest : ∀ t, (∀ j, j < ops.size → dstAt ops j ≠ some t) → a.tmps.getD t undef = a0.tmps.getD t undef
theorem put_getD (a : Act) (d : Option Tmp) (v : Value) (t : Tmp) (h : d ≠ some t) : (a.put d v).tmps.getD t undef = a.tmps.getD t undef := by
  cases d with
  | none => rfl
  | some d =>
    have hne : d ≠ t := fun e => h (by rw [e])
    simp [Act.put, Array.getD_eq_getD_getElem?, Array.getElem?_setIfInBounds_ne hne]
theorem put_size (a : Act) (d : Option Tmp) (v : Value) : (a.put d v).tmps.size = a.tmps.size := by cases d <;> simp [Act.put]
theorem put_defers (a : Act) (d : Option Tmp) (v : Value) : (a.put d v).defers = a.defers := by cases d <;> rfl
theorem Fr.old {ops : Array Oper} {a0 a : Act} (h : Fr ops a0 a) (t : Tmp) (hc : (ops.all fun o => o.dst != some t) = true) : a.eval (.tmp t) = a0.eval (.tmp t) := by
  refine h.rest t fun j hj e => ?_
  unfold dstAt at e
  cases ho : ops[j]? with
  | none => simp [ho] at e
  | some o =>
    have := Array.all_eq_true_iff_forall_mem.1 hc o (Array.mem_of_getElem? ho)
    simp only [ho, Option.bind_some] at e
    rw [e] at this
    simp at this
theorem wp_val {o : Oper} {a : Act} {w w' : World} {K : Act → World → Prop} (v : Value) (he : (execOp a.eval o).run P w = .ok (.value v) w') (h : K (a.put o.dst v) w') : Oper.wp P o a w K Q := by
  unfold Oper.wp
  rw [he]
  exact h
theorem wp_call {o : Oper} {a : Act} {w : World} {K : Act → World → Prop} (f : FuncId) (args : Array Value) (he : (execOp a.eval o).run P w = .ok (.enter f args) w) {post : Ending → World → Prop} (hc : Calls P f args w post) (h : ∀ e w', post e w' → ∃ v, e = .returned v ∧ K (a.put o.dst v) w') : Oper.wp P o a w K Q := by
  unfold Oper.wp
  rw [he]
  refine hc.mono fun e w' hp => ?_
  obtain ⟨v, rfl, hk⟩ := h e w' hp
  exact hk
end
end Go.Proofs.Ytnanihffljpdbaa.Inv
