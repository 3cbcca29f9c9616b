/- A region, drawn or not, by what each operation leaves in its slot and what the memory is by then: each operation once. -/
import Derived.Test.YthflkhalipkdgaaProg
import Derived.Below
import Derived.WalkKit
import Derived.KernelRfl
import Derived.RowKit3
import Derived.Deep.LoopGhost
import Derived.Deep.QuietTactic
import Derived.BigQuiet
import Derived.WideLaws
import Derived.Deep.DeepCutAuto
import Derived.Deep.CutBlock
import Derived.Lib.Hide
import Derived.Laws.BitsLemmas
import Derived.Laws.Bits64
import Derived.Laws.BitsAllLaws
import Derived.IntWalk
import Derived.Outline
import Derived.WalkSpells
import Derived.Test.YthflkhalipkdgaaMem
import Derived.Test.YthflkhalipkdgaaInv5
import Derived.Test.YthflkhalipkdgaaHpW
namespace Go.Proofs.Ythflkhalipkdgaa.Reg
set_option maxRecDepth 20000
set_option linter.unusedVariables false
set_option linter.unusedSimpArgs false
open Go.RowKit Go.Proofs.Ythflkhalipkdgaa.Inv

/-- ancestors by binding edges: A i are all of them -/
def ancOk (A : List (List Nat)) (ops : Array Oper) : Bool := (List.range ops.size).all fun i => ((ops[i]?).map fun o =>
  (o.after.all fun e => !Region.binds .any e || ((A.getD i []).contains e.on && (A.getD e.on []).all fun j => (A.getD i []).contains j)) &&
  ((A.getD i []).all fun j => o.after.any fun e => Region.binds .any e && (e.on == j || (A.getD e.on []).contains j))).getD true
def anc (A : List (List Nat)) (i j : Nat) : Bool := (A.getD i []).contains j
def upd (L : Nat → Bool) (i j : Nat) : Bool := bif Nat.beq j i then true else L j
/-- what is known when operation i comes up: L tells who has been -/
structure Stg {X : Type} (ops : Array Oper) (An : Nat → Nat → Bool) (a0 : Act) (val : X → Nat → Value) (L : Nat → Bool) (x : X) (a : Act) (i : Nat) : Prop where
  slot : ∀ j, L j = true → slotv ops a j = val x j
  old : ∀ t, (∀ j, dstAt ops j = some t → L j = false) → a.eval (.tmp t) = a0.eval (.tmp t)
  anc : ∀ j, An i j = true → L j = true
  des : ∀ k, An k i = true → L k = false
  down : ∀ k j, L k = true → An k j = true → L j = true
  self : L i = false
  lt : ∀ j, L j = true → j < ops.size
section
variable {P : Program} {ops : Array Oper} {Q : Exit → Act → World → Prop} {X : Type}
theorem guard_some {o : Oper} {y : Nat → Option Bool} (h : Region.wanted o y = false) : o.guard.isSome = true := by
  cases hg : o.guard with
  | some _ => rfl
  | none => simp [Region.wanted, hg] at h
theorem dst_lt {N : Nat} {a0 : Act} (hN : a0.tmps.size = N) (hsz' : (ops.all fun o => match o.dst with | some d => decide (d < N) | none => true) = true) {j d : Nat} {o : Oper} (ho : ops[j]? = some o) (hd : o.dst = some d) : d < a0.tmps.size := by
  have := Array.all_eq_true_iff_forall_mem.1 hsz' o (Array.mem_of_getElem? ho)
  rw [hd] at this
  simpa [hN] using this
theorem fr_put {a0 a : Act} {i : Nat} {o : Oper} {v : Value} (ho : ops[i]? = some o) (hfr : Fr ops a0 a) : Fr ops a0 (a.put o.dst v) := by
  have hi : i < ops.size := (Array.getElem?_eq_some_iff.1 ho).1
  have hdi : dstAt ops i = o.dst := by simp [dstAt, ho]
  exact ⟨by rw [put_defers]; exact hfr.defers, by rw [put_size]; exact hfr.size, fun t ht => by
    rw [put_getD _ _ _ _ (by rw [← hdi]; exact ht i hi)]
    exact hfr.rest t ht⟩
/-- what goes on behind an operation -/
def Goes (ops : Array Oper) (val : X → Nat → Value) (St : (Nat → Bool) → X → World → Prop) (L : Nat → Bool) (x : X) (a : Act) (i : Nat) (o : Oper) (K : Act → World → Prop) : Prop :=
  ∀ v x' w', (∀ j, L j = true → val x' j = val x j) → (match o.dst with | some _ => v | none => undef) = val x' i → St (upd L i) x' w' → K (a.put o.dst v) w'
/-- slots as they are told, others as they were -/
def Told (ops : Array Oper) (a0 : Act) (val : X → Nat → Value) (L : Nat → Bool) (x : X) (a : Act) : Prop :=
  Fr ops a0 a ∧ (∀ j, L j = true → slotv ops a j = val x j) ∧ (∀ t, (∀ j, dstAt ops j = some t → L j = false) → a.eval (.tmp t) = a0.eval (.tmp t))
theorem told_put {a0 a : Act} {val : X → Nat → Value} {L : Nat → Bool} {x x' : X} {i : Nat} {o : Oper} {v : Value} {N : Nat} (hN : a0.tmps.size = N) (hsz' : (ops.all fun o => match o.dst with | some d => decide (d < N) | none => true) = true) (hdd : distinctDst ops = true) (hLs : ∀ j, L j = true → j < ops.size)
    (ho : ops[i]? = some o) (h : Told ops a0 val L x a) (hv : ∀ j, L j = true → val x' j = val x j) (hi : (match o.dst with | some _ => v | none => undef) = val x' i) (hs : L i = false) : Told ops a0 val (upd L i) x' (a.put o.dst v) := by
  obtain ⟨hfr, h1, h2⟩ := h
  have hi1 : i < ops.size := (Array.getElem?_eq_some_iff.1 ho).1
  refine ⟨fr_put ho hfr, fun j hj => ?_, fun t ht => ?_⟩
  · by_cases hji : j = i
    · subst hji
      cases hd : o.dst with
      | none =>
        rw [show (none : Option Tmp) = o.dst from hd.symm, slot_none ho hd]
        rw [hd] at hi
        exact hi
      | some d =>
        rw [show (some d : Option Tmp) = o.dst from hd.symm, slot_self ho hd (by rw [hfr.size]; exact dst_lt hN hsz' ho hd)]
        rw [hd] at hi
        exact hi
    · have hj' : L j = true := by
        unfold upd at hj
        have hne : Nat.beq j i = false := by
          cases hb : Nat.beq j i with
          | false => rfl
          | true => exact absurd (Nat.eq_of_beq_eq_true hb) hji
        rw [hne] at hj
        exact hj
      rw [slot_other ho hi1 (hLs j hj') hji hdd, h1 j hj', hv j hj']
  · have hne : o.dst ≠ some t := fun e => by
      have := ht i (by simp [dstAt, ho, e])
      simp [upd] at this
    show (a.put o.dst v).tmps.getD t undef = a0.tmps.getD t undef
    rw [put_getD _ _ _ _ hne]
    refine h2 t fun j hj => ?_
    have := ht j hj
    unfold upd at this
    cases hb : Nat.beq j i with
    | true => rw [hb] at this; cases this
    | false => rw [hb] at this; exact this
theorem wp_region_st {id : Nat} {a0 : Act} {w : World} (hm : P.follows .mixedOrders = true) (hb : backward ops) (A : List (List Nat)) (hA : ancOk A ops = true) (hdd : distinctDst ops = true)
    (N : Nat) (hN : a0.tmps.size = N) (hsz' : (ops.all fun o => match o.dst with | some d => decide (d < N) | none => true) = true)
    (val : X → Nat → Value) (St : (Nat → Bool) → X → World → Prop) (x0 : X) (hS0 : St (fun _ => false) x0 w.drew)
    (hSt : ∀ L L' x w, (∀ j, j < ops.size → L j = L' j) → St L x w → St L' x w)
    (step : ∀ i o, ops[i]? = some o → ∀ L x a w', Stg ops (anc A) a0 val L x a i → St L x w' → Region.wanted o (yielded ops a.tmps) = true → ∀ Q' : Exit → Act → World → Prop, Goes ops val St L x a i o (Q' .normal) → wpList P ops Q' [o] a w')
    (skip : ∀ i o, ops[i]? = some o → o.guard.isSome = true → ∀ L x a, Stg ops (anc A) a0 val L x a i → Region.wanted o (yielded ops a.tmps) = false → val x i = undef ∧ ∀ w', St L x w' → St (upd L i) x w')
    (fin : ∀ x a w', Fr ops a0 a → (∀ j, j < ops.size → slotv ops a j = val x j) → St (fun _ => true) x w' → Q .normal a w') : (Code.region id ops true).wp P Q a0 w := by
  have hgetF : ∀ j, (Array.replicate ops.size false).getD j false = false := fun j => by
    simp only [Array.getD_eq_getD_getElem?, Array.getElem?_replicate]
    split <;> rfl
  refine wp_region_inv hm hb (fun listed a w => listed.size = ops.size ∧ (∀ k j, listed.getD k false = true → anc A k j = true → listed.getD j false = true) ∧ ∃ x, Told ops a0 val (fun j => listed.getD j false) x a ∧ St (fun j => listed.getD j false) x w) ⟨by simp, fun k j hk => (by rw [hgetF] at hk; cases hk), x0, ⟨⟨rfl, rfl, fun _ _ => rfl⟩, fun j hj => (by simp only [hgetF] at hj; cases hj), fun _ _ => rfl⟩, ?_⟩ (fun listed i a w hz hI hi => ?_) (fun listed a w hl hI => ?_)
  · exact hSt _ _ _ _ (fun j _ => (hgetF j).symm) hS0
  · obtain ⟨hls, hdown, x, ht, hst⟩ := hI
    have hi1 : i < ops.size := by simpa using (List.mem_filter.1 hi).1
    have hi0 : listed.getD i false = false := by
      have hi2 := (List.mem_filter.1 hi).2
      have hil : i < listed.size := by omega
      simp only [Array.getD, hil, dite_true, Bool.and_eq_true, Bool.not_eq_true'] at hi2
      simp only [Array.getD, hil, dite_true]
      exact hi2.1
    obtain ⟨o, ho⟩ : ∃ o, ops[i]? = some o := ⟨ops[i], by simp [hi1]⟩
    have hA1 := List.all_eq_true.1 hA i (by simpa using hi1)
    rw [ho] at hA1
    simp only [Option.map_some, Option.getD_some, Bool.and_eq_true] at hA1
    have hanc : ∀ j, anc A i j = true → listed.getD j false = true := fun j hj => by
      have h3 := List.all_eq_true.1 hA1.2 j (List.contains_iff_mem.1 hj)
      rw [← Array.any_toList, List.any_eq_true] at h3
      obtain ⟨e, he, h4⟩ := h3
      rw [Array.mem_toList_iff] at he
      simp only [Bool.and_eq_true, Bool.or_eq_true, beq_iff_eq] at h4
      have h5 := ready_dep ho hi he h4.1
      rcases h4.2 with h6 | h6
      · rw [← h6]; exact h5
      · exact hdown _ _ h5 h6
    have hLs : ∀ j, listed.getD j false = true → j < ops.size := fun j hj => by
      rcases Nat.lt_or_ge j ops.size with h | h
      · exact h
      · rw [Array.getD_eq_getD_getElem?, Array.getElem?_eq_none (by omega)] at hj
        cases hj
    have hup : (fun j => (listed.setIfInBounds i true).getD j false) = upd (fun j => listed.getD j false) i := by
      funext j
      rw [set_getD _ _ _ (by omega)]
      unfold upd
      by_cases hji : i = j
      · subst hji
        rw [if_pos rfl, Nat.beq_refl]
        rfl
      · rw [if_neg hji]
        cases hb : Nat.beq j i with
        | true => exact absurd (Nat.eq_of_beq_eq_true hb).symm hji
        | false => rfl
    have hdes : ∀ k, anc A k i = true → listed.getD k false = false := fun k hk => by
      cases hc : listed.getD k false with
      | false => rfl
      | true =>
        have := hdown k i hc hk
        rw [hi0] at this
        cases this
    have hstg : Stg ops (anc A) a0 val (fun j => listed.getD j false) x a i := ⟨ht.2.1, ht.2.2, hanc, hdes, hdown, hi0, hLs⟩
    have hdown' : ∀ k j, (listed.setIfInBounds i true).getD k false = true → anc A k j = true → (listed.setIfInBounds i true).getD j false = true := fun k j hk hkj => by
      rw [set_getD _ _ _ (by omega)] at hk ⊢
      split
      · rfl
      · split at hk
        · rename_i h;  subst h; exact hanc j hkj
        · exact hdown k j hk hkj
    unfold wpOp
    rw [ho]
    by_cases hwant : Region.wanted o (yielded ops a.tmps) = true
    · simp only [hwant, if_true]
      refine of_list hwant (step i o ho _ x a w hstg hst hwant (swap Q _) fun v x' w' hv hvi hs' => ⟨by simpa using hls, hdown', x', ?_, ?_⟩)
      · rw [hup]
        exact told_put hN hsz' hdd hLs ho ht hv hvi hi0
      · rw [hup]
        exact hs'
    · have hwant' : Region.wanted o (yielded ops a.tmps) = false := by simpa using hwant
      simp only [hwant', Bool.false_eq_true, if_false]
      obtain ⟨h1, h2⟩ := skip i o ho (guard_some hwant') _ x a hstg hwant'
      refine ⟨by simpa using hls, hdown', x, ?_, ?_⟩
      · rw [hup]
        exact told_put hN hsz' hdd hLs ho ht (fun _ _ => rfl) (by rw [h1]; split <;> rfl) hi0
      · rw [hup]
        exact h2 w hst
  · obtain ⟨hls, hdown, x, ht, hst⟩ := hI
    exact fin x a w ht.1 (fun j hj => ht.2.1 j (hl j hj)) (hSt _ _ _ _ (fun j hj => hl j hj) hst)
/-- the order of the text -/
def before (i j : Nat) : Bool := Nat.blt j i
theorem before_false {i j : Nat} : before i j = false ↔ i ≤ j := by
  unfold before
  rw [← Bool.not_eq_true, Nat.blt_eq]
  omega
theorem before_true {i j : Nat} : before i j = true ↔ j < i := by unfold before; rw [Nat.blt_eq]
theorem wp_region_sq {id : Nat} {a0 : Act} {w : World} (hdd : distinctDst ops = true)
    (N : Nat) (hN : a0.tmps.size = N) (hsz' : (ops.all fun o => match o.dst with | some d => decide (d < N) | none => true) = true)
    (val : X → Nat → Value) (St : (Nat → Bool) → X → World → Prop) (x0 : X) (hS0 : St (fun _ => false) x0 w)
    (hSt : ∀ L L' x w, (∀ j, j < ops.size → L j = L' j) → St L x w → St L' x w)
    (step : ∀ i o, ops[i]? = some o → ∀ L x a w', Stg ops before a0 val L x a i → St L x w' → Region.wanted o (yielded ops a.tmps) = true → ∀ Q' : Exit → Act → World → Prop, Goes ops val St L x a i o (Q' .normal) → wpList P ops Q' [o] a w')
    (skip : ∀ i o, ops[i]? = some o → o.guard.isSome = true → ∀ L x a, Stg ops before a0 val L x a i → Region.wanted o (yielded ops a.tmps) = false → val x i = undef ∧ ∀ w', St L x w' → St (upd L i) x w')
    (fin : ∀ x a w', Fr ops a0 a → (∀ j, j < ops.size → slotv ops a j = val x j) → St (fun _ => true) x w' → Q .normal a w') : (Code.region id ops false).wp P Q a0 w := by
  refine wp_region ?_
  have key : ∀ n k x a w, n + k = ops.size → Told ops a0 val (before k) x a → St (before k) x w → wpOps P ops Q (List.range' k n) a w := by
    intro n
    induction n with
    | zero =>
      intro k x a w hk ht hst
      exact fin x a w ht.1 (fun j hj => ht.2.1 j (by simp [before]; omega)) (hSt _ _ _ _ (fun j hj => by simp [before]; omega) hst)
    | succ n ih =>
      intro k x a w hk ht hst
      have hi1 : k < ops.size := by omega
      obtain ⟨o, ho⟩ : ∃ o, ops[k]? = some o := ⟨ops[k], by simp [hi1]⟩
      have hup : upd (before k) k = before (k + 1) := by
        funext j
        unfold upd before
        cases hb : Nat.beq j k with
        | true => have := Nat.eq_of_beq_eq_true hb; subst this; simp
        | false =>
          have h1 : j ≠ k := fun e => by rw [e, Nat.beq_refl] at hb; cases hb
          simp only [cond_false]
          rw [Bool.eq_iff_iff, Nat.blt_eq, Nat.blt_eq]
          omega
      have hLs : ∀ j, before k j = true → j < ops.size := fun j hj => by simp [before] at hj; omega
      have hself : before k k = false := before_false.2 (Nat.le_refl _)
      have hstg : Stg ops before a0 val (before k) x a k := ⟨ht.2.1, ht.2.2, fun j hj => hj, fun i hi => by
        rw [before_true] at hi
        rw [before_false]
        omega, fun i j hi hj => by
        rw [before_true] at hi hj ⊢
        omega, hself, hLs⟩
      rw [List.range'_succ]
      unfold wpOps
      rw [ho]
      by_cases hwant : Region.wanted o (yielded ops a.tmps) = true
      · simp only [hwant, if_true]
        refine of_list hwant (step k o ho _ x a w hstg hst hwant (swap Q _) fun v x' w' hv hvi hs' => ih (k + 1) x' _ _ (by omega) ?_ ?_)
        · rw [← hup]
          exact told_put hN hsz' hdd hLs ho ht hv hvi hself
        · rw [← hup]
          exact hs'
      · have hwant' : Region.wanted o (yielded ops a.tmps) = false := by simpa using hwant
        simp only [hwant', Bool.false_eq_true, if_false]
        obtain ⟨h1, h2⟩ := skip k o ho (guard_some hwant') _ x a hstg hwant'
        refine ih (k + 1) x _ _ (by omega) ?_ ?_
        · rw [← hup]
          exact told_put hN hsz' hdd hLs ho ht (fun _ _ => rfl) (by rw [h1]; split <;> rfl) hself
        · rw [← hup]
          exact h2 w hst
  rw [List.range_eq_range']
  refine key ops.size 0 x0 a0 w (by omega) ⟨⟨rfl, rfl, fun _ _ => rfl⟩, fun j hj => ?_, fun _ _ => rfl⟩ ?_
  · simp [before] at hj
  · exact hSt _ _ _ _ (fun j _ => (before_false.2 (Nat.zero_le _)).symm) hS0
end
end Go.Proofs.Ythflkhalipkdgaa.Reg
