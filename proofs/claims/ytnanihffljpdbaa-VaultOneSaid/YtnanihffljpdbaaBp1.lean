/- Layer 9, plain laws: the reference's book is the program's (no program in sight). -/
import Derived.Test.YtnanihffljpdbaaProg
import Derived.Below
import Derived.WalkKit
import Derived.KernelRfl
import Derived.RowKit3
import Derived.Deep.LoopGhost
import Derived.Deep.QuietTactic
import Derived.BigQuiet
import Derived.WideLaws
import Derived.Deep.DeepCutAuto
import Derived.Deep.CutBlock
import Derived.Lib.Hide
import Derived.Laws.BitsLemmas
import Derived.Laws.Bits64
import Derived.Laws.BitsAllLaws
import Derived.IntWalk
import Derived.Outline
import Derived.WalkSpells
import Derived.Test.YtnanihffljpdbaaGA
import Derived.Test.YtnanihffljpdbaaBr3
namespace Go.Proofs.Ytnanihffljpdbaa.Bk
open Go.RowKit Go.Proofs.Ytnanihffljpdbaa.Mem Go.Proofs.Ytnanihffljpdbaa.Reg Go.Proofs.Ytnanihffljpdbaa.Si Go.Proofs.Ytnanihffljpdbaa.Ca Go.Proofs.Ytnanihffljpdbaa.Sc6
set_option linter.unusedVariables false
set_option linter.unusedSimpArgs false

def toR (b : BookV) : RBook := ⟨b.conf, b.room != 0, b.index, liveV b, b.done, b.modes⟩
structure InvB (b : BookV) : Prop where
  ok : OkB b
  key : ∀ p ∈ b.live, (p.1 : Int) = p.2.id ∧ (1 : Int) ≤ p.1 ∧ @LE.le Int _ p.1 b.index ∧ livesV p.2 = true
  room : b = zeroB ∨ (checkV b.conf = 0 ∧ b.room = b.conf.calls)
  done : ∀ x ∈ b.done, livesV x = false
  mode : ∀ k : Nat, k < 4 → b.conf.cars ≤ k → b.modes.getD k 0 = 0
theorem toR_zero : toR zeroB = zeroR := rfl
theorem check_zero : checkV zeroB.conf = 3 := by decide
theorem inv_zero : InvB zeroB := by
  refine ⟨ok_zero, fun p h => (by cases h), .inl rfl, fun x h => (by cases h), fun k hk _ => ?_⟩
  have : k = 0 ∨ k = 1 ∨ k = 2 ∨ k = 3 := by omega
  rcases this with rfl | rfl | rfl | rfl <;> rfl
theorem lives_iff (x : CallV) : livesV x = true ↔ 1 ≤ x.state ∧ x.state ≤ 3 := by unfold livesV; simp
theorem InvB.live {b : BookV} (h : InvB b) (h0 : (b.room == 0) = false) : checkV b.conf = 0 ∧ b.room = b.conf.calls := by
  rcases h.room with rfl | h
  · cases h0
  · exact h
theorem InvB.zero {b : BookV} (h : InvB b) (h0 : (b.room == 0) = true) : b = zeroB := by
  rcases h.room with rfl | ⟨h1, h2⟩
  · rfl
  · have := (cfg_in (c := b.conf) (by rw [h1]; rfl)).1
    simp at h0
    omega
theorem InvB.is {b : BookV} (h : InvB b) (h1 : checkV b.conf = 0) : (b.room == 0) = false := by
  rcases h.room with rfl | h
  · rw [check_zero] at h1; cases h1
  · have := (cfg_in (c := b.conf) (by rw [h1]; rfl)).1
    simp
    omega
theorem inv_new (c : Cfg) : InvB (newB c) := by
  unfold newB
  cases h : (checkV c != 0) with
  | true => exact inv_zero
  | false =>
    have hc := cfg_in h
    have h0 : checkV c = 0 := by simpa using h
    refine ⟨⟨List.Pairwise.nil, ⟨by simp; omega, by simp; omega⟩, ⟨by simp; omega, by simp; omega⟩, rfl, by simp⟩, fun p h => by (cases h), .inr ⟨h0, rfl⟩, fun x h => by (cases h), fun k hk hc => ?_⟩
    have : k = 0 ∨ k = 1 ∨ k = 2 ∨ k = 3 := by omega
    simp only [cond_false] at hc
    rcases this with rfl | rfl | rfl | rfl
    · show (bif decide (0 < c.cars) then (1 : Int) else 0) = 0
      rw [decide_eq_false (by omega)]; rfl
    · show (bif decide (1 < c.cars) then (1 : Int) else 0) = 0
      rw [decide_eq_false (by omega)]; rfl
    · show (bif decide (2 < c.cars) then (1 : Int) else 0) = 0
      rw [decide_eq_false (by omega)]; rfl
    · show (bif decide (3 < c.cars) then (1 : Int) else 0) = 0
      rw [decide_eq_false (by omega)]; rfl
theorem toR_new (c : Cfg) : toR (newB c) = newR9 c := by
  unfold newB newR9
  cases h : (checkV c != 0) with
  | true =>
    have : (checkV c == 0) = false := by simpa [bne] using h
    rw [this]; rfl
  | false =>
    have h0 : (checkV c == 0) = true := by simpa [bne] using h
    have hc := cfg_in h
    rw [h0]
    show toR ⟨c, 0, c.calls, [], [], newModes c.cars⟩ = ⟨c, true, 0, [], [], newModes c.cars⟩
    unfold toR liveV
    have : (c.calls != 0) = true := by simp; omega
    rw [this]
    rfl
/-! sorted pairs -/
theorem is_split {ps : List PairV} (hs : Sorted ps) {k : Int} (h : isV k ps = true) : ∃ A v B, ps = A ++ (k, v) :: B ∧ posV k ps = A.length ∧ (∀ p ∈ A, p.1 ≠ k) ∧ (∀ p ∈ B, p.1 ≠ k) := by
  obtain ⟨p, hp, hk, hlt⟩ := is_some h
  have e : ps = ps.take (posV k ps) ++ p :: ps.drop (posV k ps + 1) := by
    obtain ⟨hi, hpe⟩ := List.getElem?_eq_some_iff.1 hp
    rw [← hpe, List.getElem_cons_drop, List.take_append_drop]
  refine ⟨ps.take (posV k ps), p.2, ps.drop (posV k ps + 1), ?_, by rw [List.length_take]; omega, fun q hq => ?_, fun q hq => ?_⟩
  · have : (k, p.2) = p := by rw [← hk]
    rw [this]
    exact e
  · have := (sorted_pos hs k).1 q hq
    intro he
    rw [he, ltK_irrefl] at this
    cases this
  · have h2 : Sorted (ps.take (posV k ps) ++ p :: ps.drop (posV k ps + 1)) := by rw [← e]; exact hs
    have h3 := (List.pairwise_cons.1 (List.pairwise_append.1 h2).2.1).1 q hq
    intro he
    rw [hk, he, ltK_irrefl] at h3
    cases h3
theorem map_ne {A : List PairV} {x : CallV} (hk : ∀ p ∈ A, p.1 = p.2.id) (h : ∀ p ∈ A, p.1 ≠ x.id) : keepL (A.map (·.2)) x = A.map (·.2) := by
  induction A with
  | nil => rfl
  | cons p A ih =>
    have h1 := hk p (List.mem_cons_self ..)
    have h2 := h p (List.mem_cons_self ..)
    have e : (p.2.id != x.id) = true := by rw [← h1]; simpa using h2
    have ih' := ih (fun q hq => hk q (List.mem_cons_of_mem _ hq)) (fun q hq => h q (List.mem_cons_of_mem _ hq))
    unfold keepL at ih' ⊢
    rw [List.map_cons, List.flatMap_cons, ih', keep_yes e]
    rfl
theorem keep_app (l m : List CallV) (x : CallV) : keepL (l ++ m) x = keepL l x ++ keepL m x := by simp [keepL]
theorem find_ne {A : List PairV} {k : Int} (hk : ∀ p ∈ A, p.1 = p.2.id) (h : ∀ p ∈ A, p.1 ≠ k) : (A.map (·.2)).find? (fun x => x.id == k) = none := by
  rw [List.find?_eq_none]
  intro x hx
  obtain ⟨p, hp, rfl⟩ := List.mem_map.1 hx
  have h1 := hk p hp
  have h2 := h p hp
  have h3 : (p.2.id == k) = false := by rw [← h1]; simpa using h2
  intro he
  have he' : (p.2.id == k) = true := he
  rw [h3] at he'
  cases he'
theorem get_split {ps A B : List PairV} {k : Int} {v : CallV} (e : ps = A ++ (k, v) :: B) (hp : posV k ps = A.length) (h : isV k ps = true) : getV k ps = (v, true) := by
  unfold getV
  rw [if_pos h, hp, e]
  simp
theorem get_no {ps : List PairV} {k : Int} (h : isV k ps = false) : getV k ps = (zeroC, false) := by
  unfold getV
  rw [if_neg (by simp [h])]
  rfl
theorem get_is (k : Int) (ps : List PairV) (hs : Sorted ps) : (getV k ps).2 = isV k ps := by
  cases h : isV k ps with
  | false => rw [get_no h]
  | true =>
    obtain ⟨A, v, B, e, hp, _, _⟩ := is_split hs h
    rw [get_split e hp h]
section
variable {b : BookV} {x : CallV}
theorem live_find (hI : InvB b) (k : Int) : (liveV b).find? (fun x => x.id == k) = bif (getV k b.live).2 then some (getV k b.live).1 else none := by
  cases h : isV k b.live with
  | false =>
    rw [get_no h]
    exact find_ne (fun p hp => (hI.key p hp).1) (is_false_ne hI.ok.sorted h)
  | true =>
    obtain ⟨A, v, B, e, hp, hA, hB⟩ := is_split hI.ok.sorted h
    rw [get_split e hp h]
    unfold liveV
    have hk : ∀ p ∈ A, p.1 = p.2.id := fun p hp => (hI.key p (by rw [e]; simp [hp])).1
    have hv : v.id = k := ((hI.key (k, v) (by rw [e]; simp)).1).symm
    rw [e, List.map_append, List.find?_append, find_ne hk hA]
    simp [hv]
theorem idx_find (xs : List CallV) (id : Int) : xs[idxN xs id]? = xs.find? fun x => x.id == id := by
  unfold idxN
  induction xs with
  | nil => rfl
  | cons y xs ih =>
    rw [List.findIdx_cons, List.find?_cons]
    cases h : (y.id == id) with
    | true => rfl
    | false => simpa using ih
theorem find_toR (hI : InvB b) (id : Int) : findR (toR b) id = findV b id := by
  unfold findR findV
  show (match (liveV b).find? _ with | some x => (x, true) | none => (match b.done.find? _ with | some x => (x, true) | none => (zeroC, false))) = _
  rw [live_find hI id, idx_find]
  cases (getV id b.live).2 <;> rfl
theorem last_one {n : Int} {l : List CallV} (h : (l.length : Int) ≤ n) (x : CallV) : lastV n (l ++ [x]) = (bif decide (n < ((([] : List CallV) ++ l ++ [x]).length : Int)) then (([] : List CallV) ++ l ++ [x]).drop 1 else ([] : List CallV) ++ l ++ [x]) := by
  unfold lastV
  rw [List.nil_append]
  by_cases hl : (l.length : Int) < n
  · rw [decide_eq_false (by simp; omega), show ((((l ++ [x]).length : Nat) : Int) - n).toNat = 0 by simp; omega]
    rfl
  · rw [decide_eq_true (by simp; omega), show ((((l ++ [x]).length : Nat) : Int) - n).toNat = 1 by simp; omega]
    rfl
theorem last_len {n : Int} (hn : 0 ≤ n) (l : List CallV) : ((lastV n l).length : Int) ≤ n := by
  unfold lastV
  rw [List.length_drop]
  omega
theorem without_split {ps A B : List PairV} {k : Int} {v : CallV} (e : ps = A ++ (k, v) :: B) (hp : posV k ps = A.length) (h : isV k ps = true) : withoutV k ps = A ++ B := by
  unfold withoutV
  rw [if_pos h, delAt, hp, e]
  simp
theorem without_no {ps : List PairV} {k : Int} (h : isV k ps = false) : withoutV k ps = ps := by
  unfold withoutV
  rw [if_neg (by simp [h])]
theorem without_sub (ps : List PairV) (k : Int) : ∀ p ∈ withoutV k ps, p ∈ ps := by
  intro p hp
  unfold withoutV at hp
  split at hp
  · unfold delAt at hp
    rcases List.mem_append.1 hp with h | h
    · exact List.mem_of_mem_take h
    · exact List.mem_of_mem_drop h
  · exact hp
theorem without_len (ps : List PairV) (k : Int) : (withoutV k ps).length ≤ ps.length := by
  unfold withoutV
  split
  · unfold delAt
    simp
    omega
  · exact Nat.le_refl _
theorem live_without (hI : InvB b) (hx : decide (x.state < 4) = false) : (withoutV x.id b.live).map (·.2) = keepL (liveV b) x := by
  cases h : isV x.id b.live with
  | false =>
    rw [without_no h]
    exact (map_ne (fun p hp => (hI.key p hp).1) (is_false_ne hI.ok.sorted h)).symm
  | true =>
    obtain ⟨A, v, B, e, hp, hA, hB⟩ := is_split hI.ok.sorted h
    rw [without_split e hp h]
    unfold liveV
    have hkA : ∀ p ∈ A, p.1 = p.2.id := fun p hp => (hI.key p (by rw [e]; simp [hp])).1
    have hkB : ∀ p ∈ B, p.1 = p.2.id := fun p hp => (hI.key p (by rw [e]; simp [hp])).1
    have hv : (v.id != x.id) = false := by
      have := (hI.key (x.id, v) (by rw [e]; simp)).1
      simp
      exact this.symm
    rw [e, List.map_append, List.map_append, List.map_cons, keep_app, map_ne hkA hA, show v :: B.map (·.2) = [v] ++ B.map (·.2) from rfl, keep_app, map_ne hkB hB]
    simp [keepL, keep_not hv hx]
theorem live_set (hI : InvB b) (hx : decide (x.state < 4) = true) (h : isV x.id b.live = true) : (b.live.set (posV x.id b.live) (x.id, x)).map (·.2) = keepL (liveV b) x := by
  obtain ⟨A, v, B, e, hp, hA, hB⟩ := is_split hI.ok.sorted h
  have hkA : ∀ p ∈ A, p.1 = p.2.id := fun p hp => (hI.key p (by rw [e]; simp [hp])).1
  have hkB : ∀ p ∈ B, p.1 = p.2.id := fun p hp => (hI.key p (by rw [e]; simp [hp])).1
  have hv : (v.id != x.id) = false := by
    have := (hI.key (x.id, v) (by rw [e]; simp)).1
    simp
    exact this.symm
  unfold liveV
  rw [hp, e, List.map_append, List.map_cons, keep_app, map_ne hkA hA, show v :: B.map (·.2) = [v] ++ B.map (·.2) from rfl, keep_app, map_ne hkB hB]
  simp [keepL, keep_set hv hx]
theorem was_is (hI : InvB b) : wasL (liveV b) x = isV x.id b.live := by
  unfold wasL
  have h := live_find hI x.id
  rw [get_is _ _ hI.ok.sorted] at h
  cases hi : isV x.id b.live with
  | false =>
    rw [hi] at h
    simp only [cond_false] at h
    rw [List.find?_eq_none] at h
    rw [List.any_eq_false]
    intro y hy
    have := h y hy
    simpa using this
  | true =>
    rw [hi] at h
    simp only [cond_true] at h
    have := List.find?_some h
    have hm := List.mem_of_find?_eq_some h
    rw [List.any_eq_true]
    exact ⟨_, hm, by simpa using this⟩
theorem pos_end (hI : InvB b) {k : Int} (hk : b.index < k) : posV k b.live = b.live.length := by
  unfold posV
  rw [List.countP_eq_length]
  intro p hp
  have : @LE.le Int _ p.1 b.index := (hI.key p hp).2.2.1
  unfold ltK
  simp
  omega
theorem not_new (hI : InvB b) {k : Int} (hk : b.index < k) : isV k b.live = false := by
  unfold isV
  rw [pos_end hI hk, List.getElem?_eq_none (by omega)]
/-- what may come next -/
def Nx (b : BookV) (x : CallV) : Prop := (1 ≤ x.state ∧ x.state ≤ 6) ∧ (livesV x = true → isV x.id b.live = true ∨ x.id = b.index + 1)
theorem ins_end {ps : List PairV} {k : Int} {v : CallV} (h : posV k ps = ps.length) : insAt ps (posV k ps) (k, v) = ps ++ [(k, v)] := by
  unfold insAt
  rw [h]
  simp
theorem next_toR (hI : InvB b) (h0 : (b.room == 0) = false) (hx : Nx b x) : nextR (toR b) x = (toR (nextV b x).1, (nextV b x).2.1, (nextV b x).2.2) := by
  obtain ⟨hc, hr⟩ := hI.live h0
  have hne : (b.room != 0) = true := by rw [bne, h0]; rfl
  unfold nextR nextV
  show (bif decide (1073741824 ≤ b.index) then _ else _) = _
  cases h1 : decide (1073741824 ≤ b.index) with
  | true => rfl
  | false =>
    simp only [cond_false]
    cases h2 : livesV x with
    | false =>
      have h3 : decide (3 < x.state) = true := by
        have : ¬ (1 ≤ x.state ∧ x.state ≤ 3) := fun h => by rw [(lives_iff x).2 h] at h2; cases h2
        have := hx.1
        exact decide_eq_true (by omega)
      have h4 : decide (x.state < 4) = false := by have := of_decide_eq_true h3; exact decide_eq_false (by omega)
      rw [h3]
      simp only [cond_true, Bool.not_false]
      show ((⟨b.conf, b.room != 0, b.index + 1, keepL (liveV b) x, (bif decide (b.conf.calls < ((([] : List CallV) ++ b.done ++ [x]).length : Int)) then (([] : List CallV) ++ b.done ++ [x]).drop 1 else ([] : List CallV) ++ b.done ++ [x]), b.modes⟩ : RBook), _, _) = _
      rw [← live_without hI h4, ← last_one hI.ok.done.1 x]
      rfl
    | true =>
      have hs := (lives_iff x).1 h2
      have h3 : decide (3 < x.state) = false := decide_eq_false (by omega)
      have h4 : decide (x.state < 4) = true := decide_eq_true (by omega)
      rw [h3]
      simp only [cond_false, Bool.not_true]
      show (bif !(wasL (liveV b) x) then (bif decide (b.conf.calls ≤ ((keepL (liveV b) x).length : Int)) then _ else _) else _) = _
      rw [was_is hI]
      cases h5 : isV x.id b.live with
      | true =>
        rw [with_is h5]
        simp only [Bool.not_true, cond_false]
        show ((⟨b.conf, b.room != 0, b.index + 1, keepL (liveV b) x, b.done, b.modes⟩ : RBook), _, _) = _
        rw [← live_set hI h4 h5]
        rfl
      | false =>
        have hid : x.id = b.index + 1 := by
          rcases hx.2 h2 with h | h
          · rw [h5] at h; cases h
          · exact h
        have hk : keepL (liveV b) x = liveV b := map_ne (fun p hp => (hI.key p hp).1) (is_false_ne hI.ok.sorted h5)
        have hl : ((liveV b).length : Int) = b.live.length := by unfold liveV; simp
        rw [hk, hl]
        simp only [Bool.not_false, cond_true]
        have hle := hI.ok.live.1
        cases h6 : ((b.live.length : Int) == b.room) with
        | true =>
          have h6' : (b.live.length : Int) = b.room := by simpa using h6
          rw [with_full h5 h6, decide_eq_true (by omega)]
          rfl
        | false =>
          have h6' : ¬ (b.live.length : Int) = b.room := by simpa using h6
          rw [with_new h5 h6, decide_eq_false (by omega), ins_end (pos_end hI (by omega))]
          simp only [cond_false, Bool.not_true]
          show ((⟨b.conf, b.room != 0, b.index + 1, keepL (liveV b) x ++ [x], b.done, b.modes⟩ : RBook), _, _) = _
          rw [hk]
          unfold toR liveV
          simp
theorem inv_next (hI : InvB b) (h0 : (b.room == 0) = false) (hx : Nx b x) : InvB (nextV b x).1 := by
  obtain ⟨hc, hr⟩ := hI.live h0
  have hci := (cfg_in (c := b.conf) (by rw [hc]; rfl)).1
  unfold nextV
  cases h1 : decide (1073741824 ≤ b.index) with
  | true => exact inv_zero
  | false =>
    have h1' := of_decide_eq_false h1
    have hix := hI.ok.index
    simp only [cond_false]
    cases h2 : livesV x with
    | false =>
      refine ⟨⟨sorted_without hI.ok.sorted _, ⟨?_, hI.ok.live.2⟩, ⟨last_len (by omega) _, hI.ok.done.2⟩, hI.ok.modes, ?_⟩, ?_, .inr ⟨hc, hr⟩, ?_, hI.mode⟩
      · have h3 := without_len b.live x.id
        have h4 := hI.ok.live.1
        show ((withoutV x.id b.live).length : Int) ≤ b.room
        omega
      · show 0 ≤ b.index + 1 ∧ b.index + 1 ≤ 1073741824
        omega
      · intro p hp
        have h := hI.key p (without_sub _ _ p hp)
        have h3 : @LE.le Int _ p.1 b.index := h.2.2.1
        refine ⟨h.1, h.2.1, ?_, h.2.2.2⟩
        show @LE.le Int _ p.1 (b.index + 1)
        omega
      · intro y hy
        have : y ∈ b.done ++ [x] := List.mem_of_mem_drop hy
        rcases List.mem_append.1 this with h | h
        · exact hI.done y h
        · rw [List.mem_singleton.1 h]; exact h2
    | true =>
      simp only [Bool.not_true, cond_false]
      cases h5 : isV x.id b.live with
      | true =>
        rw [with_is h5]
        refine ⟨⟨sorted_set hI.ok.sorted x h5, ⟨by show ((b.live.set _ _).length : Int) ≤ _; rw [List.length_set]; exact hI.ok.live.1, hI.ok.live.2⟩, hI.ok.done, hI.ok.modes, ?_⟩, ?_, .inr ⟨hc, hr⟩, hI.done, hI.mode⟩
        · show 0 ≤ b.index + 1 ∧ b.index + 1 ≤ 1073741824
          omega
        · intro p hp
          rcases List.mem_or_eq_of_mem_set hp with h | rfl
          · have h := hI.key p h
            have h3 : @LE.le Int _ p.1 b.index := h.2.2.1
            refine ⟨h.1, h.2.1, ?_, h.2.2.2⟩
            show @LE.le Int _ p.1 (b.index + 1)
            omega
          · obtain ⟨A, v, B, e, _, _, _⟩ := is_split hI.ok.sorted h5
            have := hI.key (x.id, v) (by rw [e]; simp)
            refine ⟨rfl, this.2.1, ?_, h2⟩
            show x.id ≤ b.index + 1
            have h3 : x.id ≤ b.index := this.2.2.1
            omega
      | false =>
        have hid : x.id = b.index + 1 := by
          rcases hx.2 h2 with h | h
          · rw [h5] at h; cases h
          · exact h
        cases h6 : ((b.live.length : Int) == b.room) with
        | true => rw [with_full h5 h6]; exact inv_zero
        | false =>
          have h6' : ¬ (b.live.length : Int) = b.room := by simpa using h6
          have hle := hI.ok.live.1
          rw [with_new h5 h6]
          refine ⟨⟨sorted_ins hI.ok.sorted x h5, ⟨?_, hI.ok.live.2⟩, hI.ok.done, hI.ok.modes, ?_⟩, ?_, .inr ⟨hc, hr⟩, hI.done, hI.mode⟩
          · show ((insAt b.live (posV x.id b.live) (x.id, x)).length : Int) ≤ b.room
            rw [ins_end (pos_end hI (by omega))]
            simp
            omega
          · show 0 ≤ b.index + 1 ∧ b.index + 1 ≤ 1073741824
            omega
          · show ∀ p ∈ insAt b.live (posV x.id b.live) (x.id, x), _
            rw [ins_end (pos_end hI (by omega))]
            intro p hp
            rcases List.mem_append.1 hp with h | h
            · have h := hI.key p h
              have h3 : @LE.le Int _ p.1 b.index := h.2.2.1
              refine ⟨h.1, h.2.1, ?_, h.2.2.2⟩
              show @LE.le Int _ p.1 (b.index + 1)
              omega
            · rw [List.mem_singleton.1 h]
              refine ⟨rfl, ?_, ?_, h2⟩
              · show 1 ≤ x.id
                omega
              · show x.id ≤ b.index + 1
                omega
end
end Go.Proofs.Ytnanihffljpdbaa.Bk
