/- Plain laws of layer 8: a call goes on by its rows alone. -/
import Derived.Test.YtfhhfmkfkoemjaaProg
import Derived.Below
import Derived.WalkKit
import Derived.KernelRfl
import Derived.RowKit3
import Derived.Deep.LoopGhost
import Derived.Deep.QuietTactic
import Derived.BigQuiet
import Derived.WideLaws
import Derived.Deep.DeepCutAuto
import Derived.Deep.CutBlock
import Derived.Lib.Hide
import Derived.Laws.BitsLemmas
import Derived.Laws.Bits64
import Derived.Laws.BitsAllLaws
import Derived.IntWalk
import Derived.Outline
import Derived.WalkSpells
import Derived.Test.YtfhhfmkfkoemjaaMem
import Derived.Test.YtfhhfmkfkoemjaaCd
import Derived.Test.YtfhhfmkfkoemjaaCp
namespace Go.Proofs.Ytfhhfmkfkoemjaa.Ca
set_option linter.unusedVariables false
set_option linter.unusedSimpArgs false
open Go.RowKit Go.Proofs.Ytfhhfmkfkoemjaa.Mem Go.Proofs.Ytfhhfmkfkoemjaa.Si

theorem same_refl (X : CallV) : sameV X X = true := by rw [sameV_iff]
/-- a call that came of x -/
structure Good (c : Cfg) (x y : CallV) : Prop where
  ok : checkV c = 0
  id : y.id = 1
  owner : y.owner = 2
  born : y.born = 3
  kind : y.kind = x.kind
  dst : y.dst = x.dst
  st1 : 1 ≤ y.state
  st6 : y.state ≤ 6
  flr : 1 ≤ c.floors
  in3 : y.kind = 3 → 1 ≤ y.dst ∧ y.dst ≤ c.floors
  out3 : y.kind ≠ 3 → 1 ≤ y.src ∧ y.src ≤ c.floors
  trip : y.kind = 4 → 1 ≤ y.dst ∧ y.dst ≤ c.floors
  ride : y.state = 3 → y.kind = 4
  car2 : y.state = 2 ∨ y.state = 3 → 1 ≤ y.car ∧ y.car ≤ c.cars
  car1 : y.state = 1 → y.kind ≠ 3 → y.car = 0
theorem good_new {c : Cfg} {x : CallV} (ha : Asked c x) : Good c x ⟨1, x.kind, x.src, x.dst, x.car, 1, 2, 3⟩ := by
  have hk := ha.kinds
  refine ⟨ha.ok, rfl, rfl, rfl, rfl, rfl, by simp, by simp, by omega, fun h => ?_, fun h => ?_, fun h => ?_, fun h => ?_, fun h => ?_, fun _ h => ?_⟩ <;> simp only at * <;> omega
theorem lives_iff (y : CallV) : livesV y = true ↔ 1 ≤ y.state ∧ y.state ≤ 3 := by unfold livesV; simp
/-- what a deed makes of a call: nothing, or one that it may go on to -/
def Stp (c : Cfg) (x y z : CallV) (f : Int) : Prop := (f ≠ 0 ∧ z = ⟨0, 0, 0, 0, 0, 0, 0, 0⟩) ∨ (f = 0 ∧ livesV y = true ∧ mayV c y z = true ∧ Good c x z)
theorem may_of_one {c : Cfg} {a b : CallV} (h : checkV c = 0) (k : Nat) (hk : k < 4) (h1 : oneV a b k = true) : mayV c a b = true := may_one (by simp [h]) k hk h1
theorem may_of_left {c : Cfg} {a b : CallV} (h : checkV c = 0) (h1 : leftV c a b = true) : mayV c a b = true := by
  unfold mayV; simp [h, h1]
theorem step_assign {c : Cfg} {x y : CallV} (hg : Good c x y) (n : Int) : Stp c x y (assignV c y n).1 (assignV c y n).2 := by
  by_cases h : (assignV c y n).2 = 0
  · obtain ⟨e, h1, h2, h3, h4⟩ := assign_ok hg.ok h
    refine .inr ⟨h, (lives_iff y).2 (by omega), ?_, ?_⟩
    · unfold mayV
      have hc : (assignV c y n).1.car = n := by rw [e]
      rw [hc, same_refl, h]
      simp [hg.ok]
    · rw [e]
      have a := hg.in3; have b := hg.out3; have d := hg.trip
      exact ⟨hg.ok, hg.id, hg.owner, hg.born, hg.kind, hg.dst, by simp, by simp, hg.flr, a, b, d, fun h => by simp at h, fun _ => ⟨h2, h3⟩, fun h => by simp at h⟩
  · refine .inl ⟨h, ?_⟩
    unfold assignV at h ⊢
    split
    · rfl
    · split
      · rfl
      · rename_i h1 h2; rw [if_neg h1, if_neg h2] at h; exact absurd rfl h
theorem step_leave {c : Cfg} {x y : CallV} (hg : Good c x y) (n : Int) : Stp c x y (leaveV c y n).1 (leaveV c y n).2 := by
  have a := hg.in3; have b := hg.out3; have d := hg.trip
  have hf := floorV_iff hg.ok
  have f1 : floorV c 1 = true := (hf 1).2 ⟨by omega, hg.flr⟩
  have gfree : ∀ s : Int, 1 ≤ s → s ≤ c.floors → Good c x (freeV { y with src := s } 1) ∧ (y.kind ≠ 3 → freeV { y with src := s } 1 = { y with src := s, state := 1, car := 0 }) := fun s hs1 hs2 => by
    unfold freeV
    by_cases k3 : y.kind = 3
    · rw [if_neg (by simp [k3])]
      exact ⟨⟨hg.ok, hg.id, hg.owner, hg.born, hg.kind, hg.dst, by simp, by simp, hg.flr, a, fun h => absurd k3 h, d, fun h => by simp at h, fun h => by simp at h, fun _ h => absurd k3 h⟩, fun h => absurd k3 h⟩
    · rw [if_pos (by simp [k3])]
      exact ⟨⟨hg.ok, hg.id, hg.owner, hg.born, hg.kind, hg.dst, by simp, by simp, hg.flr, a, fun _ => ⟨hs1, hs2⟩, d, fun h => by simp at h, fun h => by simp at h, fun _ _ => rfl⟩, fun _ => rfl⟩
  by_cases s2 : y.state = 2
  · by_cases hn : floorV c n = true
    · have e : ∀ m, floorV c m = true → leaveV c y m = (freeV y 1, 0) := fun m hm => by
        unfold leaveV
        rw [if_neg (by simp [s2]), if_neg (by simp [hm]), if_pos (by simp [s2])]
      rw [e n hn]
      refine .inr ⟨rfl, (lives_iff y).2 (by omega), may_of_left hg.ok ?_, ?_⟩
      · unfold leftV
        rw [if_neg (by simp [s2]), e 1 f1]
        simp [same_refl]
      · by_cases k3 : y.kind = 3
        · unfold freeV
          rw [if_neg (by simp [k3])]
          exact ⟨hg.ok, hg.id, hg.owner, hg.born, hg.kind, hg.dst, by simp, by simp, hg.flr, a, fun h => absurd k3 h, d, fun h => by simp at h, fun h => by simp at h, fun _ h => absurd k3 h⟩
        · have hs := b k3
          have := (gfree y.src hs.1 hs.2).1
          exact this
    · refine .inl ?_
      unfold leaveV
      rw [if_neg (by simp [s2]), if_pos (by simpa using hn)]
      exact ⟨by simp, rfl⟩
  · by_cases s3 : y.state = 3
    · have k4 := hg.ride s3
      have k3 : y.kind ≠ 3 := by omega
      by_cases hn : floorV c n = true
      · by_cases hd : y.dst = n
        · have e : leaveV c y n = ({ y with state := 4 }, 0) := by
            unfold leaveV
            rw [if_neg (by simp [s3]), if_neg (by simp [hn]), if_neg (by simp [s2]), if_pos (by simp [hd])]
          rw [e]
          refine .inr ⟨rfl, (lives_iff y).2 (by omega), may_of_one hg.ok 1 (by omega) ?_, ?_⟩
          · simp [oneV, serveV, toV, s3, same_refl]
          · exact ⟨hg.ok, hg.id, hg.owner, hg.born, hg.kind, hg.dst, by simp, by simp, hg.flr, a, b, d, fun h => by simp at h, fun h => by simp at h, fun h => by simp at h⟩
        · have e : ∀ m, floorV c m = true → ¬ y.dst = m → leaveV c y m = (freeV { y with src := m } 1, 0) := fun m hm hdm => by
            unfold leaveV
            rw [if_neg (by simp [s3]), if_neg (by simp [hm]), if_neg (by simp [s2]), if_neg (by simpa using hdm)]
          have hnf := (hf n).1 hn
          have g := gfree n hnf.1 hnf.2
          rw [e n hn hd]
          refine .inr ⟨rfl, (lives_iff y).2 (by omega), may_of_left hg.ok ?_, g.1⟩
          unfold leftV
          have hsrc : (freeV { y with src := n } 1).src = n := by rw [g.2 k3]
          rw [if_pos (by simp [s3]), hsrc, e n hn hd]
          simp [same_refl]
      · refine .inl ?_
        unfold leaveV
        rw [if_neg (by simp [s3]), if_pos (by simpa using hn)]
        exact ⟨by simp, rfl⟩
    · refine .inl ?_
      unfold leaveV
      rw [if_pos (by simp [s2, s3])]
      exact ⟨by simp, rfl⟩
theorem step_to {c : Cfg} {x y : CallV} (hg : Good c x y) (s : Int) (b : Bool) (k : Nat) (hk : k < 4) (hs : 3 ≤ s ∧ s ≤ 6) (h3 : b = true → s = 3 → y.kind = 4 ∧ y.state = 2) (hl : b = true → livesV y = true) (h1 : b = true → oneV y { y with state := s } k = true) : Stp c x y (toV y s b).1 (toV y s b).2 := by
  cases b
  · exact .inl ⟨by simp [toV], rfl⟩
  · have e : toV y s true = ({ y with state := s }, 0) := by simp [toV]
    rw [e]
    refine .inr ⟨rfl, hl rfl, may_of_one hg.ok k hk (h1 rfl), ?_⟩
    have a := hg.in3; have b := hg.out3; have d := hg.trip
    exact ⟨hg.ok, hg.id, hg.owner, hg.born, hg.kind, hg.dst, by simp only; omega, by simp only; omega, hg.flr, a, b, d, fun h => (h3 rfl (by simpa using h)).1, fun h => hg.car2 (.inl (h3 rfl (by simp only at h; omega)).2), fun h => by simp only at h; omega⟩
theorem step_board {c : Cfg} {x y : CallV} (hg : Good c x y) : Stp c x y (boardV y).1 (boardV y).2 :=
  step_to hg 3 _ 0 (by omega) (by omega) (fun h _ => by simp at h; exact ⟨h.2, h.1⟩) (fun h => (lives_iff y).2 (by simp at h; omega)) (fun h => by simp at h; simp [oneV, boardV, toV, h, same_refl])
theorem step_serve {c : Cfg} {x y : CallV} (hg : Good c x y) : Stp c x y (serveV y).1 (serveV y).2 :=
  step_to hg 4 _ 1 (by omega) (by omega) (fun _ h => by omega) (fun h => (lives_iff y).2 (by simp at h; omega)) (fun h => by simp only [oneV, serveV, h]; simp [toV, same_refl])
theorem step_cancel {c : Cfg} {x y : CallV} (hg : Good c x y) : Stp c x y (cancelV y).1 (cancelV y).2 :=
  step_to hg 5 _ 2 (by omega) (by omega) (fun _ h => by omega) (fun h => (lives_iff y).2 (by simp at h; omega)) (fun h => by simp only [oneV, cancelV, h]; simp [toV, same_refl])
theorem step_expire {c : Cfg} {x y : CallV} (hg : Good c x y) : Stp c x y (expireV y).1 (expireV y).2 := by
  by_cases s1 : y.state = 1
  · have e : expireV y = (freeV y 6, 0) := by simp [expireV, s1]
    rw [e]
    have a := hg.in3; have b := hg.out3; have d := hg.trip
    refine .inr ⟨rfl, (lives_iff y).2 (by omega), may_of_one hg.ok 3 (by omega) (by simp [oneV, e, same_refl]), ?_⟩
    unfold freeV
    split <;> exact ⟨hg.ok, hg.id, hg.owner, hg.born, hg.kind, hg.dst, by simp, by simp, hg.flr, a, b, d, fun h => by simp at h, fun h => by simp at h, fun h => by simp at h⟩
  · exact .inl ⟨by simp [expireV, s1], by simp [expireV, s1, noCall]⟩
/-- the tests of the statement, on one that came of x, by its state -/
def Tests (c : Cfg) (z : CallV) : Prop :=
  ((z.state == 1) = true ∧ (z.state == 2) = false ∧ (z.state == 3) = false ∧ (z.state == 4) = false ∧ (z.state == 5) = false ∧ (z.state == 6) = false ∧ livesV z = true ∧ (z.kind != 3) = true ∧ (z.car != 0) = false) ∨
  ((z.state == 1) = true ∧ (z.state == 2) = false ∧ (z.state == 3) = false ∧ (z.state == 4) = false ∧ (z.state == 5) = false ∧ (z.state == 6) = false ∧ livesV z = true ∧ (z.kind != 3) = false ∧ True) ∨
  ((z.state == 1) = false ∧ (z.state == 2) = true ∧ (z.state == 3) = false ∧ (z.state == 4) = false ∧ (z.state == 5) = false ∧ (z.state == 6) = false ∧ livesV z = true ∧ decide (z.car < 1) = false ∧ decide (c.cars < z.car) = false) ∨
  ((z.state == 1) = false ∧ (z.state == 2) = false ∧ (z.state == 3) = true ∧ (z.state == 4) = false ∧ (z.state == 5) = false ∧ (z.state == 6) = false ∧ livesV z = true ∧ decide (z.car < 1) = false ∧ decide (c.cars < z.car) = false) ∨
  ((z.state == 1) = false ∧ (z.state == 2) = false ∧ (z.state == 3) = false ∧ (z.state == 4) = true ∧ (z.state == 5) = false ∧ (z.state == 6) = false ∧ livesV z = false ∧ True ∧ True) ∨
  ((z.state == 1) = false ∧ (z.state == 2) = false ∧ (z.state == 3) = false ∧ (z.state == 4) = false ∧ (z.state == 5) = true ∧ (z.state == 6) = false ∧ livesV z = false ∧ True ∧ True) ∨
  ((z.state == 1) = false ∧ (z.state == 2) = false ∧ (z.state == 3) = false ∧ (z.state == 4) = false ∧ (z.state == 5) = false ∧ (z.state == 6) = true ∧ livesV z = false ∧ True ∧ True)
theorem tests_of {c : Cfg} {x z : CallV} (hg : Good c x z) : Tests c z := by
  have hs : z.state = 1 ∨ z.state = 2 ∨ z.state = 3 ∨ z.state = 4 ∨ z.state = 5 ∨ z.state = 6 := by have := hg.st1; have := hg.st6; omega
  unfold Tests
  have h2 := hg.car2
  have h1 := hg.car1
  rcases hs with e | e | e | e | e | e
  · by_cases k : z.kind = 3
    · simp [e, k, livesV]
    · have := h1 e k; simp [e, k, livesV, this]
  · have := h2 (.inl e); simp [e, livesV]; omega
  · have := h2 (.inr e); simp [e, livesV]; omega
  · simp [e, livesV]
  · simp [e, livesV]
  · simp [e, livesV]
theorem goal_of {c : Cfg} {x z : CallV} (hg : Good c x z) : decide (goalV z < 1) = false ∧ decide (c.floors < goalV z) = false := by
  have a := hg.in3; have b := hg.out3; have d := hg.trip; have r := hg.ride
  unfold goalV
  by_cases k : z.kind = 3
  · have := a k; simp [k]; omega
  · have hb := b k
    by_cases s : z.state = 3
    · have := d (r s); simp [s]; omega
    · simp [k, s]; omega
end Go.Proofs.Ytfhhfmkfkoemjaa.Ca
