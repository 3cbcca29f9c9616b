/- Layers 7, 8: the references in the words of the program. -/
import Derived.Test.YtnanihffljpdbaaProg
import Derived.Below
import Derived.WalkKit
import Derived.KernelRfl
import Derived.RowKit3
import Derived.Deep.LoopGhost
import Derived.Deep.QuietTactic
import Derived.BigQuiet
import Derived.WideLaws
import Derived.Deep.DeepCutAuto
import Derived.Deep.CutBlock
import Derived.Lib.Hide
import Derived.Laws.BitsLemmas
import Derived.Laws.Bits64
import Derived.Laws.BitsAllLaws
import Derived.IntWalk
import Derived.Outline
import Derived.WalkSpells
import Derived.Test.YtnanihffljpdbaaGA
import Derived.Test.YtnanihffljpdbaaBk1
namespace Go.Proofs.Ytnanihffljpdbaa.Bk
open Go.RowKit Go.Proofs.Ytnanihffljpdbaa.Mem Go.Proofs.Ytnanihffljpdbaa.Reg Go.Proofs.Ytnanihffljpdbaa.Wk Go.Proofs.Ytnanihffljpdbaa.Si Go.Proofs.Ytnanihffljpdbaa.Ca Go.Proofs.Ytnanihffljpdbaa.Sc6
set_option linter.unusedVariables false
set_option linter.unusedSimpArgs false

def loL : List Int := [2, 1, 1, 1, 1, 1, 1, 1, 1, 1, 1, 1, 1, 0, 0, 1, 0]
def hiL : List Int := [32, 4, 8, 64, 8, 64, 65536, 1024, 1024, 65536, 16, 16, 64, 8, 1048576, 4, 4]
def cfL (c : Cfg) : List Int := [c.floors, c.cars, c.seats, c.calls, c.lines, c.keys, c.window, c.burst, c.rate, c.idle, c.inn, c.out, c.feed, c.retries, c.life, c.door, c.holds]
theorem cell_of (l : List Int) {i : Nat} (h : i < l.length) : (l.map (Value.int .i64))[i]? = some (.int .i64 (l.getD i 0)) := by
  simp [List.getElem?_eq_getElem, h, List.getD_eq_getElem?_getD]
theorem cfg_iff (c : Cfg) : cfgOk c = true ↔ ∀ k, k < 17 → loL.getD k 0 ≤ (cfL c).getD k 0 ∧ (cfL c).getD k 0 ≤ hiL.getD k 0 := by
  constructor
  · intro h k hk
    unfold cfgOk at h
    simp at h
    have : k = 0 ∨ k = 1 ∨ k = 2 ∨ k = 3 ∨ k = 4 ∨ k = 5 ∨ k = 6 ∨ k = 7 ∨ k = 8 ∨ k = 9 ∨ k = 10 ∨ k = 11 ∨ k = 12 ∨ k = 13 ∨ k = 14 ∨ k = 15 ∨ k = 16 := by omega
    rcases this with rfl | rfl | rfl | rfl | rfl | rfl | rfl | rfl | rfl | rfl | rfl | rfl | rfl | rfl | rfl | rfl | rfl <;> simp [loL, hiL, cfL] <;> omega
  · intro h
    have g := fun k (hk : k < 17) => h k hk
    have g0 := g 0 (by decide)
    have g1 := g 1 (by decide)
    have g2 := g 2 (by decide)
    have g3 := g 3 (by decide)
    have g4 := g 4 (by decide)
    have g5 := g 5 (by decide)
    have g6 := g 6 (by decide)
    have g7 := g 7 (by decide)
    have g8 := g 8 (by decide)
    have g9 := g 9 (by decide)
    have g10 := g 10 (by decide)
    have g11 := g 11 (by decide)
    have g12 := g 12 (by decide)
    have g13 := g 13 (by decide)
    have g14 := g 14 (by decide)
    have g15 := g 15 (by decide)
    have g16 := g 16 (by decide)
    simp [loL, hiL, cfL] at g0 g1 g2 g3 g4 g5 g6 g7 g8 g9 g10 g11 g12 g13 g14 g15 g16
    unfold cfgOk
    simp
    omega
theorem check_ok (c : Cfg) : (checkV c == 0) = cfgOk c := by
  cases h : cfgOk c with
  | true => rw [checkV_good h]; rfl
  | false => rw [checkV_bad h]; rfl
theorem good_no {c : Cfg} {i : Nat} (hi : i < 17) (h : ((decide ((cfL c).getD i 0 < loL.getD i 0)) || (decide (hiL.getD i 0 < (cfL c).getD i 0))) = true) : false = (checkV c == 0) := by
  rw [check_ok]
  cases hc : cfgOk c with
  | false => rfl
  | true =>
    have := (cfg_iff c).1 hc i hi
    simp at h
    simp at this
    omega
theorem good_yes {c : Cfg} (h : ∀ k, k < 17 → loL.getD k 0 ≤ (cfL c).getD k 0 ∧ (cfL c).getD k 0 ≤ hiL.getD k 0) : true = (checkV c == 0) := by
  rw [check_ok, (cfg_iff c).2 h]
theorem good_step {c : Cfg} {i : Nat} (h : ∀ k, k < i → loL.getD k 0 ≤ (cfL c).getD k 0 ∧ (cfL c).getD k 0 ≤ hiL.getD k 0) (q1 : decide ((cfL c).getD i 0 < loL.getD i 0) = false) (q2 : decide (hiL.getD i 0 < (cfL c).getD i 0) = false) :
    ∀ k, k < i + 1 → loL.getD k 0 ≤ (cfL c).getD k 0 ∧ (cfL c).getD k 0 ≤ hiL.getD k 0 := fun k hk => by
  rcases Nat.lt_or_ge k i with h1 | h1
  · exact h k h1
  · obtain rfl : k = i := by omega
    have := of_decide_eq_false q1
    have := of_decide_eq_false q2
    omega
def floR (c : Cfg) (n : Int) : Bool := decide (0 < n) && decide (n ≤ c.floors)
def isR (c : Cfg) (x : CallV) : Bool :=
  bif x.kind == 1 then ((decide (0 < x.src) && decide (x.src < c.floors)) && (x.dst == 0)) && (x.car == 0)
  else bif x.kind == 2 then ((decide (1 < x.src) && decide (x.src ≤ c.floors)) && (x.dst == 0)) && (x.car == 0)
  else bif x.kind == 3 then (((x.src == 0) && floR c x.dst) && decide (0 < x.car)) && decide (x.car ≤ c.cars)
  else bif x.kind == 4 then ((floR c x.src && floR c x.dst) && (x.src != x.dst)) && (x.car == 0)
  else false
def chkR (c : Cfg) (x : CallV) : Int := bif !(checkV c == 0) then 3 else bif (((x.id != 0) || (x.state != 0)) || (x.owner != 0)) || (x.born != 0) then 1 else bif !(isR c x) then 1 else 0
theorem is_ask {c : Cfg} (x : CallV) (h : checkV c = 0) : isR c x = askV c x := by
  unfold isR askV
  rcases Bool.eq_false_or_eq_true (x.kind == 1) with k1 | k1 <;> simp only [k1, cond_true, cond_false]
  · have k1' : x.kind = 1 := by simpa using k1
    rw [if_pos k1', Bool.eq_iff_iff]
    simp [floorV, h]
    omega
  have k1' : ¬ x.kind = 1 := by simpa using k1
  rw [if_neg k1']
  rcases Bool.eq_false_or_eq_true (x.kind == 2) with k1 | k1 <;> simp only [k1, cond_true, cond_false]
  · have k1' : x.kind = 2 := by simpa using k1
    rw [if_pos k1', Bool.eq_iff_iff]
    simp [floorV, h]
    omega
  have k1' : ¬ x.kind = 2 := by simpa using k1
  rw [if_neg k1']
  rcases Bool.eq_false_or_eq_true (x.kind == 3) with k1 | k1 <;> simp only [k1, cond_true, cond_false]
  · have k1' : x.kind = 3 := by simpa using k1
    rw [if_pos k1', Bool.eq_iff_iff]
    simp [floorV, carV, floR, h]
    omega
  have k1' : ¬ x.kind = 3 := by simpa using k1
  rw [if_neg k1']
  rcases Bool.eq_false_or_eq_true (x.kind == 4) with k1 | k1 <;> simp only [k1, cond_true, cond_false]
  · have k1' : x.kind = 4 := by simpa using k1
    rw [if_pos k1', Bool.eq_iff_iff]
    simp [floorV, floR, h]
    omega
  have k1' : ¬ x.kind = 4 := by simpa using k1
  rw [if_neg k1']
theorem check_all (c : Cfg) : checkV c = 0 ∨ checkV c = 3 := by
  unfold checkV
  split <;> simp
theorem chk_is (c : Cfg) (x : CallV) : chkR c x = checkCallV c x := by
  unfold chkR checkCallV
  rcases check_all c with h | h
  · rw [is_ask x h, h]
    simp only [show ((0 : Int) == 0) = true from rfl, Bool.not_true, cond_false, show ((0 : Int) != 0) = false from rfl]
    cases ((((x.id != 0) || (x.state != 0)) || (x.owner != 0)) || (x.born != 0)) <;> cases askV c x <;> simp
  · rw [h]; rfl
def endsV (x : CallV) (how : Int) : CallV × Int :=
  bif how == 1 then (bif (x.state == 2) && (x.kind == 4) then (⟨x.id, x.kind, x.src, x.dst, x.car, 3, x.owner, x.born⟩, 0) else (zeroC, 7))
  else bif how == 2 then (bif (x.state == 3) || ((x.state == 2) && !(x.kind == 4)) then (⟨x.id, x.kind, x.src, x.dst, x.car, 4, x.owner, x.born⟩, 0) else (zeroC, 7))
  else bif how == 3 then (bif (x.state == 1) || (x.state == 2) then (⟨x.id, x.kind, x.src, x.dst, x.car, 5, x.owner, x.born⟩, 0) else (zeroC, 7))
  else bif how == 4 then (bif x.state == 1 then (freeV x 6, 0) else (zeroC, 7))
  else (zeroC, 7)
def asgR (c : Cfg) (x : CallV) (n : Int) : CallV × Int :=
  bif x.state != 1 then (zeroC, 7)
  else bif (((!(checkV c == 0)) || decide (n < 1)) || decide (c.cars < n)) || ((x.kind == 3) && (n != x.car)) then (zeroC, 1)
  else (⟨x.id, x.kind, x.src, x.dst, n, 2, x.owner, x.born⟩, 0)
theorem asg_is (c : Cfg) (x : CallV) (n : Int) : asgR c x n = assignV c x n := by
  unfold asgR assignV
  have e : ((((!(checkV c == 0)) || decide (n < 1)) || decide (c.cars < n)) || ((x.kind == 3) && (n != x.car))) = ((!(carV c n)) || ((x.kind == 3) && (x.car != n))) := by
    have e2 : (n != x.car) = (x.car != n) := by rw [Bool.eq_iff_iff]; simp; omega
    rw [e2]
    congr 1
    rw [Bool.eq_iff_iff]
    unfold carV
    rcases check_all c with h | h <;> rw [h] <;> simp <;> omega
  rw [e]
  rfl
def lvR (c : Cfg) (x : CallV) (n : Int) : CallV × Int :=
  bif (x.state != 2) && (x.state != 3) then (zeroC, 7)
  else bif (!(checkV c == 0)) || !(floR c n) then (zeroC, 1)
  else bif x.state == 3 then (bif x.dst == n then (⟨x.id, x.kind, x.src, x.dst, x.car, 4, x.owner, x.born⟩, 0) else (freeV ⟨x.id, x.kind, n, x.dst, x.car, x.state, x.owner, x.born⟩ 1, 0))
  else (freeV x 1, 0)
theorem lv_is (c : Cfg) (x : CallV) (n : Int) : lvR c x n = leaveV c x n := by
  unfold lvR leaveV
  have e : ((!(checkV c == 0)) || !(floR c n)) = !(floorV c n) := by
    rw [Bool.eq_iff_iff]
    unfold floorV floR
    rcases check_all c with h | h <;> rw [h] <;> simp <;> omega
  rw [e]
  by_cases h2 : x.state = 2
  · rw [h2]; rfl
  · have h2' : (x.state == 2) = false := by simpa using h2
    by_cases h3 : x.state = 3
    · rw [h3]; rfl
    · have h3' : (x.state == 3) = false := by simpa using h3
      simp only [bne, h2', h3', Bool.not_false, Bool.and_true, cond_true]
      rfl
theorem ends_1 (a : CallV) : endsV a 1 = boardV a := rfl
theorem ends_2 (a : CallV) : endsV a 2 = serveV a := rfl
theorem ends_3 (a : CallV) : endsV a 3 = cancelV a := rfl
theorem ends_4 (a : CallV) : endsV a 4 = expireV a := by
  unfold endsV expireV
  simp only [show ((4 : Int) == 1) = false from rfl, show ((4 : Int) == 2) = false from rfl, show ((4 : Int) == 3) = false from rfl, show ((4 : Int) == 4) = true from rfl, cond_true, cond_false, bne]
  cases (a.state == 1) <;> rfl
theorem may_good {c : Cfg} (a b : CallV) (h : checkV c = 0) : mayV c a b = ((goneB (assignV c a b.car) b) || (goneB (boardV a) b || (goneB (serveV a) b || (goneB (cancelV a) b || (goneB (expireV a) b || leftV c a b))))) := by
  unfold mayV
  rw [h]
  simp only [show ((0 : Int) != 0) = false from rfl, cond_false]
  cases goneB (assignV c a b.car) b <;> cases goneB (boardV a) b <;> cases goneB (serveV a) b <;> cases goneB (cancelV a) b <;> cases goneB (expireV a) b <;> rfl
theorem may_bad {c : Cfg} (a b : CallV) (h : (checkV c == 0) = false) : mayV c a b = false := by
  unfold mayV
  rw [show (checkV c != 0) = true by rw [bne, h]; rfl]
  rfl
theorem gone_at {y : CallV × Int} {b : CallV} (h : goneB y b = true) : y.2 = 0 ∧ y.1 = b := by
  unfold goneB at h
  simpa using h
theorem may_ends {c : Cfg} {a b : CallV} (hc : (checkV c == 0) = true) {k : Nat} (hk : 1 ≤ k ∧ k ≤ 4) (h : goneB (endsV a k) b = true) : mayV c a b = true := by
  rw [may_good a b (by simpa using hc)]
  have : k = 1 ∨ k = 2 ∨ k = 3 ∨ k = 4 := by omega
  rcases this with rfl | rfl | rfl | rfl
  · rw [show ((1 : Nat) : Int) = 1 from rfl, ends_1] at h; rw [h]; simp
  · rw [show ((2 : Nat) : Int) = 2 from rfl, ends_2] at h; rw [h]; simp
  · rw [show ((3 : Nat) : Int) = 3 from rfl, ends_3] at h; rw [h]; simp
  · rw [show ((4 : Nat) : Int) = 4 from rfl, ends_4] at h; rw [h]; simp
theorem asg_car {c : Cfg} {a b : CallV} {n : Int} (h : goneB (assignV c a n) b = true) : b.car = n ∧ carV c n = true := by
  obtain ⟨h1, h2⟩ := gone_at h
  unfold assignV at h1 h2
  cases e1 : (a.state != 1) with
  | true => rw [e1] at h1; cases h1
  | false =>
    rw [e1] at h1 h2
    simp only [cond_false] at h1 h2
    cases e2 : ((!(carV c n)) || ((a.kind == 3) && (a.car != n))) with
    | true => rw [e2] at h1; cases h1
    | false =>
      rw [e2] at h2
      simp only [cond_false] at h2
      refine ⟨by rw [← h2], ?_⟩
      have := ol e2
      simpa using this
theorem may_assign {c : Cfg} {a b : CallV} (hc : (checkV c == 0) = true) {n : Int} (h : goneB (assignV c a n) b = true) : mayV c a b = true := by
  rw [may_good a b (by simpa using hc), (asg_car h).1, h]
  rfl
theorem left_is (c : Cfg) (a b : CallV) : leftV c a b = bif a.state == 3 then goneB (leaveV c a b.src) b else goneB (leaveV c a 1) b := rfl
theorem free_src (x : CallV) (s : Int) : (freeV x s).src = x.src := by
  unfold freeV
  cases (x.kind != 3) <;> rfl
theorem may_leave {c : Cfg} {a b : CallV} (hc : (checkV c == 0) = true) {n : Int} (hn : 1 ≤ n ∧ n ≤ c.floors) (h : goneB (leaveV c a n) b = true) : mayV c a b = true := by
  have hc' : checkV c = 0 := by simpa using hc
  rw [may_good a b hc']
  have hf : floorV c n = true := by unfold floorV; simp [hc', hn]
  have hf1 : floorV c 1 = true := by unfold floorV; simp [hc']; omega
  obtain ⟨h1, h2⟩ := gone_at h
  unfold leaveV at h1 h2
  cases e1 : ((a.state != 2) && (a.state != 3)) with
  | true => rw [e1] at h1; cases h1
  | false =>
    rw [e1, hf] at h1 h2
    simp only [cond_false, Bool.not_true] at h1 h2
    cases e2 : (a.state == 2) with
    | true =>
      rw [e2] at h2
      simp only [cond_true] at h2
      have e3 : (a.state == 3) = false := by
        have : a.state = 2 := by simpa using e2
        rw [this]; rfl
      have : leftV c a b = true := by
        rw [left_is, e3]
        simp only [cond_false]
        unfold goneB leaveV
        rw [e1, hf1, e2]
        simp [h2]
      rw [this]
      simp
    | false =>
      rw [e2] at h2
      simp only [cond_false] at h2
      have e3 : (a.state == 3) = true := by
        have x1 : ¬ a.state = 2 := by simpa using e2
        have x2 : a.state = 2 ∨ a.state = 3 := by
          have := e1
          simp at this
          omega
        simp
        omega
      cases e4 : (a.dst == n) with
      | true =>
        rw [e4] at h2
        simp only [cond_true] at h2
        have : goneB (serveV a) b = true := by
          unfold goneB serveV toV
          rw [e3]
          simp [h2]
        rw [this]
        simp
      | false =>
        rw [e4] at h2
        simp only [cond_false] at h2
        have hs : b.src = n := by rw [← h2, free_src]
        have : leftV c a b = true := by
          rw [left_is, e3]
          simp only [cond_true]
          unfold goneB leaveV
          rw [hs, e1, hf, e2, e4]
          simp [h2]
        rw [this]
        simp
theorem may_none {c : Cfg} {a b : CallV} (hc : (checkV c == 0) = true) (h1 : ∀ k : Nat, 1 ≤ k → k < 5 → goneB (endsV a k) b = false ∧ goneB (assignV c a k) b = false) (h2 : ∀ k : Nat, 1 ≤ k → (k : Int) ≤ c.floors → goneB (leaveV c a k) b = false) : mayV c a b = false := by
  have hc' : checkV c = 0 := by simpa using hc
  have hci := cfg_in (c := c) (by rw [hc']; rfl)
  rw [may_good a b hc']
  have g1 := (h1 1 (by omega) (by omega)).1
  have g2 := (h1 2 (by omega) (by omega)).1
  have g3 := (h1 3 (by omega) (by omega)).1
  have g4 := (h1 4 (by omega) (by omega)).1
  rw [show ((1 : Nat) : Int) = 1 from rfl, ends_1] at g1
  rw [show ((2 : Nat) : Int) = 2 from rfl, ends_2] at g2
  rw [show ((3 : Nat) : Int) = 3 from rfl, ends_3] at g3
  rw [show ((4 : Nat) : Int) = 4 from rfl, ends_4] at g4
  have g5 : goneB (assignV c a b.car) b = false := by
    cases e : goneB (assignV c a b.car) b with
    | false => rfl
    | true =>
      have hcar := (asg_car e).2
      unfold carV at hcar
      simp [hc'] at hcar
      have := (h1 b.car.toNat (by omega) (by omega)).2
      rw [show ((b.car.toNat : Nat) : Int) = b.car by omega, e] at this
      cases this
  have g6 : leftV c a b = false := by
    have key : ∀ n : Int, goneB (leaveV c a n) b = false := fun n => by
      by_cases hn : 1 ≤ n ∧ n ≤ c.floors
      · have := h2 n.toNat (by omega) (by omega)
        rwa [show ((n.toNat : Nat) : Int) = n by omega] at this
      · have hf : floorV c n = false := by
          cases e : floorV c n with
          | false => rfl
          | true =>
            unfold floorV at e
            simp [hc'] at e
            exact absurd e hn
        unfold goneB leaveV
        rw [hf]
        cases ((a.state != 2) && (a.state != 3)) <;> rfl
    rw [left_is, key, key]
    cases (a.state == 3) <;> rfl
  rw [g1, g2, g3, g4, g5, g6]
  rfl
end Go.Proofs.Ytnanihffljpdbaa.Bk
