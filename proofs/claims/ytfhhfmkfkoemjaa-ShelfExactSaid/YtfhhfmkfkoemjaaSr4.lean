/- Layer 6: what a shelf answers is the reference's: contracts in the reference's words. -/
import Derived.Test.YtfhhfmkfkoemjaaProg
import Derived.Below
import Derived.WalkKit
import Derived.KernelRfl
import Derived.RowKit3
import Derived.Deep.LoopGhost
import Derived.Deep.QuietTactic
import Derived.BigQuiet
import Derived.WideLaws
import Derived.Deep.DeepCutAuto
import Derived.Deep.CutBlock
import Derived.Lib.Hide
import Derived.Laws.BitsLemmas
import Derived.Laws.Bits64
import Derived.Laws.BitsAllLaws
import Derived.IntWalk
import Derived.Outline
import Derived.WalkSpells
import Derived.Test.YtfhhfmkfkoemjaaMem
import Derived.Test.YtfhhfmkfkoemjaaSr3
namespace Go.Proofs.Ytfhhfmkfkoemjaa.Si6
set_option linter.unusedVariables false
set_option linter.unusedSimpArgs false
open Go.RowKit Go.Proofs.Ytfhhfmkfkoemjaa.Mem Go.Proofs.Ytfhhfmkfkoemjaa.Reg
theorem give_of_A {a : Option Addr} {c e k : Nat} {rows : List (List Value)} {w w' : World} (h : (rA a c e k rows).holds w') (hf : ∀ q ∈ footA a, w.heap.size ≤ q) : (rS a c k rows).holds w' ∧ From w [] (rS a c k rows).foot :=
  ⟨⟨rows_owns h.1 rfl h.2.len, h.2⟩, fun q hq => .inl (hf q (by
    cases rows with
    | nil => cases hq
    | cons r rs => exact hq))⟩
theorem without_is {l : List PairV} (hs : Sorted l) (k : KeyV) : withoutV k l = l.filter (keepN k) := by
  rcases Bool.eq_false_or_eq_true (isV k l) with q | q
  · obtain ⟨r, hr, hrk, _⟩ := is_some q
    obtain ⟨hi, he⟩ := List.getElem?_eq_some_iff.1 hr
    have hrm := List.mem_of_getElem? hr
    have hl : l = l.take (posV k l) ++ r :: l.drop (posV k l + 1) := by
      rw [← he, List.getElem_cons_drop, List.take_append_drop]
    have hp := hs
    unfold Sorted at hp
    rw [hl, List.pairwise_append, List.pairwise_cons] at hp
    have h1 : (l.take (posV k l)).filter (keepN k) = l.take (posV k l) := List.filter_eq_self.2 fun x hx => keepN_iff.2 fun hk => by
      have := hp.2.2 x hx r (by simp)
      rw [hk, hrk, ltK_irrefl] at this
      cases this
    have h2 : (l.drop (posV k l + 1)).filter (keepN k) = l.drop (posV k l + 1) := List.filter_eq_self.2 fun x hx => keepN_iff.2 fun hk => by
      have := hp.2.1.1 x hx
      rw [hk, hrk, ltK_irrefl] at this
      cases this
    have h3 : keepN k r = false := by
      cases h : keepN k r with
      | false => rfl
      | true => exact absurd hrk (keepN_iff.1 h)
    rw [withoutV, if_pos q, delAt]
    conv => rhs; rw [hl]
    rw [List.filter_append, h1, List.filter_cons_of_neg (by simp [h3]), h2]
  · rw [withoutV, if_neg (by simp [q])]
    refine (List.filter_eq_self.2 fun x hx => keepN_iff.2 fun hk => ?_).symm
    have := (isV_iff hs k).2 ⟨x, hx, hk⟩
    rw [q] at this
    cases this
theorem get_two {l : List PairV} (hs : Sorted l) (k : KeyV) : (getR k l).2 = isV k l := by rw [getR_is hs, get_is]
theorem sGet (room : Int) (a : Option Addr) (c : Nat) (l : List PairV) (k : KeyV) (w : World) (h : (rS a c 2 (l.map rowOf)).holds w) (hs : Sorted l) (hb : l.length ≤ 1000000) :
    Calls Try.prog 29 #[.agg #[.int .i64 room, .slice a l.length c], .string k] w fun e w' => e = .returned (.tuple #[.int .i64 (getR k l).1, .bool (getR k l).2]) ∧ Off [] w w' := by
  rw [getR_is hs]
  exact getC room a c l k w h hs hb
theorem sWithNo (room : Int) (a : Option Addr) (c : Nat) (l : List PairV) (k : KeyV) (v : Int) (w : World) (h : (rS a c 2 (l.map rowOf)).holds w) (hs : Sorted l) (hb : l.length ≤ 1000000) (hr : (l.length : Int) ≤ room) (q : ((!(getR k l).2) && (decide (room ≤ (l.length : Int)))) = true) :
    Calls Try.prog 27 #[.agg #[.int .i64 room, .slice a l.length c], .string k, .int .i64 v] w fun e w' => ∃ a' c', e = .returned (.tuple #[.agg #[.int .i64 room, .slice a' l.length c'], .bool false]) ∧ Gives w w' [rS a c 2 (l.map rowOf)] a' c' l := by
  have h1 := withC room a c l k v w h hs hb
  rw [get_two hs] at q
  simp at q
  rw [with_full q.1 (by simp; omega)] at h1
  exact h1
theorem room_of {room : Int} {l : List PairV} {k : KeyV} (hs : Sorted l) (q : ((!(getR k l).2) && (decide (room ≤ (l.length : Int)))) = false) : isV k l = true ∨ ((l.length : Int) == room) = false := by
  rw [get_two hs] at q
  cases h : isV k l with
  | true => exact .inl rfl
  | false =>
    rw [h] at q
    simp at q
    exact .inr (by simp; omega)
theorem sWithYes (room : Int) (a : Option Addr) (c : Nat) (l : List PairV) (k : KeyV) (v : Int) (w : World) (h : (rS a c 2 (l.map rowOf)).holds w) (hs : Sorted l) (hb : l.length ≤ 1000000) (q : ((!(getR k l).2) && (decide (room ≤ (l.length : Int)))) = false) :
    Calls Try.prog 27 #[.agg #[.int .i64 room, .slice a l.length c], .string k, .int .i64 v] w fun e w' => ∃ a' c', e = .returned (.tuple #[.agg #[.int .i64 room, .slice a' (withV room k v l).1.length c'], .bool true]) ∧ Gives w w' [rS a c 2 (l.map rowOf)] a' c' (withV room k v l).1 := by
  have h1 := withC room a c l k v w h hs hb
  have h2 : (withV room k v l).2 = true := by
    rcases Bool.eq_false_or_eq_true (isV k l) with q1 | q1
    · rw [with_is q1]
    · rcases room_of hs q with h3 | h3
      · rw [q1] at h3; cases h3
      · rw [with_new q1 h3]
  rw [h2] at h1
  exact h1
theorem len_with {room : Int} {l : List PairV} {k : KeyV} {v : Int} (hr : (l.length : Int) ≤ room) : (((withV room k v l).1.length : Nat) : Int) ≤ room := by
  unfold withV
  split
  · simpa using hr
  · split
    · exact hr
    · rename_i h
      have h2 : (l.length : Int) ≠ room := by simpa using h
      simp [insAt]
      omega
theorem sWithout (room : Int) (a : Option Addr) (c : Nat) (l : List PairV) (k : KeyV) (w : World) (h : (rS a c 2 (l.map rowOf)).holds w) (hs : Sorted l) (hb : l.length ≤ 1000000) :
    Calls Try.prog 37 #[.agg #[.int .i64 room, .slice a l.length c], .string k] w fun e w' => ∃ a' c', e = .returned (.agg #[.int .i64 room, .slice a' (l.filter (keepN k)).length c']) ∧ Gives w w' [rS a c 2 (l.map rowOf)] a' c' (l.filter (keepN k)) := by
  have h1 := withoutC room a c l k w h hs hb
  rw [without_is hs] at h1
  exact h1
theorem withoutRS (la : Option Addr) (lc : Nat) (l : List PairV) (k : KeyV) (w : World) (h : (rS la lc 2 (l.map rowOf)).holds w) (hl : l.length ≤ 1000000) :
    Calls Try.prog 39 #[.slice la l.length lc, .string k] w fun e w' => ∃ a' c', e = .returned (.slice a' (l.filter (keepN k)).length c') ∧ Gives w w' [] a' c' (l.filter (keepN k)) := by
  refine (withoutRC la lc l k w h hl).mono ?_
  rintro e w' ⟨a', c', rfl, h1, h2, h3⟩
  exact ⟨a', c', rfl, (give_of_A h1 h2).1, (give_of_A h1 h2).2, h3⟩
theorem keepRS (la : Option Addr) (lc : Nat) (l : List PairV) (m : Int) (w : World) (h : (rS la lc 2 (l.map rowOf)).holds w) (hl : l.length ≤ 1000000) (hm : 0 < m) :
    Calls Try.prog 40 #[.slice la l.length lc, .int .i64 m] w fun e w' => ∃ a' c', e = .returned (.slice a' (l.filter (keptV m)).length c') ∧ Gives w w' [] a' c' (l.filter (keptV m)) := by
  refine (keepRC la lc l m w h hl hm).mono ?_
  rintro e w' ⟨a', c', rfl, h1, h2, h3⟩
  exact ⟨a', c', rfl, (give_of_A h1 h2).1, (give_of_A h1 h2).2, h3⟩
theorem sKeep (room t : Int) (ht : 2 ≤ t ∧ t ≤ 4) (a : Option Addr) (c : Nat) (l : List PairV) (w : World) (h : (rS a c 2 (l.map rowOf)).holds w) (hb : l.length ≤ 1000000) :
    Calls Try.prog 32 #[.agg #[.int .i64 room, .slice a l.length c], .func (.func 33) #[.agg #[.int .i64 t]] #[]] w fun e w' => ∃ a' c', e = .returned (.agg #[.int .i64 room, .slice a' (l.filter (keptV t)).length c']) ∧ Gives w w' [] a' c' (l.filter (keptV t)) :=
  keepIs room a c l (keptV t) (.agg #[.int .i64 t]) w h hb (fun w2 _ p _ => partIs t p ht w2)
theorem exec_nilnil {P : Program} {o : Oper} {act : Act} {w : World} {p q : Operand} {t yt : TypeId} {xs ys : Array TypeId} {b : Bool} (ho : o.op = .binOp .eql t p q yt) (hp : act.eval p = .nilFunc) (hq : act.eval q = .nilFunc) (hu : P.underlying t = some (.func xs ys b)) : (execOp act.eval o).run P w = .ok (.value (.bool true)) w := by
  unfold execOp
  simp [ho, hp, hq, eqGuard, eql_nilnil_fn w t hu]
def kR (room : Int) : Int := if room < 1 ∨ 65536 < room then 0 else room
end Go.Proofs.Ytfhhfmkfkoemjaa.Si6
