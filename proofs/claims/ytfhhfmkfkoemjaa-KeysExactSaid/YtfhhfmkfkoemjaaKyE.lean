/- Layer 10: plain laws: shelf and list agree. -/
import Derived.Test.YtfhhfmkfkoemjaaProg
import Derived.Below
import Derived.WalkKit
import Derived.KernelRfl
import Derived.RowKit3
import Derived.Deep.LoopGhost
import Derived.Deep.QuietTactic
import Derived.BigQuiet
import Derived.WideLaws
import Derived.Deep.DeepCutAuto
import Derived.Deep.CutBlock
import Derived.Lib.Hide
import Derived.Laws.BitsLemmas
import Derived.Laws.Bits64
import Derived.Laws.BitsAllLaws
import Derived.IntWalk
import Derived.Outline
import Derived.WalkSpells
import Derived.Test.YtfhhfmkfkoemjaaMem
import Derived.Test.YtfhhfmkfkoemjaaKyO
import Derived.Test.YtfhhfmkfkoemjaaKr3
namespace Go.Proofs.Ytfhhfmkfkoemjaa.Se6
open Go.RowKit Go.Proofs.Ytfhhfmkfkoemjaa.Mem Go.Proofs.Ytfhhfmkfkoemjaa.Reg Go.Proofs.Ytfhhfmkfkoemjaa.Pk Go.Proofs.Ytfhhfmkfkoemjaa.Si
set_option linter.unusedVariables false
set_option linter.unusedSimpArgs false
def toP (e : EntR) : PairV := (nameV e.who e.key, ⟨e.key / 4294967296, e.body, e.answer⟩)
theorem window_ok {c : Cfg} (h : (checkV c != 0) = false) : 1 ≤ c.window ∧ c.window ≤ 65536 := by
  have h1 : cfgOk c = true := by
    cases hc : cfgOk c with
    | true => rfl
    | false => rw [checkV_bad hc] at h; exact absurd h (by decide)
  unfold cfgOk at h1
  simp at h1
  omega
theorem good_eq {c : Cfg} {key now : Int} (k0 : 0 ≤ key) (k1 : key ≤ 18446744073709551615) (n1 : now ≤ 9223372036854775807) : isGoodV c key now = goodRV c key now := by
  unfold isGoodV goodRV
  rcases Bool.eq_false_or_eq_true (checkV c != 0) with q | q
  · rw [neq_t q]; rfl
  · have hw := window_ok q
    rcases Bool.eq_false_or_eq_true (decide (key / 4294967296 ≤ now)) with p | p
    · have p' := of_decide_eq_true p
      rw [p, IntWalk.i64_in (key / 4294967296 + c.window) (by omega), IntWalk.i64_in (now - key / 4294967296) (by omega)]
      congr 1
      rw [decide_eq_decide]
      omega
    · rw [p]; simp
/-- the shelf holds what the list holds -/
structure RelK (c : Cfg) (room : Int) (ps : List PairV) (l : List EntR) : Prop where
  sorted : Sorted ps
  perm : ps.Perm (l.map toP)
  ok : ∀ e ∈ l, 1 ≤ e.who ∧ e.who ≤ 1073741824 ∧ 0 ≤ e.key ∧ e.key ≤ 18446744073709551615
  few : ((l.length : Nat) : Int) ≤ room
  room : (checkV c != 0) = false → room = c.keys
theorem rel_filter {c : Cfg} {room : Int} {ps : List PairV} {l : List EntR} (h : RelK c room ps l) (now : Int) : (ps.filter (keepB c now)).Perm ((l.filter (keepR c now)).map toP) := by
  have h1 := h.perm.filter (keepB c now)
  rwa [List.filter_map] at h1
theorem rel_count {c : Cfg} {room : Int} {ps : List PairV} {l : List EntR} (h : RelK c room ps l) (now : Int) : (ps.filter (keepB c now)).length = (l.filter (keepR c now)).length := by
  have := (rel_filter h now).length_eq
  rwa [List.length_map] at this
theorem tick_neg (now who : Int) : ((((decide (now < 0)) || (decide (1073741824 < now))) || (decide (who < 1))) || (decide (1073741824 < who))) = !isTickV now who := by
  unfold isTickV
  rw [Bool.eq_iff_iff]
  simp only [Bool.or_eq_true, Bool.not_eq_true', Bool.and_eq_false_iff, decide_eq_true_eq, decide_eq_false_iff_not]
  omega
theorem look_eq {c : Cfg} {room : Int} {ps : List PairV} {l : List EntR} (h : RelK c room ps l) {now who key : Int} {body : ByteArray} (k0 : 0 ≤ key) (k1 : key ≤ 18446744073709551615) (n1 : now ≤ 9223372036854775807) :
    lookV c ps now who key body = lookR c l now who key body := by
  unfold lookR
  rw [tick_neg, ← good_eq k0 k1 n1]
  cases ht : isTickV now who with
  | false => rw [look_out (by rw [ht]; rfl)]; rfl
  | true =>
    cases hg : isGoodV c key now with
    | false => rw [look_out (by rw [ht, hg]; rfl)]; rfl
    | true =>
      rw [look_in (by rw [ht, hg]; rfl)]
      simp only [Bool.not_true, Bool.or_self, cond_false]
      have t := tick_of ht
      have hp := rel_filter h now
      have hso := sorted_keep h.sorted (keepB c now)
      unfold lookOn
      rw [rel_count h now]
      cases hf : (l.filter (keepR c now)).find? (hitR who key) with
      | some e =>
        have he := List.mem_of_find?_eq_some hf
        have hh := List.find?_some hf
        unfold hitR at hh
        simp at hh
        have hin : (nameV who key, (⟨e.key / 4294967296, e.body, e.answer⟩ : EntryV)) ∈ ps.filter (keepB c now) := by
          rw [hp.mem_iff, ← hh.1, ← hh.2]
          exact List.mem_map.2 ⟨e, he, rfl⟩
        rw [get_mem hso hin]
        simp only [Bool.true_and]
        cases (e.body.toList == body.toList) <;> rfl
      | none =>
        have hn : ∀ x ∈ ps.filter (keepB c now), x.1 ≠ nameV who key := fun x hx e1 => by
          rw [hp.mem_iff] at hx
          obtain ⟨e, he, rfl⟩ := List.mem_map.1 hx
          have ho := h.ok e (List.mem_filter.1 he).1
          obtain ⟨a1, a2⟩ := name_inj (by omega) (by omega) ho.2.2.1 (by omega) (by omega) (by omega) k0 (by omega) e1
          have := List.find?_eq_none.1 hf e he
          unfold hitR at this
          simp [a1, a2] at this
        rw [get_no hso hn]
        simp only [Bool.false_and, cond_false]
        have hl := List.length_filter_le (keepR c now) l
        have hfew := h.few
        rw [h.room (good_of hg).1] at hfew
        have e2 : ((((l.filter (keepR c now)).length : Nat) : Int) == c.keys) = decide (c.keys ≤ (((l.filter (keepR c now)).length : Nat) : Int)) := by
          rw [Bool.eq_iff_iff]
          simp
          omega
        rw [e2]
theorem ins_perm (ps : List PairV) (i : Nat) (p : PairV) : (insAt ps i p).Perm (p :: ps) := by
  unfold insAt
  have h1 : (ps.take i ++ p :: ps.drop i).Perm (p :: (ps.take i ++ ps.drop i)) := List.perm_middle
  rwa [List.take_append_drop] at h1
theorem rel_with {c : Cfg} {room : Int} {ps : List PairV} {l : List EntR} (h : RelK c room ps l) {now who key : Int} {body ans : ByteArray} (k0 : 0 ≤ key) (k1 : key ≤ 18446744073709551615) (hn : ((lookV c ps now who key body).2 != 1) = false) :
    RelK c room (withV room (nameV who key) ⟨key / 4294967296, body, ans⟩ (ps.filter (keepB c now))).1 (l.filter (keepR c now) ++ [(⟨who, key, body, ans⟩ : EntR)]) := by
  have hn1 : (lookV c ps now who key body).2 = 1 := by simpa using hn
  obtain ⟨h1, h2, h3⟩ := look_new hn1
  have t := tick_of (bl h1)
  rw [with_add h.room hn1]
  refine ⟨sorted_ins (sorted_keep h.sorted _) _ h2, ?_, ?_, ?_, h.room⟩
  · rw [List.map_append]
    refine (ins_perm _ _ _).trans ?_
    refine ((rel_filter h now).cons _).trans ?_
    exact (List.perm_append_comm (l₁ := (l.filter (keepR c now)).map toP) (l₂ := [toP ⟨who, key, body, ans⟩])).symm
  · intro e he
    rcases List.mem_append.1 he with he | he
    · exact h.ok e (List.mem_filter.1 he).1
    · rw [List.mem_singleton.1 he]
      exact ⟨t.2.2.1, t.2.2.2, k0, k1⟩
  · have h4 : ¬ ((ps.filter (keepB c now)).length : Int) = c.keys := by simpa using h3
    rw [rel_count h now, ← h.room (good_of (br h1)).1] at h4
    have hl := List.length_filter_le (keepR c now) l
    have := h.few
    simp
    omega
theorem rel_nil (c : Cfg) : RelK (mkC c) (mkR c) [] [] := ⟨List.Pairwise.nil, List.Perm.nil, fun _ h => (by cases h), mkR_nonneg c, mk_room⟩
end Go.Proofs.Ytfhhfmkfkoemjaa.Se6
