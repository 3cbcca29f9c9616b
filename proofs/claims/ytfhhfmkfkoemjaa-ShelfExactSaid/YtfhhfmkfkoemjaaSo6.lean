/- Layer 6: plain laws: the order in which pairs come plays no part. -/
import Derived.Test.YtfhhfmkfkoemjaaProg
import Derived.Below
import Derived.WalkKit
import Derived.KernelRfl
import Derived.RowKit3
import Derived.Deep.LoopGhost
import Derived.Deep.QuietTactic
import Derived.BigQuiet
import Derived.WideLaws
import Derived.Deep.DeepCutAuto
import Derived.Deep.CutBlock
import Derived.Lib.Hide
import Derived.Laws.BitsLemmas
import Derived.Laws.Bits64
import Derived.Laws.BitsAllLaws
import Derived.IntWalk
import Derived.Outline
import Derived.WalkSpells
import Derived.Test.YtfhhfmkfkoemjaaMem
import Derived.Test.YtfhhfmkfkoemjaaSp6
namespace Go.Proofs.Ytfhhfmkfkoemjaa.Si6
set_option linter.unusedVariables false
set_option linter.unusedSimpArgs false
open Go.RowKit Go.Proofs.Ytfhhfmkfkoemjaa.Mem

theorem sorted_ext : ∀ {a b : List PairV}, Sorted a → Sorted b → (∀ x, x ∈ a ↔ x ∈ b) → a = b
  | [], [], _, _, _ => rfl
  | [], y :: b, _, _, h => absurd ((h y).2 (by simp)) (by simp)
  | x :: a, [], _, _, h => absurd ((h x).1 (by simp)) (by simp)
  | x :: a, y :: b, ha, hb, h => by
    have ha' := List.pairwise_cons.1 ha
    have hb' := List.pairwise_cons.1 hb
    have hxy : x = y := by
      rcases List.mem_cons.1 ((h x).1 (by simp)) with h1 | h1
      · exact h1
      · rcases List.mem_cons.1 ((h y).2 (by simp)) with h2 | h2
        · exact h2.symm
        · have := ltK_trans (hb'.1 x h1) (ha'.1 y h2)
          rw [ltK_irrefl] at this
          cases this
    subst hxy
    congr 1
    refine sorted_ext ha'.2 hb'.2 fun z => ⟨fun hz => ?_, fun hz => ?_⟩
    · rcases List.mem_cons.1 ((h z).1 (by simp [hz])) with rfl | h1
      · have := ha'.1 z hz
        rw [ltK_irrefl] at this
        cases this
      · exact h1
    · rcases List.mem_cons.1 ((h z).2 (by simp [hz])) with rfl | h1
      · have := hb'.1 z hz
        rw [ltK_irrefl] at this
        cases this
      · exact h1
theorem mem_with {ps : List PairV} (hs : Sorted ps) (room : Int) (k : KeyV) (v : Int) (hr : isV k ps = true ∨ ((ps.length : Int) == room) = false) (x : PairV) : x ∈ (withV room k v ps).1 ↔ x = (k, v) ∨ (x ∈ ps ∧ x.1 ≠ k) := by
  rcases Bool.eq_false_or_eq_true (isV k ps) with q | q
  · rw [with_is q]
    obtain ⟨p, hp, hpk, hlt⟩ := is_some q
    constructor
    · intro hx
      rcases List.mem_or_eq_of_mem_set hx with h | h
      · by_cases hk : x.1 = k
        · exact .inl (keys_one (sorted_set hs v q) hx (List.mem_set hlt _) hk)
        · exact .inr ⟨h, hk⟩
      · exact .inl h
    · rintro (rfl | ⟨hx, hk⟩)
      · exact List.mem_set hlt _
      · obtain ⟨j, hj, rfl⟩ := List.getElem_of_mem hx
        have hne : posV k ps ≠ j := fun e => by
          subst e
          rw [List.getElem?_eq_getElem hj] at hp
          injection hp with hp
          rw [hp] at hk
          exact hk hpk
        have := List.getElem_set_ne (l := ps) (a := (k, v)) hne (by simpa using hj)
        rw [← this]
        exact List.getElem_mem _
  · have hr' : ((ps.length : Int) == room) = false := by
      rcases hr with h | h
      · rw [q] at h
        cases h
      · exact h
    rw [with_new q hr']
    have hm : x ∈ insAt ps (posV k ps) (k, v) ↔ x = (k, v) ∨ x ∈ ps := by
      conv => rhs; rw [← List.take_append_drop (posV k ps) ps]
      simp only [insAt, List.mem_append, List.mem_cons]
      constructor
      · rintro (h | h | h)
        · exact .inr (.inl h)
        · exact .inl h
        · exact .inr (.inr h)
      · rintro (h | h | h)
        · exact .inr (.inl h)
        · exact .inl h
        · exact .inr (.inr h)
    rw [hm]
    constructor
    · rintro (h | h)
      · exact .inl h
      · exact .inr ⟨h, is_false_ne hs q x h⟩
    · rintro (h | ⟨h, _⟩)
      · exact .inl h
      · exact .inr h
def addK (ps : List PairV) (k : KeyV) : List PairV := (withV 40 k (k.size : Int) ps).1
def addAll (ks : List KeyV) : List PairV := ks.foldl addK []
theorem addAll_snoc (ks : List KeyV) (k : KeyV) : addAll (ks ++ [k]) = addK (addAll ks) k := by simp [addAll]
theorem add_all (ks : List KeyV) : ∀ n, n = ks.length → n ≤ 40 → Sorted (addAll ks) ∧ (addAll ks).length ≤ n ∧ ∀ x, x ∈ addAll ks ↔ x.1 ∈ ks ∧ x.2 = (x.1.size : Int) := by
  intro n
  induction n generalizing ks with
  | zero =>
    intro hn _
    obtain rfl : ks = [] := List.length_eq_zero_iff.1 hn.symm
    exact ⟨List.Pairwise.nil, by simp [addAll], by simp [addAll]⟩
  | succ n ih =>
    intro hn h40
    rcases List.eq_nil_or_concat ks with rfl | ⟨qs, k, rfl⟩
    · simp at hn
    · rw [List.concat_eq_append] at *
      have hq : n = qs.length := by simp at hn; omega
      obtain ⟨h1, h2, h3⟩ := ih qs hq (by omega)
      rw [addAll_snoc]
      refine ⟨sorted_with h1 _ _ _, ?_, fun x => ?_⟩
      · have := few_with (addAll qs) 40 k (k.size : Int)
        show (withV 40 k (k.size : Int) (addAll qs)).1.length ≤ _
        omega
      · unfold addK
        rw [mem_with h1 40 k _ (.inr (by simp; omega)) x, h3 x]
        simp only [List.mem_append, List.mem_singleton]
        constructor
        · rintro (rfl | ⟨⟨h4, h5⟩, _⟩)
          · exact ⟨.inr rfl, rfl⟩
          · exact ⟨.inl h4, h5⟩
        · rintro ⟨h4 | h4, h5⟩
          · by_cases hk : x.1 = k
            · left
              exact Prod.ext hk (by rw [h5, hk])
            · exact .inr ⟨⟨h4, h5⟩, hk⟩
          · left
            exact Prod.ext h4 (by rw [h5, h4])
theorem add_perm {ks qs : List KeyV} (h : ks.Perm qs) (h40 : ks.length ≤ 40) : addAll ks = addAll qs := by
  have h1 := add_all ks _ rfl h40
  have h2 := add_all qs _ rfl (by rw [← h.length_eq]; exact h40)
  refine sorted_ext h1.1 h2.1 fun x => ?_
  rw [h1.2.2 x, h2.2.2 x, h.mem_iff]
theorem add_is {qs : List KeyV} (h : qs.length < 40) (k : KeyV) : (withV 40 k (k.size : Int) (addAll qs)).2 = true := by
  have h1 := add_all qs _ rfl (by omega)
  rcases Bool.eq_false_or_eq_true (isV k (addAll qs)) with q | q
  · rw [with_is q]
  · rw [with_new q (by simp; omega)]
theorem add_get {ks : List KeyV} (h40 : ks.length ≤ 40) {i : Nat} {p : PairV} (hp : (addAll ks)[i]? = some p) : getV p.1 (addAll ks) = ((p.1.size : Int), true) := by
  have h1 := add_all ks _ rfl h40
  have hm := List.mem_of_getElem? hp
  have q : isV p.1 (addAll ks) = true := (isV_iff h1.1 _).2 ⟨p, hm, rfl⟩
  obtain ⟨r, hr, hrk, _⟩ := is_some q
  have hrp : r = p := keys_one h1.1 (List.mem_of_getElem? hr) hm hrk
  unfold getV
  rw [if_pos q, hr, hrp]
  simp only []
  rw [((h1.2.2 p).1 hm).2]
theorem add_less {ks : List KeyV} (h40 : ks.length ≤ 40) {i : Nat} {p r : PairV} (hp : (addAll ks)[i]? = some p) (hr : (addAll ks)[i + 1]? = some r) : ltK p.1 r.1 = true := by
  have h1 := add_all ks _ rfl h40
  obtain ⟨hi, rfl⟩ := List.getElem?_eq_some_iff.1 hp
  obtain ⟨hj, rfl⟩ := List.getElem?_eq_some_iff.1 hr
  exact List.pairwise_iff_getElem.1 h1.1 i (i + 1) hi hj (by omega)
end Go.Proofs.Ytfhhfmkfkoemjaa.Si6
