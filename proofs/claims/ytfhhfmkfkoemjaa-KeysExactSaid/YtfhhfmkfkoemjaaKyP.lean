/- Layer 10: plain laws of keys. -/
import Derived.Test.YtfhhfmkfkoemjaaProg
import Derived.Below
import Derived.WalkKit
import Derived.KernelRfl
import Derived.RowKit3
import Derived.Deep.LoopGhost
import Derived.Deep.QuietTactic
import Derived.BigQuiet
import Derived.WideLaws
import Derived.Deep.DeepCutAuto
import Derived.Deep.CutBlock
import Derived.Lib.Hide
import Derived.Laws.BitsLemmas
import Derived.Laws.Bits64
import Derived.Laws.BitsAllLaws
import Derived.IntWalk
import Derived.Outline
import Derived.WalkSpells
import Derived.Test.YtfhhfmkfkoemjaaMem
import Derived.Test.YtfhhfmkfkoemjaaKy6
namespace Go.Proofs.Ytfhhfmkfkoemjaa.Se6
open Go.RowKit Go.Proofs.Ytfhhfmkfkoemjaa.Mem Go.Proofs.Ytfhhfmkfkoemjaa.Reg Go.Proofs.Ytfhhfmkfkoemjaa.Pk Go.Proofs.Ytfhhfmkfkoemjaa.Si
set_option linter.unusedVariables false
set_option linter.unusedSimpArgs false
theorem beL_beB : ∀ (k n : Nat), beL (beB k n) = n % 256 ^ k
  | 0, n => by simp [beB, beL, Nat.mod_one]
  | k + 1, n => by
    rw [beB, beL_snoc, beL_beB k (n / 256), Nat.pow_succ, Nat.mul_comm (256 ^ k) 256, Nat.mod_mul]
    omega
theorem keys_one {ps : List PairV} (hs : Sorted ps) {x y : PairV} (hx : x ∈ ps) (hy : y ∈ ps) (h : x.1 = y.1) : x = y := by
  obtain ⟨i, hi, rfl⟩ := List.getElem_of_mem hx
  obtain ⟨j, hj, rfl⟩ := List.getElem_of_mem hy
  rcases Nat.lt_trichotomy i j with h1 | h1 | h1
  · have := List.pairwise_iff_getElem.1 hs i j hi hj h1
    rw [h, ltK_irrefl] at this
    cases this
  · subst h1
    rfl
  · have := List.pairwise_iff_getElem.1 hs j i hj hi h1
    rw [h, ltK_irrefl] at this
    cases this
theorem isV_iff {ps : List PairV} (hs : Sorted ps) (k : KeyV) : isV k ps = true ↔ ∃ x ∈ ps, x.1 = k := by
  constructor
  · intro h
    obtain ⟨p, hp, hk, _⟩ := is_some h
    exact ⟨p, List.mem_of_getElem? hp, hk⟩
  · rintro ⟨x, hx, hk⟩
    cases h : isV k ps with
    | true => rfl
    | false => exact absurd hk (is_false_ne hs h x hx)
theorem get_is (k : KeyV) (ps : List PairV) : (getV k ps).2 = isV k ps := by
  unfold getV
  cases h : isV k ps with
  | false => simp
  | true =>
    obtain ⟨p, hp, _⟩ := is_some h
    simp [hp]
theorem get_mem {ps : List PairV} (hs : Sorted ps) {k : KeyV} {v : EntryV} (h : (k, v) ∈ ps) : getV k ps = (v, true) := by
  have hi : isV k ps = true := (isV_iff hs k).2 ⟨_, h, rfl⟩
  obtain ⟨p, hp, hk, _⟩ := is_some hi
  unfold getV
  rw [if_pos hi, hp]
  have := keys_one hs (List.mem_of_getElem? hp) h hk
  rw [this]
theorem get_no {ps : List PairV} (hs : Sorted ps) {k : KeyV} (h : ∀ x ∈ ps, x.1 ≠ k) : getV k ps = (⟨0, ⟨#[]⟩, ⟨#[]⟩⟩, false) := by
  unfold getV
  rw [if_neg]
  intro hi
  obtain ⟨x, hx, hk⟩ := (isV_iff hs k).1 hi
  exact h x hx hk
/-- a look is its way into what counts -/
def lookOn (keys : Int) (on : List PairV) (n body : ByteArray) : ByteArray × Int :=
  bif (getV n on).2 && ((getV n on).1.body.toList == body.toList) then ((getV n on).1.answer, 2) else bif (getV n on).2 then (⟨#[]⟩, 3) else bif ((on.length : Int) == keys) then (⟨#[]⟩, 5) else (⟨#[]⟩, 1)
theorem look_out {c : Cfg} {ps : List PairV} {now who key : Int} {body : ByteArray} (h : (isTickV now who && isGoodV c key now) = false) : lookV c ps now who key body = (⟨#[]⟩, 4) := by
  unfold lookV
  have : ((!isTickV now who) || (!isGoodV c key now)) = true := by revert h; cases isTickV now who <;> cases isGoodV c key now <;> simp
  rw [this]; rfl
theorem look_in {c : Cfg} {ps : List PairV} {now who key : Int} {body : ByteArray} (h : (isTickV now who && isGoodV c key now) = true) : lookV c ps now who key body = lookOn c.keys (ps.filter (keepB c now)) (nameV who key) body := by
  unfold lookV
  have : ((!isTickV now who) || (!isGoodV c key now)) = false := by revert h; cases isTickV now who <;> cases isGoodV c key now <;> simp
  rw [this]; rfl
theorem look_new {c : Cfg} {ps : List PairV} {now who key : Int} {body : ByteArray} (h : (lookV c ps now who key body).2 = 1) :
    (isTickV now who && isGoodV c key now) = true ∧ isV (nameV who key) (ps.filter (keepB c now)) = false ∧ (((ps.filter (keepB c now)).length : Int) == c.keys) = false := by
  cases ht : (isTickV now who && isGoodV c key now) with
  | false => rw [look_out ht] at h; cases h
  | true =>
    rw [look_in ht] at h
    unfold lookOn at h
    rw [← get_is]
    cases h1 : (getV (nameV who key) (ps.filter (keepB c now))).2 with
    | true =>
      rw [h1] at h
      cases h2 : ((getV (nameV who key) (ps.filter (keepB c now))).1.body.toList == body.toList) <;> rw [h2] at h <;> simp at h
    | false =>
      rw [h1] at h
      refine ⟨rfl, rfl, ?_⟩
      cases h3 : (((ps.filter (keepB c now)).length : Int) == c.keys) with
      | false => rfl
      | true => rw [h3] at h; simp at h
theorem tick_of {now who : Int} (h : isTickV now who = true) : 0 ≤ now ∧ now ≤ 1073741824 ∧ 1 ≤ who ∧ who ≤ 1073741824 := by
  unfold isTickV at h
  simp at h
  omega
theorem good_of {c : Cfg} {key now : Int} (h : isGoodV c key now = true) : (checkV c != 0) = false ∧ key / 4294967296 ≤ now ∧ now ≤ IntKind.i64.wrap (key / 4294967296 + c.window) := by
  unfold isGoodV at h
  simp at h
  refine ⟨by simp [h.1.1], h.1.2, h.2⟩
theorem keepB_new {c : Cfg} {key now : Int} {n body ans : ByteArray} (h : isGoodV c key now = true) : keepB c now (n, ⟨key / 4294967296, body, ans⟩) = true := by
  unfold keepB
  exact decide_eq_true (good_of h).2.2
theorem mem_ins {ps : List PairV} {i : Nat} {p x : PairV} : x ∈ insAt ps i p ↔ x = p ∨ x ∈ ps := by
  unfold insAt
  rw [List.mem_append, List.mem_cons]
  constructor
  · rintro (h | h | h)
    · exact .inr (List.mem_of_mem_take h)
    · exact .inl h
    · exact .inr (List.mem_of_mem_drop h)
  · rintro (h | h)
    · exact .inr (.inl h)
    · rcases (List.mem_append.1 (by rw [List.take_append_drop]; exact h : x ∈ ps.take i ++ ps.drop i)) with h | h
      · exact .inl h
      · exact .inr (.inr h)
/-- where New is told, one is added -/
theorem with_add {c : Cfg} {room : Int} {ps : List PairV} {now who key : Int} {body ans : ByteArray} (hr : (checkV c != 0) = false → room = c.keys) (h : (lookV c ps now who key body).2 = 1) :
    (withV room (nameV who key) ⟨key / 4294967296, body, ans⟩ (ps.filter (keepB c now))).1 = insAt (ps.filter (keepB c now)) (posV (nameV who key) (ps.filter (keepB c now))) (nameV who key, ⟨key / 4294967296, body, ans⟩) := by
  obtain ⟨h1, h2, h3⟩ := look_new h
  rw [with_new h2]
  rw [hr (good_of (br h1)).1]
  exact h3
theorem filter_add {c : Cfg} {ps : List PairV} {now who key : Int} {body ans : ByteArray} (i : Nat) (hg : isGoodV c key now = true) :
    (insAt (ps.filter (keepB c now)) i (nameV who key, ⟨key / 4294967296, body, ans⟩)).filter (keepB c now) = insAt (ps.filter (keepB c now)) i (nameV who key, ⟨key / 4294967296, body, ans⟩) := by
  rw [List.filter_eq_self]
  intro x hx
  rcases mem_ins.1 hx with rfl | hx
  · exact keepB_new hg
  · exact (List.mem_filter.1 hx).2
theorem get_ins_ne {ps : List PairV} (hs : Sorted ps) {k n : KeyV} {v : EntryV} (hk : isV k ps = false) (hn : n ≠ k) : getV n (insAt ps (posV k ps) (k, v)) = getV n ps := by
  have hs2 := sorted_ins hs v hk
  cases hi : isV n ps with
  | true =>
    obtain ⟨x, hx, he⟩ := (isV_iff hs n).1 hi
    obtain ⟨x1, x2⟩ := x
    subst he
    rw [get_mem hs hx, get_mem hs2 (mem_ins.2 (.inr hx))]
  | false =>
    have h0 : ∀ x ∈ ps, x.1 ≠ n := is_false_ne hs hi
    rw [get_no hs h0, get_no hs2]
    intro x hx
    rcases mem_ins.1 hx with rfl | hx
    · exact fun e => hn e.symm
    · exact h0 x hx
theorem get_ins_same {ps : List PairV} (hs : Sorted ps) {k : KeyV} {v : EntryV} (hk : isV k ps = false) : getV k (insAt ps (posV k ps) (k, v)) = (v, true) :=
  get_mem (sorted_ins hs v hk) (mem_ins.2 (.inl rfl))
theorem ins_len (ps : List PairV) (k : KeyV) (p : PairV) : (insAt ps (posV k ps) p).length = ps.length + 1 := by
  have := pos_le k ps
  unfold insAt
  simp
  omega
theorem fits4 {n : Int} (h0 : 0 ≤ n) (h1 : n < 4294967296) : fitsV 4 n = true := by
  obtain ⟨m, rfl⟩ := Int.eq_ofNat_of_zero_le h0
  unfold fitsV wide
  simp
  omega
theorem name_bytes {who key : Int} (h0 : 0 ≤ who) (h1 : who < 4294967296) (h2 : 0 ≤ key) (h3 : key < 18446744073709551616) : nums (nameV who key) = beB 4 who.toNat ++ (beB 4 (key / 4294967296).toNat ++ beB 4 (key % 4294967296).toNat) := by
  have e : (encs 4 [who, key / 4294967296, key % 4294967296]).1 = beBs 4 [who, key / 4294967296, key % 4294967296] := by
    unfold encs
    rw [if_pos]
    · rfl
    · simp only [List.all_cons, List.all_nil, fits4 h0 h1, fits4 (n := key / 4294967296) (by omega) (by omega), fits4 (n := key % 4294967296) (by omega) (by omega)]
      decide
  unfold nameV
  rw [List.nil_append, e, nums_str _ (beBs_lt _ _)]
  simp [beBs]
theorem name_inj {w1 k1 w2 k2 : Int} (a0 : 0 ≤ w1) (a1 : w1 < 4294967296) (a2 : 0 ≤ k1) (a3 : k1 < 18446744073709551616) (b0 : 0 ≤ w2) (b1 : w2 < 4294967296) (b2 : 0 ≤ k2) (b3 : k2 < 18446744073709551616)
    (h : nameV w1 k1 = nameV w2 k2) : w1 = w2 ∧ k1 = k2 := by
  have h1 := congrArg nums h
  rw [name_bytes a0 a1 a2 a3, name_bytes b0 b1 b2 b3] at h1
  obtain ⟨e1, h2⟩ := List.append_inj h1 (by rw [beB_length, beB_length])
  obtain ⟨e2, e3⟩ := List.append_inj h2 (by rw [beB_length, beB_length])
  have f1 := congrArg beL e1
  have f2 := congrArg beL e2
  have f3 := congrArg beL e3
  rw [beL_beB, beL_beB] at f1 f2 f3
  have p : (256 : Nat) ^ 4 = 4294967296 := by decide
  rw [p] at f1 f2 f3
  omega
/-- what somebody else asks changes nothing of mine, but that room may be full -/
theorem apart_law {c : Cfg} {room : Int} {ps : List PairV} {now : Int} {uw uk vw vk : Int} {ub vb ans : ByteArray} (hs : Sorted ps) (hr : (checkV c != 0) = false → room = c.keys) (u0 : 0 ≤ uk) (u1 : uk ≤ 18446744073709551615) (v0 : 0 ≤ vk) (v1 : vk ≤ 18446744073709551615)
    (hne : ((uw == vw) && (uk == vk)) = false) (hv : ((lookV c ps now vw vk vb).2 != 1) = false) :
    (((lookV c ps now uw uk ub).1.toList == (lookV c (withV room (nameV vw vk) ⟨vk / 4294967296, vb, ans⟩ (ps.filter (keepB c now))).1 now uw uk ub).1.toList) &&
      (((lookV c ps now uw uk ub).2 == (lookV c (withV room (nameV vw vk) ⟨vk / 4294967296, vb, ans⟩ (ps.filter (keepB c now))).1 now uw uk ub).2) ||
        (((lookV c ps now uw uk ub).2 == 1) && ((lookV c (withV room (nameV vw vk) ⟨vk / 4294967296, vb, ans⟩ (ps.filter (keepB c now))).1 now uw uk ub).2 == 5)))) = true := by
  have hv1 : (lookV c ps now vw vk vb).2 = 1 := by simpa using hv
  obtain ⟨h1, h2, h3⟩ := look_new hv1
  rw [with_add hr hv1]
  cases hu : (isTickV now uw && isGoodV c uk now) with
  | false => rw [look_out hu, look_out hu]; simp
  | true =>
    rw [look_in hu, look_in hu, filter_add _ (br h1)]
    have hn : nameV uw uk ≠ nameV vw vk := fun e => by
      have t1 := tick_of (bl hu)
      have t2 := tick_of (bl h1)
      obtain ⟨e1, e2⟩ := name_inj (by omega) (by omega) u0 (by omega) (by omega) (by omega) v0 (by omega) e
      rw [e1, e2] at hne
      simp at hne
    have hso := sorted_keep hs (keepB c now)
    unfold lookOn
    rw [get_ins_ne hso h2 hn, ins_len]
    generalize ps.filter (keepB c now) = on at *
    generalize getV (nameV uw uk) on = g at *
    cases hg : g.2 with
    | true =>
      cases hb : (g.1.body.toList == ub.toList) <;> simp
    | false =>
      simp only [Bool.false_and, cond_false]
      rw [h3]
      simp only [cond_false]
      cases hl : (((on.length + 1 : Nat) : Int) == c.keys) <;> simp
end Go.Proofs.Ytfhhfmkfkoemjaa.Se6
