/- Layer 14: plain laws: what the reference decodes is what the program decodes. -/
import Derived.Test.YtloemjhhedkhiaaProg
import Derived.Below
import Derived.WalkKit
import Derived.KernelRfl
import Derived.RowKit3
import Derived.Deep.LoopGhost
import Derived.Deep.QuietTactic
import Derived.BigQuiet
import Derived.WideLaws
import Derived.Deep.DeepCutAuto
import Derived.Deep.CutBlock
import Derived.Lib.Hide
import Derived.Laws.BitsLemmas
import Derived.Laws.Bits64
import Derived.Laws.BitsAllLaws
import Derived.IntWalk
import Derived.Outline
import Derived.WalkSpells
import Derived.Test.YtloemjhhedkhiaaMem
import Derived.Test.YtloemjhhedkhiaaRg3
namespace Go.Proofs.Ytloemjhhedkhiaa.Ms
open Go.RowKit Go.Proofs.Ytloemjhhedkhiaa.Mem Go.Proofs.Ytloemjhhedkhiaa.Pk Go.Proofs.Ytloemjhhedkhiaa.Ca
set_option linter.unusedVariables false
set_option linter.unusedSimpArgs false

theorem beB_beL : ∀ (n : Nat) (l : List Nat), l.length = n → (∀ c ∈ l, c < 256) → beB n (beL l) = l
  | 0, l, h, _ => by
    obtain rfl := List.length_eq_zero_iff.1 h
    rfl
  | n + 1, l, h, hc => by
    rcases List.eq_nil_or_concat l with rfl | ⟨m, b, rfl⟩
    · cases h
    · rw [List.concat_eq_append] at *
      rw [beL_snoc, beB]
      have hb : b < 256 := hc b (by simp)
      rw [show (beL m * 256 + b) / 256 = beL m by omega, show (beL m * 256 + b) % 256 = b by omega, beB_beL n m (by simpa using h) (fun c h => hc c (by simp [h]))]
theorem nums_extract (s : ByteArray) (n : Nat) : nums (s.extract n s.size) = (nums s).drop n := by
  have h : s = str (nums s) := (str_nums s).symm
  rcases Nat.lt_or_ge (nums s).length n with h1 | h1
  · rw [List.drop_eq_nil_of_le (by omega)]
    have : (s.extract n s.size).size = 0 := by rw [nums_length] at h1; simp; omega
    rw [← nums_length] at this
    exact List.length_eq_zero_iff.1 this
  · have h2 : s = str ((nums s).take n ++ (nums s).drop n) := by rw [List.take_append_drop]; exact h
    have h3 := str_extract_tail ((nums s).take n) ((nums s).drop n) n (by simp; omega) _ rfl
    rw [← h2] at h3
    rw [h3, nums_str]
    intro c hc
    exact nums_lt s c (List.mem_of_mem_drop hc)
theorem rd_back {k n : Nat} (hk : k = 1 ∨ k = 4) {r : List Nat} (hr : ∀ c ∈ r, c < 256) (hn : n < 256 ^ k) : inNumV (str (beB k n ++ r)) false k = (n, str r, false) := by
  have h1 : be (str (beB k n ++ r)) k = n := by rw [be_str k n r hr, Nat.mod_eq_of_lt hn]
  have hl : k ≤ (str (beB k n ++ r)).size := by rw [str_size, List.length_append, beB_length]; omega
  have hw : wide k = true := by rcases hk with rfl | rfl <;> rfl
  have h63 : n < 9223372036854775808 := by
    rcases hk with rfl | rfl <;> (simp at hn; omega)
  unfold inNumV
  rw [show (k : Int).toNat = k from rfl, if_pos ⟨rfl, hw, by omega, by rw [h1]; exact h63⟩, h1, str_extract_tail _ _ k (beB_length _ _) _ rfl]
theorem rd_not {k : Nat} {s : ByteArray} {b : Bool} (h : (inNumV s b k).2.2 = false) : b = false ∧ nums s = beB k (inNumV s b k).1 ++ nums (inNumV s b k).2.1 ∧ (inNumV s b k).1 < 256 ^ k := by
  unfold inNumV at h ⊢
  split
  · rename_i h1
    obtain ⟨h1, h2, h3, h4⟩ := h1
    have hk : k ≤ s.size := by omega
    refine ⟨h1, ?_, be_lt s k hk⟩
    simp only [Int.toNat_natCast]
    have e1 : beB k (be s k) = (nums s).take k := beB_beL k _ (by rw [List.length_take, nums_length]; omega) (fun c hc => nums_lt s c (List.mem_of_mem_take hc))
    rw [e1, nums_extract, List.take_append_drop]
  · rename_i h1
    rw [if_neg h1] at h
    cases h
theorem nums_inj {s t : ByteArray} (h : nums s = nums t) : s = t := by rw [← str_nums s, h, str_nums]
theorem sz_first (k : Int) : (sizeL k).getD 0 0 = 1 := by
  unfold sizeL
  cases k == 1 <;> cases k == 2 <;> cases k == 3 <;> cases k == 7 <;> cases k == 9 <;> cases k == 4 <;> cases k == 5 <;> cases k == 6 <;> cases k == 8 <;> cases k == 10 <;> rfl
theorem sz_second (k : Int) : (sizeL k).getD 1 0 = 4 := by
  unfold sizeL
  cases k == 1 <;> cases k == 2 <;> cases k == 3 <;> cases k == 7 <;> cases k == 9 <;> cases k == 4 <;> cases k == 5 <;> cases k == 6 <;> cases k == 8 <;> cases k == 10 <;> rfl
theorem zero_of {r : List Int} (hg : goodR r = true) {i : Nat} (hi : i < 16) (hs : ¬ 0 < szR r i) : r.getD i 0 = 0 := by
  rcases Nat.lt_or_ge i 2 with h | h
  · exfalso
    have : i = 0 ∨ i = 1 := by omega
    rcases this with rfl | rfl
    · have := sz_first (r.getD 0 0); unfold szR at hs; omega
    · have := sz_second (r.getD 0 0); unfold szR at hs; omega
  · have h5 := ok_at (head_of hg).2.1 h hi
    have h6 : szR r i = 0 := by
      rcases size_get (r.getD 0 0) i with e | e | e
      · exact e
      · unfold szR at hs; omega
      · unfold szR at hs; omega
    unfold okR at h5
    rw [h6] at h5
    generalize r.getD i 0 = n at h5 ⊢
    simp at h5
    exact h5
def pieceZ (z r : List Int) (j : Nat) : List Nat := bif decide (0 < z.getD j 0) then beB (z.getD j 0).toNat (r.getD j 0).toNat else []
def bytesZ (z r : List Int) : Nat → List Nat
  | 0 => []
  | i + 1 => bytesZ z r i ++ pieceZ z r i
theorem bytesR_is (r : List Int) : ∀ i, bytesR r i = bytesZ (sizeL (r.getD 0 0)) r i
  | 0 => rfl
  | i + 1 => by
    rw [bytesR, bytesR_is r i]
    rfl
theorem bytesZ_congr {z r l : List Int} : ∀ {i : Nat}, (∀ j, j < i → r.getD j 0 = l.getD j 0) → bytesZ z r i = bytesZ z l i
  | 0, _ => rfl
  | i + 1, h => by
    rw [bytesZ, bytesZ, bytesZ_congr (fun j hj => h j (by omega))]
    unfold pieceZ
    rw [h i (by omega)]
theorem bytesZ_head (z r : List Int) : ∀ i, ∃ t, bytesZ z r (i + 1) = pieceZ z r 0 ++ t
  | 0 => ⟨[], by simp [bytesZ]⟩
  | i + 1 => by
    obtain ⟨t, ht⟩ := bytesZ_head z r i
    exact ⟨t ++ pieceZ z r (i + 1), by rw [bytesZ, ht, List.append_assoc]⟩
def tailZ (z r : List Int) : Nat → List Nat
  | 0 => []
  | n + 1 => pieceZ z r (15 - n) ++ tailZ z r n
theorem tail_all (z r : List Int) : ∀ n, n ≤ 16 → bytesZ z r (16 - n) ++ tailZ z r n = bytesZ z r 16
  | 0, _ => by simp [tailZ]
  | n + 1, h => by
    rw [tailZ, ← List.append_assoc, ← tail_all z r n (by omega), show 16 - n = (16 - (n + 1)) + 1 by omega, bytesZ, show 15 - n = 16 - (n + 1) by omega]
theorem piece_lt (z r : List Int) (j : Nat) : ∀ c ∈ pieceZ z r j, c < 256 := by
  unfold pieceZ
  cases decide (0 < z.getD j 0)
  · intro c hc; cases hc
  · exact beB_lt _ _
theorem tail_lt (z r : List Int) : ∀ n, ∀ c ∈ tailZ z r n, c < 256
  | 0, c, hc => by cases hc
  | n + 1, c, hc => by
    rcases List.mem_append.1 hc with h | h
    · exact piece_lt z r _ c h
    · exact tail_lt z r n c h
theorem getD_set_self {l : List Int} {i : Nat} (hi : i < l.length) (n : Int) : (l.set i n).getD i 0 = n := by
  simp [List.getD_eq_getElem?_getD, hi]
theorem getD_set_ne {l : List Int} {i j : Nat} (h : i ≠ j) (n : Int) : (l.set i n).getD j 0 = l.getD j 0 := by
  simp [List.getD_eq_getElem?_getD, h]
/-- good numbers' bytes are read as they were -/
theorem rd_fwd {r : List Int} (hg : goodR r = true) : ∀ i, i ≤ 16 → ∃ l, rdTo (sizeL (r.getD 0 0)) (str (refB r)) i = (l, str (tailZ (sizeL (r.getD 0 0)) r (16 - i)), false) ∧ l.length = 16 ∧ ∀ j, j < 16 → l.getD j 0 = if j < i then r.getD j 0 else 0
  | 0, _ => ⟨[0, 0, 0, 0, 0, 0, 0, 0, 0, 0, 0, 0, 0, 0, 0, 0], by
      rw [rdTo, refB, bytesR_is, ← tail_all _ r 16 (by omega)]
      rfl, rfl, by
      intro j hj
      rw [if_neg (by omega)]
      revert j
      decide⟩
  | i + 1, hi => by
    obtain ⟨l, h1, h2, h3⟩ := rd_fwd hg i (by omega)
    have ht : tailZ (sizeL (r.getD 0 0)) r (16 - i) = pieceZ (sizeL (r.getD 0 0)) r i ++ tailZ (sizeL (r.getD 0 0)) r (16 - (i + 1)) := by
      rw [show 16 - i = (16 - (i + 1)) + 1 by omega, tailZ, show 15 - (16 - (i + 1)) = i by omega]
    by_cases hz : 0 < (sizeL (r.getD 0 0)).getD i 0
    · obtain ⟨k1, k2, k3⟩ := num_good hg (i := i) (by omega) hz
      unfold szR at k1 k3
      have hp : pieceZ (sizeL (r.getD 0 0)) r i = beB ((sizeL (r.getD 0 0)).getD i 0).toNat (r.getD i 0).toNat := by
        unfold pieceZ
        rw [decide_eq_true hz]
        rfl
      rw [ht, hp] at h1
      have hn : inNumV (str (beB ((sizeL (r.getD 0 0)).getD i 0).toNat (r.getD i 0).toNat ++ tailZ (sizeL (r.getD 0 0)) r (16 - (i + 1)))) false ((sizeL (r.getD 0 0)).getD i 0) = ((r.getD i 0).toNat, str (tailZ (sizeL (r.getD 0 0)) r (16 - (i + 1))), false) := by
        generalize (sizeL (r.getD 0 0)).getD i 0 = k at k1 k3 ⊢
        generalize r.getD i 0 = n at k2 k3 ⊢
        have hh : n.toNat < 256 ^ k.toNat := by
          rcases k1 with rfl | rfl
          · simp at k3 ⊢; omega
          · simp at k3 ⊢; omega
        have := rd_back (k := k.toNat) (n := n.toNat) (by rcases k1 with rfl | rfl <;> simp) (tail_lt (sizeL (r.getD 0 0)) r (16 - (i + 1))) hh
        rw [show ((k.toNat : Nat) : Int) = k by omega] at this
        exact this
      refine ⟨l.set i (r.getD i 0), ?_, by rw [List.length_set, h2], fun j hj => ?_⟩
      · have h4 := rd_yes h1 (decide_eq_true hz) hn
        rw [show (((r.getD i 0).toNat : Nat) : Int) = r.getD i 0 by omega] at h4
        exact h4
      · by_cases hj2 : i = j
        · subst hj2
          rw [getD_set_self (by omega), if_pos (by omega)]
        · rw [getD_set_ne hj2, h3 j hj]
          by_cases hj3 : j < i
          · rw [if_pos hj3, if_pos (by omega)]
          · rw [if_neg hj3, if_neg (by omega)]
    · have hp : pieceZ (sizeL (r.getD 0 0)) r i = [] := by
        unfold pieceZ
        rw [decide_eq_false hz]
        rfl
      rw [ht, hp, List.nil_append] at h1
      refine ⟨l, rd_no h1 (decide_eq_false hz), h2, fun j hj => ?_⟩
      rw [h3 j hj]
      by_cases hj3 : j < i
      · rw [if_pos hj3, if_pos (by omega)]
      · by_cases hj2 : j = i
        · subst hj2
          rw [if_neg hj3, if_pos (by omega)]
          exact (zero_of hg (by omega) hz).symm
        · rw [if_neg hj3, if_neg (by omega)]
theorem list_ext16 {l r : List Int} (hl : l.length = 16) (hr : r.length = 16) (h : ∀ j, j < 16 → l.getD j 0 = r.getD j 0) : l = r := by
  apply List.ext_getElem (by omega)
  intro j h1 h2
  have := h j (by omega)
  simpa [List.getD_eq_getElem?_getD, h1, h2] using this
theorem rd_all {r : List Int} (hl : r.length = 16) (hg : goodR r = true) : rdTo (sizeL (r.getD 0 0)) (str (refB r)) 16 = (r, str [], false) := by
  obtain ⟨l, h1, h2, h3⟩ := rd_fwd hg 16 (by omega)
  rw [h1, list_ext16 h2 hl (fun j hj => by rw [h3 j hj, if_pos hj])]
  rfl
/-- what was read stands there -/
theorem rd_bwd (z : List Int) (hz : ∀ j, z.getD j 0 = 0 ∨ z.getD j 0 = 1 ∨ z.getD j 0 = 4) (s : ByteArray) : ∀ i, i ≤ 16 → (rdTo z s i).2.2 = false →
    nums s = bytesZ z (rdTo z s i).1 i ++ nums (rdTo z s i).2.1 ∧ (rdTo z s i).1.length = 16 ∧ ∀ j, j < i → 0 < z.getD j 0 → 0 ≤ (rdTo z s i).1.getD j 0 ∧ (rdTo z s i).1.getD j 0 < (256 : Int) ^ (z.getD j 0).toNat
  | 0, _, _ => ⟨by simp [bytesZ, rdTo], rfl, fun j hj => by omega⟩
  | i + 1, hi, h => by
    by_cases hp : 0 < z.getD i 0
    · have e : rdTo z s (i + 1) = ((rdTo z s i).1.set i ((inNumV (rdTo z s i).2.1 (rdTo z s i).2.2 (z.getD i 0)).1 : Int), (inNumV (rdTo z s i).2.1 (rdTo z s i).2.2 (z.getD i 0)).2) := by
        rw [rdTo, decide_eq_true hp]
        rfl
      rw [e] at h ⊢
      simp only at h ⊢
      have hk : (((z.getD i 0).toNat : Nat) : Int) = z.getD i 0 := by omega
      rw [← hk] at h
      obtain ⟨h1, h2, h3⟩ := rd_not h
      rw [hk] at h2 h3
      obtain ⟨g1, g2, g3⟩ := rd_bwd z hz s i (by omega) h1
      refine ⟨?_, by rw [List.length_set]; exact g2, fun j hj hj2 => ?_⟩
      · rw [bytesZ, bytesZ_congr (l := (rdTo z s i).1) (fun j hj => getD_set_ne (by omega) _), g1, h2]
        unfold pieceZ
        rw [decide_eq_true hp, getD_set_self (by omega)]
        simp [List.append_assoc]
      · by_cases hji : i = j
        · subst hji
          rw [getD_set_self (by omega)]
          refine ⟨by omega, ?_⟩
          generalize (inNumV (rdTo z s i).2.1 (rdTo z s i).2.2 (z.getD i 0)).1 = n at h3 ⊢
          have := hz i
          rcases this with e2 | e2 | e2
          · omega
          · rw [e2] at h3 ⊢; simp at h3 ⊢; omega
          · rw [e2] at h3 ⊢; simp at h3 ⊢; omega
        · rw [getD_set_ne hji]
          exact g3 j (by omega) hj2
    · have e : rdTo z s (i + 1) = rdTo z s i := by
        rw [rdTo, decide_eq_false hp]
        rfl
      rw [e] at h ⊢
      obtain ⟨g1, g2, g3⟩ := rd_bwd z hz s i (by omega) h
      refine ⟨?_, g2, fun j hj hj2 => ?_⟩
      · rw [bytesZ]
        unfold pieceZ
        rw [decide_eq_false hp]
        simpa using g1
      · by_cases hji : j = i
        · subst hji
          exact absurd hj2 hp
        · exact g3 j (by omega) hj2
end Go.Proofs.Ytloemjhhedkhiaa.Ms
