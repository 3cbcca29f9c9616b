/- Layer 14: plain laws: encode and decode are the reference's. -/
import Derived.Test.YtloemjhhedkhiaaProg
import Derived.Below
import Derived.WalkKit
import Derived.KernelRfl
import Derived.RowKit3
import Derived.Deep.LoopGhost
import Derived.Deep.QuietTactic
import Derived.BigQuiet
import Derived.WideLaws
import Derived.Deep.DeepCutAuto
import Derived.Deep.CutBlock
import Derived.Lib.Hide
import Derived.Laws.BitsLemmas
import Derived.Laws.Bits64
import Derived.Laws.BitsAllLaws
import Derived.IntWalk
import Derived.Outline
import Derived.WalkSpells
import Derived.Test.YtloemjhhedkhiaaMem
import Derived.Test.YtloemjhhedkhiaaRg4
namespace Go.Proofs.Ytloemjhhedkhiaa.Ms
open Go.RowKit Go.Proofs.Ytloemjhhedkhiaa.Mem Go.Proofs.Ytloemjhhedkhiaa.Pk Go.Proofs.Ytloemjhhedkhiaa.Ca Go.Proofs.Ytloemjhhedkhiaa.Wk
set_option linter.unusedVariables false
set_option linter.unusedSimpArgs false

theorem nums_len (q : ReqV) : (numsQ q).length = 16 := rfl
theorem enc_ref {q : ReqV} (hq : okReq q) : ((encodeV q).2 = 0 ↔ formB q = true ∧ goodR (numsQ q) = true) ∧ ((encodeV q).2 = 0 → (encodeV q).1 = str (refB (numsQ q))) := by
  by_cases hk : 1 ≤ q.kind ∧ q.kind ≤ 10
  · obtain ⟨kind, seq, who, role, token, key, ⟨c0, c1, c2, c3, c4, c5, c6, c7⟩, id, car, mode, ⟨fk, fn⟩⟩ := q
    have : kind = 1 ∨ kind = 2 ∨ kind = 3 ∨ kind = 4 ∨ kind = 5 ∨ kind = 6 ∨ kind = 7 ∨ kind = 8 ∨ kind = 9 ∨ kind = 10 := by
      have h1 : 1 ≤ kind := hk.1
      have h2 : kind ≤ 10 := hk.2
      omega
    rcases this with rfl | rfl | rfl | rfl | rfl | rfl | rfl | rfl | rfl | rfl
    · exact good_k1 _ _ _ _ _ _ _ _ _ _ _ _ _ _ _ _ _ _ hq
    · exact good_k2 _ _ _ _ _ _ _ _ _ _ _ _ _ _ _ _ _ _ hq
    · exact good_k3 _ _ _ _ _ _ _ _ _ _ _ _ _ _ _ _ _ _ hq
    · exact good_k4 _ _ _ _ _ _ _ _ _ _ _ _ _ _ _ _ _ _ hq
    · exact good_k5 _ _ _ _ _ _ _ _ _ _ _ _ _ _ _ _ _ _ hq
    · exact good_k6 _ _ _ _ _ _ _ _ _ _ _ _ _ _ _ _ _ _ hq
    · exact good_k7 _ _ _ _ _ _ _ _ _ _ _ _ _ _ _ _ _ _ hq
    · exact good_k8 _ _ _ _ _ _ _ _ _ _ _ _ _ _ _ _ _ _ hq
    · exact good_k9 _ _ _ _ _ _ _ _ _ _ _ _ _ _ _ _ _ _ hq
    · exact good_k10 _ _ _ _ _ _ _ _ _ _ _ _ _ _ _ _ _ _ hq
  · have h0 : ¬ (encodeV q).2 = 0 := fun h => by
      obtain ⟨ps, hw, _⟩ := encode_is hq h
      have := kind_few _ _ hw.parts
      omega
    refine ⟨⟨fun h => absurd h h0, fun h => ?_⟩, fun h => absurd h h0⟩
    have h1 := (head_of h.2).1
    unfold headR at h1
    simp only [Bool.or_eq_false_iff, Bool.not_eq_false'] at h1
    exact absurd (is_kind h1.1.1) hk
theorem enc_refV {q : ReqV} (hq : okReq q) (hf : formB q = true) (hg : goodR (numsQ q) = true) : encodeV q = (str (refB (numsQ q)), 0) := by
  have h := (enc_ref hq).1.2 ⟨hf, hg⟩
  exact Prod.ext ((enc_ref hq).2 h) h
def reqOf (r : List Int) : ReqV := ⟨r.getD 0 0, r.getD 1 0, r.getD 2 0, r.getD 3 0, r.getD 4 0, r.getD 5 0 * 4294967296 + r.getD 6 0, ⟨0, r.getD 7 0, r.getD 8 0, r.getD 9 0, r.getD 10 0, 0, 0, 0⟩, r.getD 11 0, r.getD 12 0, r.getD 13 0, ⟨r.getD 14 0, r.getD 15 0⟩⟩
theorem num_in {r : List Int} (hg : goodR r = true) {j : Nat} (hj : j < 16) : 0 ≤ r.getD j 0 ∧ r.getD j 0 ≤ 4294967295 := by
  by_cases h : 0 < szR r j
  · obtain ⟨h1, h2, h3⟩ := num_good hg hj h
    refine ⟨h2, ?_⟩
    generalize r.getD j 0 = n at h3 ⊢
    rcases h1 with e | e <;> rw [e] at h3 <;> simp at h3 <;> omega
  · rw [zero_of hg hj h]
    decide
theorem req_nums {r : List Int} (hl : r.length = 16) (hg : goodR r = true) : numsQ (reqOf r) = r := by
  refine list_ext16 rfl hl fun j hj => ?_
  have h5 := num_in hg (j := 5) (by omega)
  have h6 := num_in hg (j := 6) (by omega)
  have e5 : (r.getD 5 0 * 4294967296 + r.getD 6 0) / 4294967296 = r.getD 5 0 := by omega
  have e6 : (r.getD 5 0 * 4294967296 + r.getD 6 0) % 4294967296 = r.getD 6 0 := by omega
  have : j = 0 ∨ j = 1 ∨ j = 2 ∨ j = 3 ∨ j = 4 ∨ j = 5 ∨ j = 6 ∨ j = 7 ∨ j = 8 ∨ j = 9 ∨ j = 10 ∨ j = 11 ∨ j = 12 ∨ j = 13 ∨ j = 14 ∨ j = 15 := by omega
  rcases this with rfl | rfl | rfl | rfl | rfl | rfl | rfl | rfl | rfl | rfl | rfl | rfl | rfl | rfl | rfl | rfl <;> first | rfl | exact e5 | exact e6
theorem req_ok {r : List Int} (hg : goodR r = true) : okReq (reqOf r) := by
  have h4 := num_in hg (j := 4) (by omega)
  have h5 := num_in hg (j := 5) (by omega)
  have h6 := num_in hg (j := 6) (by omega)
  refine ⟨h4, ?_, ?_⟩
  · show 0 ≤ r.getD 5 0 * 4294967296 + r.getD 6 0
    omega
  · show r.getD 5 0 * 4294967296 + r.getD 6 0 ≤ 18446744073709551615
    omega
theorem decoded_ok {s : ByteArray} (h : (decodeV s).2 = 0) : okReq (decodeV s).1 := by
  rw [(decode_is h).1]
  exact found_ok s
theorem refB_len {r : List Int} : 5 ≤ (refB r).length := by
  unfold refB
  rw [bytesR_is]
  have h : ∀ i, 5 ≤ (bytesZ (sizeL (r.getD 0 0)) r (i + 2)).length := by
    intro i
    induction i with
    | zero =>
      simp only [bytesZ, pieceZ, sz_first, sz_second]
      simp [beB_length]
    | succ i ih =>
      rw [bytesZ, List.length_append]
      omega
  exact h 14
/-- what the reference accepts, and what it reads -/
theorem dec_yes {s : ByteArray} (h : decOk s = true) : ∃ q, okReq q ∧ formB q = true ∧ goodR (numsQ q) = true ∧ decL s = numsQ q ∧ decodeV s = (q, 0) := by
  have hv : decL s = (rdV s).1 := by unfold decL; rw [h]; rfl
  unfold decOk at h
  cases h5 : decide ((s.size : Int) < 5) with
  | true => rw [h5] at h; cases h
  | false =>
    rw [h5] at h
    simp only [cond_false, Bool.not_eq_true', Bool.or_eq_false_iff, Bool.not_eq_false', decide_eq_false_iff_not] at h
    obtain ⟨⟨⟨hk, hb⟩, hs⟩, hg⟩ := h
    obtain ⟨g1, g2, g3⟩ := rd_bwd (sizeL (idxB s 0)) (size_get _) s 16 (by omega) hb
    have hn : nums (rdV s).2.1 = [] := by
      apply List.length_eq_zero_iff.1
      rw [nums_length]
      omega
    unfold rdV at hn hg hv
    rw [hn, List.append_nil] at g1
    generalize (rdTo (sizeL (idxB s 0)) s 16).1 = r at g1 g2 g3 hg hv
    have h0 := g3 0 (by omega) (by rw [sz_first]; decide)
    rw [sz_first] at h0
    have e0 : r.getD 0 0 = idxB s 0 := by
      obtain ⟨t, ht⟩ := bytesZ_head (sizeL (idxB s 0)) r 15
      have hp : pieceZ (sizeL (idxB s 0)) r 0 = beB 1 (r.getD 0 0).toNat := by
        unfold pieceZ
        rw [sz_first]
        rfl
      rw [ht, hp] at g1
      have : idxB s 0 = (((nums s).getD 0 0 : Nat) : Int) := rfl
      rw [this, g1]
      generalize r.getD 0 0 = n at h0 ⊢
      simp [beB] at h0 ⊢
      omega
    have hbytes : s = str (refB r) := by
      apply nums_inj
      rw [g1]
      unfold refB
      rw [bytesR_is, e0, nums_str]
      intro c hc
      have := nums_lt s
      rw [g1] at this
      exact this c hc
    have hq := req_ok hg
    have hn2 := req_nums g2 hg
    have he := enc_refV hq rfl (by rw [hn2]; exact hg)
    have hd := encode_back hq (by rw [he])
    rw [he, hn2] at hd
    simp only at hd
    rw [← hbytes] at hd
    exact ⟨reqOf r, hq, rfl, by rw [hn2]; exact hg, by rw [hv, hn2], hd⟩
theorem dec_no {s : ByteArray} (h : decOk s = false) : decodeV s = (noReq, 4) := by
  refine decode_no fun h0 => ?_
  have hq := decoded_ok h0
  have he := encode_decoded h0
  have h2 : (encodeV (decodeV s).1).2 = 0 := by rw [he]
  obtain ⟨hf, hg⟩ := (enc_ref hq).1.1 h2
  have hb := (enc_ref hq).2 h2
  rw [he] at hb
  simp only at hb
  generalize (decodeV s).1 = q at hg hb
  have hr := rd_all (nums_len q) hg
  rw [← hb] at hr
  have hl := refB_len (r := numsQ q)
  have hsz : 5 ≤ s.size := by rw [hb, str_size]; exact hl
  have e0 : idxB s 0 = (numsQ q).getD 0 0 := by
    have h1 := num_good hg (i := 0) (by omega) (by unfold szR; rw [sz_first]; decide)
    have e1 : szR (numsQ q) 0 = 1 := sz_first _
    rw [e1] at h1
    have : idxB s 0 = (((nums s).getD 0 0 : Nat) : Int) := rfl
    rw [this, hb, nums_str]
    · unfold refB
      rw [bytesR_is]
      obtain ⟨t, ht⟩ := bytesZ_head (sizeL ((numsQ q).getD 0 0)) (numsQ q) 15
      have hp : pieceZ (sizeL ((numsQ q).getD 0 0)) (numsQ q) 0 = beB 1 ((numsQ q).getD 0 0).toNat := by
        unfold pieceZ
        rw [sz_first]
        rfl
      rw [ht, hp]
      generalize (numsQ q).getD 0 0 = n at h1 ⊢
      simp [beB] at h1 ⊢
      omega
    · intro c hc
      have h3 := tail_lt (sizeL ((numsQ q).getD 0 0)) (numsQ q) 16 c
      apply h3
      have h4 := tail_all (sizeL ((numsQ q).getD 0 0)) (numsQ q) 16 (by omega)
      unfold refB at hc
      rw [bytesR_is, ← h4] at hc
      simpa [bytesZ] using hc
  have h1 := (head_of hg).1
  unfold headR at h1
  simp only [Bool.or_eq_false_iff, Bool.not_eq_false'] at h1
  unfold decOk rdV at h
  rw [decide_eq_false (by omega : ¬ ((s.size : Int) < 5)), e0, hr, h1.1.1, hg] at h
  simp [str_size] at h
end Go.Proofs.Ytloemjhhedkhiaa.Ms
