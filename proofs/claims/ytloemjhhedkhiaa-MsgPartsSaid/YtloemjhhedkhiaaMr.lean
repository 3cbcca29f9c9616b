/- Layer 14: plain laws: what was decoded is encoded as it was; a byte more, a byte less. -/
import Derived.Test.YtloemjhhedkhiaaProg
import Derived.Below
import Derived.WalkKit
import Derived.KernelRfl
import Derived.RowKit3
import Derived.Deep.LoopGhost
import Derived.Deep.QuietTactic
import Derived.BigQuiet
import Derived.WideLaws
import Derived.Deep.DeepCutAuto
import Derived.Deep.CutBlock
import Derived.Lib.Hide
import Derived.Laws.BitsLemmas
import Derived.Laws.Bits64
import Derived.Laws.BitsAllLaws
import Derived.IntWalk
import Derived.Outline
import Derived.WalkSpells
import Derived.Test.YtloemjhhedkhiaaMem
import Derived.Test.YtloemjhhedkhiaaMq
namespace Go.Proofs.Ytloemjhhedkhiaa.Ms
set_option linter.unusedVariables false
set_option linter.unusedSimpArgs false
open Go.RowKit Go.Proofs.Ytloemjhhedkhiaa.Mem Go.Proofs.Ytloemjhhedkhiaa.Pk Go.Proofs.Ytloemjhhedkhiaa.Ca

theorem encode_decoded {s : ByteArray} (h : (decodeV s).2 = 0) : encodeV (decodeV s).1 = (s, 0) := by
  obtain ⟨h1, _, _, h4⟩ := decode_is h
  rw [h1]
  simp only []
  unfold encodeV
  rw [h4]
  simp only []
  rw [h1]
  simp [(same_iff (foundV s).1 (foundV s).1).2 rfl]
theorem str_more (a b : List Nat) : str (a ++ b) = str a ++ str b := by
  apply ByteArray.ext
  simp [str, ByteArray.data_append]
theorem str_some {x : List Nat} (hx : x ≠ []) : (str x).toList.isEmpty = false := by
  rw [ByteArray.toList_eq]
  cases x with
  | nil => exact absurd rfl hx
  | cons y l => simp [str]
theorem whole_more {q : ReqV} {ps : List Part} (h : Whole q ps) (x : List Nat) (hx : x ≠ []) (hlt : ∀ c ∈ x, c < 256) : decodeV (str (headOf q ++ bytesOf q ps) ++ str x) = (noReq, 4) := by
  rw [← str_more]
  refine decode_no fun h0 => ?_
  have h1 := (decode_is h0).2.2.1
  rw [(found_back h x hlt).1] at h1
  simp only [str_some hx, Bool.and_false] at h1
  cases h1
theorem decode_more {q : ReqV} (hq : okReq q) (h : (encodeV q).2 = 0) (x : List Nat) (hx : x ≠ []) (hlt : ∀ c ∈ x, c < 256) : decodeV ((encodeV q).1 ++ str x) = (noReq, 4) := by
  obtain ⟨ps, hw, hf⟩ := encode_is hq h
  rw [encode_whole hw hf]
  exact whole_more hw x hx hlt
theorem str_less (a : List Nat) (c : Nat) : (str (a ++ [c])).extract 0 ((str (a ++ [c])).size - 1) = str a := by
  apply ByteArray.ext
  rw [ByteArray.data_extract, str_size]
  apply Array.ext'
  simp [str]
theorem decode_less {q : ReqV} (hq : okReq q) (h : (encodeV q).2 = 0) : decodeV ((encodeV q).1.extract 0 ((encodeV q).1.size - 1)) = (noReq, 4) := by
  have hb := encode_back hq h
  obtain ⟨ps, hw, hf⟩ := encode_is hq h
  rw [encode_whole hw hf] at hb ⊢
  simp only [] at hb ⊢
  have hlt : ∀ c ∈ headOf q ++ bytesOf q ps, c < 256 := by
    intro c hc
    rcases List.mem_append.1 hc with h1 | h1
    · unfold headOf at h1
      rcases List.mem_append.1 h1 with h2 | h2
      · exact encs_lt _ _ c h2
      · exact encs_lt _ _ c h2
    · exact bytes_lt _ _ c h1
  generalize headOf q ++ bytesOf q ps = l at *
  rcases List.eq_nil_or_concat l with rfl | ⟨a, c, rfl⟩
  · exfalso
    exact decode_nothing (by rw [show (⟨#[]⟩ : ByteArray) = str [] from rfl, hb])
  · rw [List.concat_eq_append] at *
    rw [str_less]
    refine decode_no fun h0 => ?_
    have h4 := (decode_is h0).2.2.2
    obtain ⟨ps', hw'⟩ := whole_of (found_ok (str a)) (by rw [h4])
    have h5 := write_whole hw'
    rw [h4] at h5
    have h6 : str a = str (headOf (foundV (str a)).1 ++ bytesOf (foundV (str a)).1 ps') := (Prod.mk.inj h5).1
    have h7 := whole_more hw' [c] (by simp) (by intro x hx; exact hlt x (by simp at hx; simp [hx]))
    rw [← h6, ← str_more, hb] at h7
    exact absurd (Prod.mk.inj h7).2 (by decide)
theorem seq_encoded {q : ReqV} (hq : okReq q) (h : (encodeV q).2 = 0) : seqV (encodeV q).1 = q.seq := by
  obtain ⟨ps, hw, hf⟩ := encode_is hq h
  rw [encode_whole hw hf]
  have f := (found_back hw [] (by simp)).2
  rw [List.append_nil] at f
  unfold seqV
  rw [f, show (emptyOf q).seq = q.seq from rfl, if_pos hw.count]
theorem enc_same {a b : ReqV} (ha : okReq a) (hb : okReq b) (h1 : (encodeV a).2 = 0) (h2 : (encodeV b).2 = 0) : ((encodeV a).1.toList == (encodeV b).1.toList) = sameReq a b := by
  rw [Bool.eq_iff_iff, list_beq_iff, same_iff]
  constructor
  · intro e
    have e1 := encode_back ha h1
    rw [e, encode_back hb h2] at e1
    exact (Prod.mk.inj e1).1.symm
  · intro e
    rw [e]
theorem encode_some {q : ReqV} (hq : okReq q) (h : (encodeV q).2 = 0) : 1 ≤ (encodeV q).1.size := by
  have hb := encode_back hq h
  rcases Nat.eq_zero_or_pos (encodeV q).1.size with h0 | h0
  · exfalso
    have e : (encodeV q).1 = ⟨#[]⟩ := by
      apply ByteArray.ext
      exact Array.eq_empty_of_size_eq_zero h0
    rw [e] at hb
    exact decode_nothing (by rw [hb])
  · exact h0
end Go.Proofs.Ytloemjhhedkhiaa.Ms
