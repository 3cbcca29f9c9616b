/- Layer 14: plain laws of Encode, Decode, Ask. -/
import Derived.Test.YthflkhalipkdgaaProg
import Derived.Below
import Derived.WalkKit
import Derived.KernelRfl
import Derived.RowKit3
import Derived.Deep.LoopGhost
import Derived.Deep.QuietTactic
import Derived.BigQuiet
import Derived.WideLaws
import Derived.Deep.DeepCutAuto
import Derived.Deep.CutBlock
import Derived.Lib.Hide
import Derived.Laws.BitsLemmas
import Derived.Laws.Bits64
import Derived.Laws.BitsAllLaws
import Derived.IntWalk
import Derived.Outline
import Derived.WalkSpells
import Derived.Test.YthflkhalipkdgaaGA
import Derived.Test.YthflkhalipkdgaaMp
namespace Go.Proofs.Ythflkhalipkdgaa.Ms
set_option maxRecDepth 20000
set_option linter.unusedVariables false
set_option linter.unusedSimpArgs false
open Go.RowKit Go.Proofs.Ythflkhalipkdgaa.Mem Go.Proofs.Ythflkhalipkdgaa.Pk Go.Proofs.Ythflkhalipkdgaa.Ca

theorem list_beq {x y : ByteArray} (h : (x.toList == y.toList) = true) : x = y := by
  rw [beq_iff_eq, ByteArray.toList_eq, ByteArray.toList_eq] at h
  exact ByteArray.ext (Array.toList_inj.1 h)
theorem list_beq_iff {x y : ByteArray} : (x.toList == y.toList) = true ↔ x = y := ⟨list_beq, fun h => by subst h; simp⟩
theorem end_nil : (str []).toList.isEmpty = true := by
  rw [ByteArray.toList_eq]
  rfl
theorem decode_is {s : ByteArray} (h : (decodeV s).2 = 0) : decodeV s = ((foundV s).1, 0) ∧ (partsV (startV s).1.kind).isSome = true ∧ (!(foundV s).2.2 && (foundV s).2.1.toList.isEmpty) = true ∧ writeV (foundV s).1 = (s, 0) := by
  unfold decodeV at h ⊢
  by_cases h1 : (partsV (startV s).1.kind).isSome = false
  · rw [if_pos h1] at h; cases h
  · rw [if_neg h1] at h ⊢
    by_cases h2 : (!(foundV s).2.2 && (foundV s).2.1.toList.isEmpty) = false
    · rw [if_pos h2] at h; cases h
    · rw [if_neg h2] at h ⊢
      by_cases h3 : ((writeV (foundV s).1).2 != 0) = true
      · rw [if_pos h3] at h; cases h
      · rw [if_neg h3] at h ⊢
        by_cases h4 : (!(writeV (foundV s).1).1.toList == s.toList) = true
        · rw [if_pos h4] at h; cases h
        · rw [if_neg h4]
          refine ⟨rfl, by rw [Bool.not_eq_false] at h1; exact h1, by rw [Bool.not_eq_false] at h2; exact h2, ?_⟩
          refine Prod.ext (list_beq ?_) ?_
          · cases h5 : ((writeV (foundV s).1).1.toList == s.toList)
            · rw [h5] at h4; simp at h4
            · rfl
          · simpa using h3
theorem decode_no {s : ByteArray} (h : (decodeV s).2 ≠ 0) : decodeV s = (noReq, 4) := by
  unfold decodeV at h ⊢
  repeat' split
  all_goals first | rfl | skip
  all_goals simp_all
theorem decode_whole {q : ReqV} {ps : List Part} (h : Whole q ps) (hf : fillV q ps = q) : decodeV (str (headOf q ++ bytesOf q ps)) = (q, 0) := by
  have f := found_back h [] (by simp)
  rw [List.append_nil] at f
  unfold decodeV
  rw [f.2, f.1]
  rw [show (emptyOf q).kind = q.kind from rfl, h.parts, hf, write_whole h]
  simp [end_nil]
theorem encode_whole {q : ReqV} {ps : List Part} (h : Whole q ps) (hf : fillV q ps = q) : encodeV q = (str (headOf q ++ bytesOf q ps), 0) := by
  unfold encodeV
  rw [write_whole h]
  simp only []
  rw [decode_whole h hf]
  simp [(same_iff q q).2 rfl]
theorem encode_is {q : ReqV} (hq : okReq q) (h : (encodeV q).2 = 0) : ∃ ps, Whole q ps ∧ fillV q ps = q := by
  unfold encodeV at h
  split at h
  · rename_i h1
    simp at h1
    exact absurd h h1
  · rename_i h1
    split at h
    · cases h
    · rename_i h2
      split at h
      · rename_i h3
        obtain ⟨ps, hw⟩ := whole_of hq (by simpa using h1)
        have hd := (decode_is (s := (writeV q).1) (by simpa using h2)).1
        rw [hd, same_iff] at h3
        rw [write_whole hw] at h3
        have f := found_back hw [] (by simp)
        rw [List.append_nil] at f
        rw [f.1] at h3
        exact ⟨ps, hw, h3⟩
      · cases h
theorem encode_no {q : ReqV} (h : (encodeV q).2 ≠ 0) : (encodeV q).1 = ⟨#[]⟩ := by
  unfold encodeV at h ⊢
  repeat' split
  all_goals first | rfl | skip
  all_goals simp_all
/-- Seq and Key changed -/
def withV (q : ReqV) (n k : Int) : ReqV := { q with seq := n, key := k }
theorem enc_with (q : ReqV) (n k : Int) (hk : 0 ≤ k ∧ k ≤ 18446744073709551615) (p : Part) (h : (encPart q p).2 = true) : (encPart (withV q n k) p).2 = true := by
  cases p with
  | num wd off chk =>
    have e : fieldOf (withV q n k) off = fieldOf q off := by
      unfold fieldOf
      split <;> rfl
    unfold encPart at h ⊢
    simp only [e] at h ⊢
    exact h
  | token => exact h
  | key =>
    show (encs 4 [k / 4294967296, k % 4294967296]).2 = true
    unfold encs
    rw [if_pos (by simp [wide, fitsV]; omega)]
theorem fill_with {q : ReqV} {ps : List Part} (hp : partsV q.kind = some ps) (hf : fillV q ps = q) (n k : Int) (hk : k = 0 ∨ k = q.key ∨ (q.kind == 4 || q.kind == 5) = true) : fillV (withV q n k) ps = withV q n k := by
  obtain ⟨a1, a2, a3, a4, a5, a6, ⟨a7, a8, a9, a10, a11, a12, a13, a14⟩, a15, a16, a17, ⟨a18, a19⟩⟩ := q
  simp only [] at hk hp
  have hkk : k = 0 ∨ k = a6 ∨ a1 = 4 ∨ a1 = 5 := by simpa using hk
  clear hk
  unfold partsV at hp
  repeat' (split at hp; (first | (injection hp with hp; subst hp; rename_i hkind; rw [beq_iff_eq] at hkind; subst hkind; simp [withV, fillV, copyPart, setField, fieldOf, emptyOf, noReq] at hf ⊢; omega) | skip))
  cases hp
theorem whole_with {q : ReqV} {ps : List Part} (h : Whole q ps) (n k : Int) (hn : isCountV n = true) (hk : 0 ≤ k ∧ k ≤ 18446744073709551615) : Whole (withV q n k) ps :=
  ⟨⟨h.ok.1, hk⟩, h.parts, hn, h.filter, by
    have ha := h.all
    rw [List.all_eq_true] at ha ⊢
    exact fun p hp => enc_with q n k hk p (ha p hp)⟩
/-- Encode goes well, whatever Seq and Key are -/
theorem encode_with {q : ReqV} (hq : okReq q) (h : (encodeV q).2 = 0) (n k : Int) (hn : isCountV n = true) (hk : 0 ≤ k ∧ k ≤ 18446744073709551615) (hw : k = 0 ∨ k = q.key ∨ (q.kind == 4 || q.kind == 5) = true) : (encodeV (withV q n k)).2 = 0 ∧ decodeV (encodeV (withV q n k)).1 = (withV q n k, 0) := by
  obtain ⟨ps, hw1, hf⟩ := encode_is hq h
  have e := encode_whole (whole_with hw1 n k hn hk) (fill_with hw1.parts hf n k hw)
  rw [e]
  exact ⟨rfl, decode_whole (whole_with hw1 n k hn hk) (fill_with hw1.parts hf n k hw)⟩
theorem encode_back {q : ReqV} (hq : okReq q) (h : (encodeV q).2 = 0) : decodeV (encodeV q).1 = (q, 0) := by
  obtain ⟨ps, hw1, hf⟩ := encode_is hq h
  rw [encode_whole hw1 hf]
  exact decode_whole hw1 hf
theorem ask_is {q : ReqV} (h : (encodeV q).2 = 0) : askV q = (encodeV (withV q 0 0)).1 := by
  unfold askV
  rw [if_neg (by simp [h])]
  rfl
theorem ask_no {q : ReqV} (h : (encodeV q).2 ≠ 0) : askV q = ⟨#[]⟩ := by
  unfold askV
  rw [if_pos (by simp [h])]
theorem ask_back {q : ReqV} (hq : okReq q) (h : (encodeV q).2 = 0) : decodeV (askV q) = (withV q 0 0, 0) := by
  rw [ask_is h]
  exact (encode_with hq h 0 0 (by decide) (by decide) (.inl rfl)).2
theorem decode_nothing : (decodeV ⟨#[]⟩).2 ≠ 0 := by
  intro h
  have h2 := (decode_is h).2.1
  have e : (startV ⟨#[]⟩).1.kind = 0 := by decide
  rw [e] at h2
  exact absurd h2 (by decide)
theorem ask_some {q : ReqV} (hq : okReq q) (h : (encodeV q).2 = 0) : askV q ≠ ⟨#[]⟩ := by
  intro e
  have h2 := ask_back hq h
  rw [e] at h2
  exact decode_nothing (by rw [h2])
theorem ask_same {a b : ReqV} (ha : okReq a) (hb : okReq b) (h1 : (encodeV a).2 = 0) (h2 : (encodeV b).2 = 0) : ((askV a).toList == (askV b).toList) = sameReq (withV a 0 0) (withV b 0 0) := by
  rw [Bool.eq_iff_iff, list_beq_iff, same_iff]
  constructor
  · intro e
    have e1 := ask_back ha h1
    rw [e, ask_back hb h2] at e1
    exact (Prod.mk.inj e1).1.symm
  · intro e
    rw [ask_is h1, ask_is h2, e]
theorem ask_with {q : ReqV} (hq : okReq q) (h : (encodeV q).2 = 0) (n k : Int) (hn : isCountV n = true) (hk : 0 ≤ k ∧ k ≤ 18446744073709551615) (hw : k = 0 ∨ k = q.key ∨ (q.kind == 4 || q.kind == 5) = true) : askV (withV q n k) = askV q := by
  rw [ask_is h, ask_is (encode_with hq h n k hn hk hw).1]
  rfl
theorem ask_out {q : ReqV} (hq : okReq q) (n k : Int) (hn : isCountV n = false) (hk : 0 ≤ k ∧ k ≤ 18446744073709551615) : askV (withV q n k) = ⟨#[]⟩ := by
  refine ask_no fun h => ?_
  obtain ⟨ps, hw, _⟩ := encode_is (q := withV q n k) ⟨hq.1, hk⟩ h
  have := hw.count
  rw [show (withV q n k).seq = n from rfl, hn] at this
  cases this
end Go.Proofs.Ythflkhalipkdgaa.Ms
