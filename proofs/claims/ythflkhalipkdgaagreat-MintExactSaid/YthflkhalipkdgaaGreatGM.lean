/- Mp Mq Mr -/
import Derived.Test.YthflkhalipkdgaaGreatProg
import Derived.Below
import Derived.WalkKit
import Derived.KernelRfl
import Derived.RowKit3
import Derived.Deep.LoopGhost
import Derived.Deep.QuietTactic
import Derived.BigQuiet
import Derived.WideLaws
import Derived.Deep.DeepCutAuto
import Derived.Deep.CutBlock
import Derived.Lib.Hide
import Derived.Laws.BitsLemmas
import Derived.Laws.Bits64
import Derived.Laws.BitsAllLaws
import Derived.IntWalk
import Derived.Outline
import Derived.WalkSpells
import Derived.Test.YthflkhalipkdgaaGreatGA
import Derived.Test.YthflkhalipkdgaaGreatEn
/- Layer 14: plain laws of a request's bytes. -/
namespace Go.Proofs.YthflkhalipkdgaaGreat.Ms
set_option maxRecDepth 20000
set_option linter.unusedVariables false
set_option linter.unusedSimpArgs false
open Go.RowKit Go.Proofs.YthflkhalipkdgaaGreat.Mem Go.Proofs.YthflkhalipkdgaaGreat.Pk Go.Proofs.YthflkhalipkdgaaGreat.Ca

theorem beL_beB : ∀ (k n : Nat), beL (beB k n) = n % 256 ^ k
  | 0, n => by simp [beB, beL, Nat.mod_one]
  | k + 1, n => by
    rw [beB, beL_snoc, beL_beB k (n / 256), Nat.pow_succ, Nat.mul_comm (256 ^ k) 256, Nat.mod_mul]
    omega
theorem str_extract_tail (a b : List Nat) (n : Nat) (hn : a.length = n) (m : Nat) (hm : m = (str (a ++ b)).size) : (str (a ++ b)).extract n m = str b := by
  subst hn
  subst hm
  apply ByteArray.ext
  rw [ByteArray.data_extract, str_size]
  apply Array.ext'
  simp [str]
  rw [List.take_of_length_le (by simp)]
theorem be_str (k n : Nat) (r : List Nat) (hr : ∀ c ∈ r, c < 256) : be (str (beB k n ++ r)) k = n % 256 ^ k := by
  unfold be
  rw [nums_str _ (by intro c hc; rcases List.mem_append.1 hc with h | h; exact beB_lt k n c h; exact hr c h), List.take_left' (beB_length k n), beL_beB]
theorem fits_lt {wd : Nat} {n : Nat} (hw : wide wd = true) (hf : fitsV wd n = true) (hn : n < 9223372036854775808) : n < 256 ^ wd := by
  unfold fitsV at hf
  have := wide_cases hw
  rcases this with e | e | e | e
  all_goals
    obtain rfl : wd = _ := by exact Int.ofNat_inj.1 e
    simp at hf
    simp only [Nat.reducePow]
    omega
/-- a number that was written is read -/
theorem inNum_back (wd n : Nat) (r : List Nat) (hr : ∀ c ∈ r, c < 256) (hw : wide wd = true) (hf : fitsV wd n = true) (hn : n < 9223372036854775808) :
    inNumV (str (beB wd n ++ r)) false wd = (n, str r, false) := by
  have h1 : be (str (beB wd n ++ r)) wd = n := by rw [be_str wd n r hr, Nat.mod_eq_of_lt (fits_lt hw hf hn)]
  have hl : wd ≤ (str (beB wd n ++ r)).size := by rw [str_size, List.length_append, beB_length]; omega
  unfold inNumV
  rw [show (wd : Int).toNat = wd from rfl, if_pos ⟨rfl, hw, by omega, by rw [h1]; exact hn⟩, h1, str_extract_tail _ _ wd (beB_length _ _) _ rfl]
theorem same_iff (a b : ReqV) : sameReq a b = true ↔ a = b := by
  obtain ⟨a1, a2, a3, a4, a5, a6, ⟨a7, a8, a9, a10, a11, a12, a13, a14⟩, a15, a16, a17, ⟨a18, a19⟩⟩ := a
  obtain ⟨b1, b2, b3, b4, b5, b6, ⟨b7, b8, b9, b10, b11, b12, b13, b14⟩, b15, b16, b17, ⟨b18, b19⟩⟩ := b
  simp only [sameReq, Bool.and_eq_true, beq_iff_eq, ReqV.mk.injEq, CallV.mk.injEq, FilterV.mk.injEq]
  constructor
  · rintro ⟨⟨⟨⟨⟨⟨⟨⟨⟨⟨⟨⟨⟨⟨⟨⟨⟨⟨h1, h2⟩, h3⟩, h4⟩, h5⟩, h6⟩, h7⟩, h8⟩, h9⟩, h10⟩, h11⟩, h12⟩, h13⟩, h14⟩, h15⟩, h16⟩, h17⟩, h18⟩, h19⟩
    exact ⟨h1, h2, h3, h4, h5, h6, ⟨h7, h8, h9, h10, h11, h12, h13, h14⟩, h15, h16, h17, h18, h19⟩
  · rintro ⟨h1, h2, h3, h4, h5, h6, ⟨h7, h8, h9, h10, h11, h12, h13, h14⟩, h15, h16, h17, h18, h19⟩
    exact ⟨⟨⟨⟨⟨⟨⟨⟨⟨⟨⟨⟨⟨⟨⟨⟨⟨⟨h1, h2⟩, h3⟩, h4⟩, h5⟩, h6⟩, h7⟩, h8⟩, h9⟩, h10⟩, h11⟩, h12⟩, h13⟩, h14⟩, h15⟩, h16⟩, h17⟩, h18⟩, h19⟩
/-- a part of one request put into another -/
def copyPart (r q : ReqV) : Part → ReqV
  | .num _ off _ => setField r (fieldOf q off) off
  | .token => { r with token := q.token }
  | .key => { r with key := q.key }
def okPart : Part → Bool
  | .num wd _ _ => wd == 1 || wd == 4
  | _ => true
theorem parts_okp (kind : Int) (ps : List Part) (h : partsV kind = some ps) : ∀ p ∈ ps, okPart p = true := by
  unfold partsV at h
  repeat' (split at h; (first | (injection h with h; subst h; decide) | skip))
  cases h
theorem encs_lt (wd : Int) (ns : List Int) : ∀ c ∈ (encs wd ns).1, c < 256 := by
  unfold encs
  split
  · exact beBs_lt _ _
  · simp
theorem part_lt (q : ReqV) (p : Part) : ∀ c ∈ (encPart q p).1, c < 256 := by
  cases p with
  | num wd off chk =>
    unfold encPart
    simp only []
    split
    · exact encs_lt _ _
    · simp
  | token => exact encs_lt _ _
  | key => exact encs_lt _ _
theorem bytes_lt (q : ReqV) (ps : List Part) : ∀ c ∈ bytesOf q ps, c < 256 := by
  intro c hc
  simp only [bytesOf, List.mem_flatten, List.mem_map] at hc
  obtain ⟨l, ⟨p, _, rfl⟩, h⟩ := hc
  exact part_lt q p c h
theorem encs_back {wd : Nat} (hwd : wd = 1 ∨ wd = 4) {n : Int} (h : (encs wd [n]).2 = true) (r : List Nat) (hr : ∀ c ∈ r, c < 256) : 0 ≤ n ∧ n < 4294967296 ∧ inNumV (str ((encs wd [n]).1 ++ r)) false wd = (n.toNat, str r, false) := by
  have h2 : (wide wd && [n].all (fitsV wd)) = true := by
    unfold encs at h
    split at h
    · assumption
    · cases h
  have e1 : (encs wd [n]).1 = beB wd n.toNat := by
    unfold encs
    rw [if_pos h2]
    simp [beBs]
  simp only [List.all_cons, List.all_nil, Bool.and_true, Bool.and_eq_true] at h2
  obtain ⟨hw, hf⟩ := h2
  have hn : 0 ≤ n ∧ n < 4294967296 := by
    unfold fitsV at hf
    rcases hwd with rfl | rfl
    all_goals
      simp at hf
      omega
  refine ⟨hn.1, hn.2, ?_⟩
  rw [e1]
  exact inNum_back wd n.toNat r hr hw (by rw [Int.toNat_of_nonneg hn.1]; exact hf) (by omega)
theorem part_back (r q : ReqV) (p : Part) (hp : okPart p = true) (hq : okReq q) (h : (encPart q p).2 = true) (rest : List Nat) (hr : ∀ c ∈ rest, c < 256) : getPart r (str ((encPart q p).1 ++ rest)) false p = (copyPart r q p, str rest, false) := by
  cases p with
  | num wd off chk =>
    have hwd : wd = 1 ∨ wd = 4 := by simpa [okPart] using hp
    unfold encPart at h ⊢
    simp only [] at h ⊢
    split at h
    · rename_i hc
      rw [if_pos hc]
      obtain ⟨h0, _, e⟩ := encs_back hwd h rest hr
      unfold getPart
      simp only []
      rw [e]
      simp only [copyPart, Int.toNat_of_nonneg h0]
    · cases h
  | token =>
    obtain ⟨h0, _, e⟩ := encs_back (wd := 4) (.inr rfl) (show (encs ((4 : Nat) : Int) [q.token]).2 = true from h) rest hr
    show getPart r (str ((encs ((4 : Nat) : Int) [q.token]).1 ++ rest)) false .token = _
    unfold getPart
    simp only []
    have e' : inNumV (str ((encs ((4 : Nat) : Int) [q.token]).1 ++ rest)) false 4 = (q.token.toNat, str rest, false) := e
    rw [e']
    simp only [copyPart, Int.toNat_of_nonneg h0]
  | key =>
    obtain ⟨_, hk0, hk1⟩ := hq
    have g1 : (encs ((4 : Nat) : Int) [q.key / 4294967296]).2 = true := by
      unfold encs
      rw [if_pos (by simp [wide, fitsV]; omega)]
    have g2 : (encs ((4 : Nat) : Int) [q.key % 4294967296]).2 = true := by
      unfold encs
      rw [if_pos (by simp [wide, fitsV]; omega)]
    have g3 : (encPart q .key).1 = (encs ((4 : Nat) : Int) [q.key / 4294967296]).1 ++ (encs ((4 : Nat) : Int) [q.key % 4294967296]).1 := by
      show (encs 4 [q.key / 4294967296, q.key % 4294967296]).1 = _
      unfold encs
      rw [if_pos (by simp [wide, fitsV]; omega), if_pos (by simp [wide, fitsV]; omega), if_pos (by simp [wide, fitsV]; omega)]
      simp [beBs]
    rw [g3, List.append_assoc]
    obtain ⟨h0, _, e1⟩ := encs_back (wd := 4) (.inr rfl) g1 ((encs ((4 : Nat) : Int) [q.key % 4294967296]).1 ++ rest) (by intro c hc; rcases List.mem_append.1 hc with h | h; exact encs_lt _ _ c h; exact hr c h)
    obtain ⟨h0', _, e2⟩ := encs_back (wd := 4) (.inr rfl) g2 rest hr
    unfold getPart
    simp only []
    rw [show (4 : Int) = ((4 : Nat) : Int) from rfl, e1]
    simp only []
    rw [e2]
    simp only [copyPart, Int.toNat_of_nonneg h0, Int.toNat_of_nonneg h0']
    rw [show q.key / 4294967296 * 4294967296 + q.key % 4294967296 = q.key by omega]
theorem bytes_cons (q : ReqV) (p : Part) (ps : List Part) : bytesOf q (p :: ps) = (encPart q p).1 ++ bytesOf q ps := by simp [bytesOf]
theorem getAll_back (q : ReqV) (hq : okReq q) (rest : List Nat) (hr : ∀ c ∈ rest, c < 256) : ∀ (ps : List Part) (r : ReqV), (∀ p ∈ ps, okPart p = true) → (ps.all fun p => (encPart q p).2) = true → getAll r (str (bytesOf q ps ++ rest)) false ps = (ps.foldl (fun r p => copyPart r q p) r, str rest, false)
  | [], r, _, _ => rfl
  | p :: ps, r, ho, ha => by
    rw [bytes_cons, List.append_assoc]
    simp only [List.all_cons, Bool.and_eq_true] at ha
    unfold getAll
    rw [part_back r q p (ho p (by simp)) hq ha.1 (bytesOf q ps ++ rest) (by intro c hc; rcases List.mem_append.1 hc with h | h; exact bytes_lt _ _ c h; exact hr c h)]
    exact getAll_back q hq rest hr ps _ (fun p hp => ho p (by simp [hp])) ha.2
/-- a request that can be written -/
structure Whole (q : ReqV) (ps : List Part) : Prop where
  ok : okReq q
  parts : partsV q.kind = some ps
  count : isCountV q.seq = true
  filter : isFilterV q.filter = true
  all : (ps.all fun p => (encPart q p).2) = true
def emptyOf (q : ReqV) : ReqV := { noReq with kind := q.kind, seq := q.seq }
def fillV (q : ReqV) (ps : List Part) : ReqV := ps.foldl (fun r p => copyPart r q p) (emptyOf q)
theorem kind_few (kind : Int) (ps : List Part) (h : partsV kind = some ps) : 0 < kind ∧ kind < 11 := by
  unfold partsV at h
  repeat' (split at h; (first | (rename_i hk; simp at hk; omega) | skip))
  cases h
theorem start_back (q : ReqV) (hk : 0 < q.kind ∧ q.kind < 11) (hs : isCountV q.seq = true) (rest : List Nat) (hr : ∀ c ∈ rest, c < 256) : startV (str (headOf q ++ rest)) = (emptyOf q, str rest, false) := by
  have hs' : 0 ≤ q.seq ∧ q.seq ≤ 1073741824 := by simpa [isCountV] using hs
  have g1 : (encs ((1 : Nat) : Int) [q.kind]).2 = true := by
    unfold encs
    rw [if_pos (by simp [wide, fitsV]; omega)]
  have g2 : (encs ((4 : Nat) : Int) [q.seq]).2 = true := by
    unfold encs
    rw [if_pos (by simp [wide, fitsV]; omega)]
  obtain ⟨h0, _, e1⟩ := encs_back (wd := 1) (.inl rfl) g1 ((encs ((4 : Nat) : Int) [q.seq]).1 ++ rest) (by intro c hc; rcases List.mem_append.1 hc with h | h; exact encs_lt _ _ c h; exact hr c h)
  obtain ⟨h0', _, e2⟩ := encs_back (wd := 4) (.inr rfl) g2 rest hr
  have e1' : inNumV (str (headOf q ++ rest)) false 1 = (q.kind.toNat, str ((encs ((4 : Nat) : Int) [q.seq]).1 ++ rest), false) := by
    rw [show headOf q ++ rest = (encs ((1 : Nat) : Int) [q.kind]).1 ++ ((encs ((4 : Nat) : Int) [q.seq]).1 ++ rest) from by unfold headOf; rw [List.append_assoc]; rfl]
    exact e1
  have e2' : inNumV (str ((encs ((4 : Nat) : Int) [q.seq]).1 ++ rest)) false 4 = (q.seq.toNat, str rest, false) := e2
  unfold startV emptyOf
  rw [e1']
  simp only []
  rw [e2']
  simp only [Int.toNat_of_nonneg h0, Int.toNat_of_nonneg h0']
theorem found_back {q : ReqV} {ps : List Part} (h : Whole q ps) (rest : List Nat) (hr : ∀ c ∈ rest, c < 256) : foundV (str (headOf q ++ bytesOf q ps ++ rest)) = (fillV q ps, str rest, false) ∧ (startV (str (headOf q ++ bytesOf q ps ++ rest))).1 = emptyOf q := by
  have hs := start_back q (kind_few _ _ h.parts) h.count (bytesOf q ps ++ rest) (by intro c hc; rcases List.mem_append.1 hc with h | h; exact bytes_lt _ _ c h; exact hr c h)
  rw [← List.append_assoc] at hs
  unfold foundV
  rw [hs]
  refine ⟨?_, rfl⟩
  simp only []
  rw [show (emptyOf q).kind = q.kind from rfl, h.parts]
  exact getAll_back q h.ok rest hr ps _ (parts_okp _ _ h.parts) h.all
theorem write_whole {q : ReqV} {ps : List Part} (h : Whole q ps) : writeV q = (str (headOf q ++ bytesOf q ps), 0) := by
  unfold writeV
  rw [h.parts]
  simp only []
  rw [if_neg (by simp [h.count, h.filter]), if_pos h.all]
theorem whole_of {q : ReqV} (hq : okReq q) (h : (writeV q).2 = 0) : ∃ ps, Whole q ps := by
  unfold writeV at h
  split at h
  · cases h
  · rename_i ps hp
    split at h
    · cases h
    · rename_i hb
      split at h
      · rename_i ha
        simp at hb
        exact ⟨ps, hq, hp, hb.1, hb.2, ha⟩
      · cases h
end Go.Proofs.YthflkhalipkdgaaGreat.Ms

/- Layer 14: plain laws of Encode, Decode, Ask. -/
namespace Go.Proofs.YthflkhalipkdgaaGreat.Ms
set_option maxRecDepth 20000
set_option linter.unusedVariables false
set_option linter.unusedSimpArgs false
open Go.RowKit Go.Proofs.YthflkhalipkdgaaGreat.Mem Go.Proofs.YthflkhalipkdgaaGreat.Pk Go.Proofs.YthflkhalipkdgaaGreat.Ca

theorem list_beq {x y : ByteArray} (h : (x.toList == y.toList) = true) : x = y := by
  rw [beq_iff_eq, ByteArray.toList_eq, ByteArray.toList_eq] at h
  exact ByteArray.ext (Array.toList_inj.1 h)
theorem end_nil : (str []).toList.isEmpty = true := by
  rw [ByteArray.toList_eq]
  rfl
theorem decode_is {s : ByteArray} (h : (decodeV s).2 = 0) : decodeV s = ((foundV s).1, 0) ∧ (partsV (startV s).1.kind).isSome = true ∧ (!(foundV s).2.2 && (foundV s).2.1.toList.isEmpty) = true ∧ writeV (foundV s).1 = (s, 0) := by
  unfold decodeV at h ⊢
  by_cases h1 : (partsV (startV s).1.kind).isSome = false
  · rw [if_pos h1] at h; cases h
  · rw [if_neg h1] at h ⊢
    by_cases h2 : (!(foundV s).2.2 && (foundV s).2.1.toList.isEmpty) = false
    · rw [if_pos h2] at h; cases h
    · rw [if_neg h2] at h ⊢
      by_cases h3 : ((writeV (foundV s).1).2 != 0) = true
      · rw [if_pos h3] at h; cases h
      · rw [if_neg h3] at h ⊢
        by_cases h4 : (!(writeV (foundV s).1).1.toList == s.toList) = true
        · rw [if_pos h4] at h; cases h
        · rw [if_neg h4]
          refine ⟨rfl, by rw [Bool.not_eq_false] at h1; exact h1, by rw [Bool.not_eq_false] at h2; exact h2, ?_⟩
          refine Prod.ext (list_beq ?_) ?_
          · cases h5 : ((writeV (foundV s).1).1.toList == s.toList)
            · rw [h5] at h4; simp at h4
            · rfl
          · simpa using h3
theorem decode_whole {q : ReqV} {ps : List Part} (h : Whole q ps) (hf : fillV q ps = q) : decodeV (str (headOf q ++ bytesOf q ps)) = (q, 0) := by
  have f := found_back h [] (by simp)
  rw [List.append_nil] at f
  unfold decodeV
  rw [f.2, f.1]
  rw [show (emptyOf q).kind = q.kind from rfl, h.parts, hf, write_whole h]
  simp [end_nil]
theorem encode_whole {q : ReqV} {ps : List Part} (h : Whole q ps) (hf : fillV q ps = q) : encodeV q = (str (headOf q ++ bytesOf q ps), 0) := by
  unfold encodeV
  rw [write_whole h]
  simp only []
  rw [decode_whole h hf]
  simp [(same_iff q q).2 rfl]
theorem encode_is {q : ReqV} (hq : okReq q) (h : (encodeV q).2 = 0) : ∃ ps, Whole q ps ∧ fillV q ps = q := by
  unfold encodeV at h
  split at h
  · rename_i h1
    simp at h1
    exact absurd h h1
  · rename_i h1
    split at h
    · cases h
    · rename_i h2
      split at h
      · rename_i h3
        obtain ⟨ps, hw⟩ := whole_of hq (by simpa using h1)
        have hd := (decode_is (s := (writeV q).1) (by simpa using h2)).1
        rw [hd, same_iff] at h3
        rw [write_whole hw] at h3
        have f := found_back hw [] (by simp)
        rw [List.append_nil] at f
        rw [f.1] at h3
        exact ⟨ps, hw, h3⟩
      · cases h
end Go.Proofs.YthflkhalipkdgaaGreat.Ms

/- Layer 14: plain laws: what was decoded is encoded as it was; a byte more, a byte less. -/
namespace Go.Proofs.YthflkhalipkdgaaGreat.Ms
set_option maxRecDepth 20000
set_option linter.unusedVariables false
set_option linter.unusedSimpArgs false
open Go.RowKit Go.Proofs.YthflkhalipkdgaaGreat.Mem Go.Proofs.YthflkhalipkdgaaGreat.Pk Go.Proofs.YthflkhalipkdgaaGreat.Ca

theorem str_more (a b : List Nat) : str (a ++ b) = str a ++ str b := by
  apply ByteArray.ext
  simp [str, ByteArray.data_append]
end Go.Proofs.YthflkhalipkdgaaGreat.Ms
