/- Layer 14: plain laws: the reference's bytes are the program's. -/
import Derived.Test.YthflkhalipkdgaaGreatProg
import Derived.Below
import Derived.WalkKit
import Derived.KernelRfl
import Derived.RowKit3
import Derived.Deep.LoopGhost
import Derived.Deep.QuietTactic
import Derived.BigQuiet
import Derived.WideLaws
import Derived.Deep.DeepCutAuto
import Derived.Deep.CutBlock
import Derived.Lib.Hide
import Derived.Laws.BitsLemmas
import Derived.Laws.Bits64
import Derived.Laws.BitsAllLaws
import Derived.IntWalk
import Derived.Outline
import Derived.WalkSpells
import Derived.Test.YthflkhalipkdgaaGreatGA
import Derived.Test.YthflkhalipkdgaaGreatRg2
namespace Go.Proofs.YthflkhalipkdgaaGreat.Ms
set_option maxRecDepth 20000
open Go.RowKit Go.Proofs.YthflkhalipkdgaaGreat.Mem Go.Proofs.YthflkhalipkdgaaGreat.Pk Go.Proofs.YthflkhalipkdgaaGreat.Ca
set_option linter.unusedVariables false
set_option linter.unusedSimpArgs false

theorem enc_kind {q : ReqV} {ps : List Part} (hq : okReq q) (hp : partsV q.kind = some ps) : (encodeV q).2 = 0 ↔ (isCountV q.seq = true ∧ isFilterV q.filter = true ∧ (ps.all fun p => (encPart q p).2) = true) ∧ fillV q ps = q := by
  constructor
  · intro h
    obtain ⟨ps', hw, hf⟩ := encode_is hq h
    have e := hw.parts
    rw [hp] at e
    injection e with e
    subst e
    exact ⟨⟨hw.count, hw.filter, hw.all⟩, hf⟩
  · rintro ⟨⟨h1, h2, h3⟩, hf⟩
    rw [encode_whole ⟨hq, hp, h1, h2, h3⟩ hf]
theorem enc_fits (wd n : Int) : (encs wd [n]).2 = (wide wd && fitsV wd n) := by
  unfold encs
  by_cases h : (wide wd && [n].all (fitsV wd)) = true
  · rw [if_pos h]
    simp at h
    simp [h]
  · rw [if_neg h]
    simp at h
    simp
    intro h1
    exact h h1
theorem enc1 (n : Int) : (encs 1 [n]).2 = true ↔ 0 ≤ n ∧ n ≤ 255 := by
  rw [enc_fits]
  simp [wide, fitsV]
  omega
theorem enc4 (n : Int) : (encs 4 [n]).2 = true ↔ 0 ≤ n ∧ n ≤ 4294967295 := by
  rw [enc_fits]
  simp [wide, fitsV]
  omega
theorem good_iff (r : List Int) : goodR r = true ↔ headR r = false ∧ okTo r 14 = true ∧ whoR r = false ∧ filR r = true := by
  constructor
  · exact head_of
  · rintro ⟨h1, h2, h3, h4⟩
    unfold goodR
    rw [h1, h2, h3, h4]
    rfl
theorem fil_iff (f : FilterV) : isFilterV f = true ↔ (f.kind = 0 ∧ f.n = 0) ∨ (0 < f.kind ∧ f.kind < 4 ∧ 0 < f.n ∧ f.n ≤ 1073741824) := by
  unfold isFilterV isCountV
  by_cases h : f.kind = 0
  · simp [h]
  · simp [h]
    omega
theorem enc44 (a b : Int) : (encs 4 [a, b]).2 = true ↔ (0 ≤ a ∧ a ≤ 4294967295) ∧ (0 ≤ b ∧ b ≤ 4294967295) := by
  have h : (encs 4 [a, b]).2 = ((encs 4 [a]).2 && (encs 4 [b]).2) := by
    rw [enc_fits, enc_fits]
    unfold encs
    by_cases h : (wide 4 && [a, b].all (fitsV 4)) = true
    · rw [if_pos h]
      simp at h
      simp [h]
    · rw [if_neg h]
      simp at h
      simp
      intro h1 h2 _
      exact h h1 h2
  rw [h, Bool.and_eq_true, enc4, enc4]
theorem encs_is {wd n : Int} (h : (encs wd [n]).2 = true) : (encs wd [n]).1 = beB wd.toNat n.toNat := by
  unfold encs at h ⊢
  split at h
  · rename_i h2
    rw [if_pos h2]
    simp [beBs]
  · cases h
theorem encs_is2 {wd a b : Int} (h : (encs wd [a, b]).2 = true) : (encs wd [a, b]).1 = beB wd.toNat a.toNat ++ beB wd.toNat b.toNat := by
  unfold encs at h ⊢
  split at h
  · rename_i h2
    rw [if_pos h2]
    simp [beBs]
  · cases h
theorem part_num (q : ReqV) (wd off : Nat) (chk : Chk) : (encPart q (.num wd off chk)).2 = true ↔ chk.is (fieldOf q off) = true ∧ (encs wd [fieldOf q off]).2 = true := by
  unfold encPart
  by_cases h : chk.is (fieldOf q off) = true
  · simp only [if_pos h, h, true_and, if_true]
  · simp only [if_neg h, h, false_and]
    simp
theorem part_numB {q : ReqV} {wd off : Nat} {chk : Chk} (h : (encPart q (.num wd off chk)).2 = true) : (encPart q (.num wd off chk)).1 = beB wd (fieldOf q off).toNat := by
  obtain ⟨h1, h2⟩ := (part_num _ _ _ _).1 h
  unfold encPart
  simp only [if_pos h1]
  rw [encs_is h2]
  rfl
theorem part_tokB {q : ReqV} (h : (encPart q .token).2 = true) : (encPart q .token).1 = beB 4 q.token.toNat := encs_is h
theorem part_keyB {q : ReqV} (h : (encPart q .key).2 = true) : (encPart q .key).1 = beB 4 (q.key / 4294967296).toNat ++ beB 4 (q.key % 4294967296).toNat := encs_is2 h
theorem part_tok (q : ReqV) : (encPart q .token).2 = true ↔ 0 ≤ q.token ∧ q.token ≤ 4294967295 := enc4 _
theorem part_key (q : ReqV) : (encPart q .key).2 = true ↔ (0 ≤ q.key / 4294967296 ∧ q.key / 4294967296 ≤ 4294967295) ∧ (0 ≤ q.key % 4294967296 ∧ q.key % 4294967296 ≤ 4294967295) := enc44 _ _
theorem head_is {q : ReqV} (h1 : 0 ≤ q.kind ∧ q.kind ≤ 255) (h2 : isCountV q.seq = true) : headOf q = beB 1 q.kind.toNat ++ beB 4 q.seq.toNat := by
  unfold headOf
  simp only [isCountV, Bool.and_eq_true, decide_eq_true_eq] at h2
  rw [encs_is (wd := 1) ((enc1 _).2 h1), encs_is (wd := 4) ((enc4 _).2 (by omega))]
  rfl
theorem bytes_nil (q : ReqV) : bytesOf q [] = [] := rfl
/-- whoever encodes: what the reference calls good -/
theorem good_k1 (seq who role token key c0 c1 c2 c3 c4 c5 c6 c7 id car mode fk fn : Int) (hq : okReq ⟨1, seq, who, role, token, key, ⟨c0, c1, c2, c3, c4, c5, c6, c7⟩, id, car, mode, ⟨fk, fn⟩⟩) : ((encodeV ⟨1, seq, who, role, token, key, ⟨c0, c1, c2, c3, c4, c5, c6, c7⟩, id, car, mode, ⟨fk, fn⟩⟩).2 = 0 ↔ formB ⟨1, seq, who, role, token, key, ⟨c0, c1, c2, c3, c4, c5, c6, c7⟩, id, car, mode, ⟨fk, fn⟩⟩ = true ∧ goodR (numsQ ⟨1, seq, who, role, token, key, ⟨c0, c1, c2, c3, c4, c5, c6, c7⟩, id, car, mode, ⟨fk, fn⟩⟩) = true) ∧ ((encodeV ⟨1, seq, who, role, token, key, ⟨c0, c1, c2, c3, c4, c5, c6, c7⟩, id, car, mode, ⟨fk, fn⟩⟩).2 = 0 → (encodeV ⟨1, seq, who, role, token, key, ⟨c0, c1, c2, c3, c4, c5, c6, c7⟩, id, car, mode, ⟨fk, fn⟩⟩).1 = str (refB (numsQ ⟨1, seq, who, role, token, key, ⟨c0, c1, c2, c3, c4, c5, c6, c7⟩, id, car, mode, ⟨fk, fn⟩⟩))) := by
  have hp : partsV 1 = some [.num 4 2 .some, .num 1 3 .whole, .token] := rfl
  constructor
  · rw [enc_kind hq hp, good_iff, fil_iff]
    obtain ⟨⟨t1, t2⟩, k1, k2⟩ := hq
    simp only at t1 t2 k1 k2
    simp only [isCountV, someV, List.all_cons, List.all_nil, Bool.and_true, Bool.and_eq_true, part_num, part_tok, part_key, fieldOf, Chk.is, enc1, enc4, enc44, fillV, List.foldl, copyPart, setField, emptyOf, noReq, ReqV.mk.injEq, CallV.mk.injEq, FilterV.mk.injEq, formB, numsQ, headR, whoR, filR, szR, okTo, okR, sizeL, sizeIs]
    simp [enc1, enc4, enc44]
    omega
  · intro h
    obtain ⟨⟨hc, _, ha⟩, hf⟩ := (enc_kind hq hp).1 h
    rw [encode_whole ⟨hq, hp, hc, ‹_›, ha⟩ hf]
    simp only [List.all_cons, List.all_nil, Bool.and_true, Bool.and_eq_true] at ha
    obtain ⟨b0, b1, b2⟩ := ha
    show str _ = str _
    rw [head_is ⟨by show (0 : Int) ≤ 1; decide, by show (1 : Int) ≤ 255; decide⟩ hc]
    simp only [bytes_cons, bytes_nil]
    rw [part_numB b0, part_numB b1, part_tokB b2]
    have hz : ∀ j, szR (numsQ ⟨1, seq, who, role, token, key, ⟨c0, c1, c2, c3, c4, c5, c6, c7⟩, id, car, mode, ⟨fk, fn⟩⟩) j = ([1, 4, 4, 1, 4, 0, 0, 0, 0, 0, 0, 0, 0, 0, 0, 0] : List Int).getD j 0 := fun _ => rfl
    unfold refB
    simp only [bytesR, hz]
    simp [numsQ, fieldOf]
theorem good_k2 (seq who role token key c0 c1 c2 c3 c4 c5 c6 c7 id car mode fk fn : Int) (hq : okReq ⟨2, seq, who, role, token, key, ⟨c0, c1, c2, c3, c4, c5, c6, c7⟩, id, car, mode, ⟨fk, fn⟩⟩) : ((encodeV ⟨2, seq, who, role, token, key, ⟨c0, c1, c2, c3, c4, c5, c6, c7⟩, id, car, mode, ⟨fk, fn⟩⟩).2 = 0 ↔ formB ⟨2, seq, who, role, token, key, ⟨c0, c1, c2, c3, c4, c5, c6, c7⟩, id, car, mode, ⟨fk, fn⟩⟩ = true ∧ goodR (numsQ ⟨2, seq, who, role, token, key, ⟨c0, c1, c2, c3, c4, c5, c6, c7⟩, id, car, mode, ⟨fk, fn⟩⟩) = true) ∧ ((encodeV ⟨2, seq, who, role, token, key, ⟨c0, c1, c2, c3, c4, c5, c6, c7⟩, id, car, mode, ⟨fk, fn⟩⟩).2 = 0 → (encodeV ⟨2, seq, who, role, token, key, ⟨c0, c1, c2, c3, c4, c5, c6, c7⟩, id, car, mode, ⟨fk, fn⟩⟩).1 = str (refB (numsQ ⟨2, seq, who, role, token, key, ⟨c0, c1, c2, c3, c4, c5, c6, c7⟩, id, car, mode, ⟨fk, fn⟩⟩))) := by
  have hp : partsV 2 = some [.num 4 2 .some, .token] := rfl
  constructor
  · rw [enc_kind hq hp, good_iff, fil_iff]
    obtain ⟨⟨t1, t2⟩, k1, k2⟩ := hq
    simp only at t1 t2 k1 k2
    simp only [isCountV, someV, List.all_cons, List.all_nil, Bool.and_true, Bool.and_eq_true, part_num, part_tok, part_key, fieldOf, Chk.is, enc1, enc4, enc44, fillV, List.foldl, copyPart, setField, emptyOf, noReq, ReqV.mk.injEq, CallV.mk.injEq, FilterV.mk.injEq, formB, numsQ, headR, whoR, filR, szR, okTo, okR, sizeL, sizeIs]
    simp [enc1, enc4, enc44]
    omega
  · intro h
    obtain ⟨⟨hc, _, ha⟩, hf⟩ := (enc_kind hq hp).1 h
    rw [encode_whole ⟨hq, hp, hc, ‹_›, ha⟩ hf]
    simp only [List.all_cons, List.all_nil, Bool.and_true, Bool.and_eq_true] at ha
    obtain ⟨b0, b1⟩ := ha
    show str _ = str _
    rw [head_is ⟨by show (0 : Int) ≤ 2; decide, by show (2 : Int) ≤ 255; decide⟩ hc]
    simp only [bytes_cons, bytes_nil]
    rw [part_numB b0, part_tokB b1]
    have hz : ∀ j, szR (numsQ ⟨2, seq, who, role, token, key, ⟨c0, c1, c2, c3, c4, c5, c6, c7⟩, id, car, mode, ⟨fk, fn⟩⟩) j = ([1, 4, 4, 0, 4, 0, 0, 0, 0, 0, 0, 0, 0, 0, 0, 0] : List Int).getD j 0 := fun _ => rfl
    unfold refB
    simp only [bytesR, hz]
    simp [numsQ, fieldOf]
theorem good_k3 (seq who role token key c0 c1 c2 c3 c4 c5 c6 c7 id car mode fk fn : Int) (hq : okReq ⟨3, seq, who, role, token, key, ⟨c0, c1, c2, c3, c4, c5, c6, c7⟩, id, car, mode, ⟨fk, fn⟩⟩) : ((encodeV ⟨3, seq, who, role, token, key, ⟨c0, c1, c2, c3, c4, c5, c6, c7⟩, id, car, mode, ⟨fk, fn⟩⟩).2 = 0 ↔ formB ⟨3, seq, who, role, token, key, ⟨c0, c1, c2, c3, c4, c5, c6, c7⟩, id, car, mode, ⟨fk, fn⟩⟩ = true ∧ goodR (numsQ ⟨3, seq, who, role, token, key, ⟨c0, c1, c2, c3, c4, c5, c6, c7⟩, id, car, mode, ⟨fk, fn⟩⟩) = true) ∧ ((encodeV ⟨3, seq, who, role, token, key, ⟨c0, c1, c2, c3, c4, c5, c6, c7⟩, id, car, mode, ⟨fk, fn⟩⟩).2 = 0 → (encodeV ⟨3, seq, who, role, token, key, ⟨c0, c1, c2, c3, c4, c5, c6, c7⟩, id, car, mode, ⟨fk, fn⟩⟩).1 = str (refB (numsQ ⟨3, seq, who, role, token, key, ⟨c0, c1, c2, c3, c4, c5, c6, c7⟩, id, car, mode, ⟨fk, fn⟩⟩))) := by
  have hp : partsV 3 = some [] := rfl
  constructor
  · rw [enc_kind hq hp, good_iff, fil_iff]
    obtain ⟨⟨t1, t2⟩, k1, k2⟩ := hq
    simp only at t1 t2 k1 k2
    simp only [isCountV, someV, List.all_cons, List.all_nil, Bool.and_true, Bool.and_eq_true, part_num, part_tok, part_key, fieldOf, Chk.is, enc1, enc4, enc44, fillV, List.foldl, copyPart, setField, emptyOf, noReq, ReqV.mk.injEq, CallV.mk.injEq, FilterV.mk.injEq, formB, numsQ, headR, whoR, filR, szR, okTo, okR, sizeL, sizeIs]
    simp [enc1, enc4, enc44]
    omega
  · intro h
    obtain ⟨⟨hc, _, ha⟩, hf⟩ := (enc_kind hq hp).1 h
    rw [encode_whole ⟨hq, hp, hc, ‹_›, ha⟩ hf]
    simp only [List.all_cons, List.all_nil, Bool.and_true, Bool.and_eq_true] at ha
    clear ha
    show str _ = str _
    rw [head_is ⟨by show (0 : Int) ≤ 3; decide, by show (3 : Int) ≤ 255; decide⟩ hc]
    simp only [bytes_nil]
    skip
    have hz : ∀ j, szR (numsQ ⟨3, seq, who, role, token, key, ⟨c0, c1, c2, c3, c4, c5, c6, c7⟩, id, car, mode, ⟨fk, fn⟩⟩) j = ([1, 4, 0, 0, 0, 0, 0, 0, 0, 0, 0, 0, 0, 0, 0, 0] : List Int).getD j 0 := fun _ => rfl
    unfold refB
    simp only [bytesR, hz]
    simp [numsQ, fieldOf]
theorem good_k4 (seq who role token key c0 c1 c2 c3 c4 c5 c6 c7 id car mode fk fn : Int) (hq : okReq ⟨4, seq, who, role, token, key, ⟨c0, c1, c2, c3, c4, c5, c6, c7⟩, id, car, mode, ⟨fk, fn⟩⟩) : ((encodeV ⟨4, seq, who, role, token, key, ⟨c0, c1, c2, c3, c4, c5, c6, c7⟩, id, car, mode, ⟨fk, fn⟩⟩).2 = 0 ↔ formB ⟨4, seq, who, role, token, key, ⟨c0, c1, c2, c3, c4, c5, c6, c7⟩, id, car, mode, ⟨fk, fn⟩⟩ = true ∧ goodR (numsQ ⟨4, seq, who, role, token, key, ⟨c0, c1, c2, c3, c4, c5, c6, c7⟩, id, car, mode, ⟨fk, fn⟩⟩) = true) ∧ ((encodeV ⟨4, seq, who, role, token, key, ⟨c0, c1, c2, c3, c4, c5, c6, c7⟩, id, car, mode, ⟨fk, fn⟩⟩).2 = 0 → (encodeV ⟨4, seq, who, role, token, key, ⟨c0, c1, c2, c3, c4, c5, c6, c7⟩, id, car, mode, ⟨fk, fn⟩⟩).1 = str (refB (numsQ ⟨4, seq, who, role, token, key, ⟨c0, c1, c2, c3, c4, c5, c6, c7⟩, id, car, mode, ⟨fk, fn⟩⟩))) := by
  have hp : partsV 4 = some [.key, .num 1 7 .whole, .num 1 8 .whole, .num 1 9 .whole, .num 1 10 .whole] := rfl
  constructor
  · rw [enc_kind hq hp, good_iff, fil_iff]
    obtain ⟨⟨t1, t2⟩, k1, k2⟩ := hq
    simp only at t1 t2 k1 k2
    simp only [isCountV, someV, List.all_cons, List.all_nil, Bool.and_true, Bool.and_eq_true, part_num, part_tok, part_key, fieldOf, Chk.is, enc1, enc4, enc44, fillV, List.foldl, copyPart, setField, emptyOf, noReq, ReqV.mk.injEq, CallV.mk.injEq, FilterV.mk.injEq, formB, numsQ, headR, whoR, filR, szR, okTo, okR, sizeL, sizeIs]
    simp [enc1, enc4, enc44]
    omega
  · intro h
    obtain ⟨⟨hc, _, ha⟩, hf⟩ := (enc_kind hq hp).1 h
    rw [encode_whole ⟨hq, hp, hc, ‹_›, ha⟩ hf]
    simp only [List.all_cons, List.all_nil, Bool.and_true, Bool.and_eq_true] at ha
    obtain ⟨b0, b1, b2, b3, b4⟩ := ha
    show str _ = str _
    rw [head_is ⟨by show (0 : Int) ≤ 4; decide, by show (4 : Int) ≤ 255; decide⟩ hc]
    simp only [bytes_cons, bytes_nil]
    rw [part_keyB b0, part_numB b1, part_numB b2, part_numB b3, part_numB b4]
    have hz : ∀ j, szR (numsQ ⟨4, seq, who, role, token, key, ⟨c0, c1, c2, c3, c4, c5, c6, c7⟩, id, car, mode, ⟨fk, fn⟩⟩) j = ([1, 4, 0, 0, 0, 4, 4, 1, 1, 1, 1, 0, 0, 0, 0, 0] : List Int).getD j 0 := fun _ => rfl
    unfold refB
    simp only [bytesR, hz]
    simp [numsQ, fieldOf]
theorem good_k5 (seq who role token key c0 c1 c2 c3 c4 c5 c6 c7 id car mode fk fn : Int) (hq : okReq ⟨5, seq, who, role, token, key, ⟨c0, c1, c2, c3, c4, c5, c6, c7⟩, id, car, mode, ⟨fk, fn⟩⟩) : ((encodeV ⟨5, seq, who, role, token, key, ⟨c0, c1, c2, c3, c4, c5, c6, c7⟩, id, car, mode, ⟨fk, fn⟩⟩).2 = 0 ↔ formB ⟨5, seq, who, role, token, key, ⟨c0, c1, c2, c3, c4, c5, c6, c7⟩, id, car, mode, ⟨fk, fn⟩⟩ = true ∧ goodR (numsQ ⟨5, seq, who, role, token, key, ⟨c0, c1, c2, c3, c4, c5, c6, c7⟩, id, car, mode, ⟨fk, fn⟩⟩) = true) ∧ ((encodeV ⟨5, seq, who, role, token, key, ⟨c0, c1, c2, c3, c4, c5, c6, c7⟩, id, car, mode, ⟨fk, fn⟩⟩).2 = 0 → (encodeV ⟨5, seq, who, role, token, key, ⟨c0, c1, c2, c3, c4, c5, c6, c7⟩, id, car, mode, ⟨fk, fn⟩⟩).1 = str (refB (numsQ ⟨5, seq, who, role, token, key, ⟨c0, c1, c2, c3, c4, c5, c6, c7⟩, id, car, mode, ⟨fk, fn⟩⟩))) := by
  have hp : partsV 5 = some [.key, .num 4 14 .count] := rfl
  constructor
  · rw [enc_kind hq hp, good_iff, fil_iff]
    obtain ⟨⟨t1, t2⟩, k1, k2⟩ := hq
    simp only at t1 t2 k1 k2
    simp only [isCountV, someV, List.all_cons, List.all_nil, Bool.and_true, Bool.and_eq_true, part_num, part_tok, part_key, fieldOf, Chk.is, enc1, enc4, enc44, fillV, List.foldl, copyPart, setField, emptyOf, noReq, ReqV.mk.injEq, CallV.mk.injEq, FilterV.mk.injEq, formB, numsQ, headR, whoR, filR, szR, okTo, okR, sizeL, sizeIs]
    simp [enc1, enc4, enc44]
    omega
  · intro h
    obtain ⟨⟨hc, _, ha⟩, hf⟩ := (enc_kind hq hp).1 h
    rw [encode_whole ⟨hq, hp, hc, ‹_›, ha⟩ hf]
    simp only [List.all_cons, List.all_nil, Bool.and_true, Bool.and_eq_true] at ha
    obtain ⟨b0, b1⟩ := ha
    show str _ = str _
    rw [head_is ⟨by show (0 : Int) ≤ 5; decide, by show (5 : Int) ≤ 255; decide⟩ hc]
    simp only [bytes_cons, bytes_nil]
    rw [part_keyB b0, part_numB b1]
    have hz : ∀ j, szR (numsQ ⟨5, seq, who, role, token, key, ⟨c0, c1, c2, c3, c4, c5, c6, c7⟩, id, car, mode, ⟨fk, fn⟩⟩) j = ([1, 4, 0, 0, 0, 4, 4, 0, 0, 0, 0, 4, 0, 0, 0, 0] : List Int).getD j 0 := fun _ => rfl
    unfold refB
    simp only [bytesR, hz]
    simp [numsQ, fieldOf]
theorem good_k6 (seq who role token key c0 c1 c2 c3 c4 c5 c6 c7 id car mode fk fn : Int) (hq : okReq ⟨6, seq, who, role, token, key, ⟨c0, c1, c2, c3, c4, c5, c6, c7⟩, id, car, mode, ⟨fk, fn⟩⟩) : ((encodeV ⟨6, seq, who, role, token, key, ⟨c0, c1, c2, c3, c4, c5, c6, c7⟩, id, car, mode, ⟨fk, fn⟩⟩).2 = 0 ↔ formB ⟨6, seq, who, role, token, key, ⟨c0, c1, c2, c3, c4, c5, c6, c7⟩, id, car, mode, ⟨fk, fn⟩⟩ = true ∧ goodR (numsQ ⟨6, seq, who, role, token, key, ⟨c0, c1, c2, c3, c4, c5, c6, c7⟩, id, car, mode, ⟨fk, fn⟩⟩) = true) ∧ ((encodeV ⟨6, seq, who, role, token, key, ⟨c0, c1, c2, c3, c4, c5, c6, c7⟩, id, car, mode, ⟨fk, fn⟩⟩).2 = 0 → (encodeV ⟨6, seq, who, role, token, key, ⟨c0, c1, c2, c3, c4, c5, c6, c7⟩, id, car, mode, ⟨fk, fn⟩⟩).1 = str (refB (numsQ ⟨6, seq, who, role, token, key, ⟨c0, c1, c2, c3, c4, c5, c6, c7⟩, id, car, mode, ⟨fk, fn⟩⟩))) := by
  have hp : partsV 6 = some [.num 4 14 .count] := rfl
  constructor
  · rw [enc_kind hq hp, good_iff, fil_iff]
    obtain ⟨⟨t1, t2⟩, k1, k2⟩ := hq
    simp only at t1 t2 k1 k2
    simp only [isCountV, someV, List.all_cons, List.all_nil, Bool.and_true, Bool.and_eq_true, part_num, part_tok, part_key, fieldOf, Chk.is, enc1, enc4, enc44, fillV, List.foldl, copyPart, setField, emptyOf, noReq, ReqV.mk.injEq, CallV.mk.injEq, FilterV.mk.injEq, formB, numsQ, headR, whoR, filR, szR, okTo, okR, sizeL, sizeIs]
    simp [enc1, enc4, enc44]
    omega
  · intro h
    obtain ⟨⟨hc, _, ha⟩, hf⟩ := (enc_kind hq hp).1 h
    rw [encode_whole ⟨hq, hp, hc, ‹_›, ha⟩ hf]
    simp only [List.all_cons, List.all_nil, Bool.and_true, Bool.and_eq_true] at ha
    have b0 := ha
    show str _ = str _
    rw [head_is ⟨by show (0 : Int) ≤ 6; decide, by show (6 : Int) ≤ 255; decide⟩ hc]
    simp only [bytes_cons, bytes_nil]
    rw [part_numB b0]
    have hz : ∀ j, szR (numsQ ⟨6, seq, who, role, token, key, ⟨c0, c1, c2, c3, c4, c5, c6, c7⟩, id, car, mode, ⟨fk, fn⟩⟩) j = ([1, 4, 0, 0, 0, 0, 0, 0, 0, 0, 0, 4, 0, 0, 0, 0] : List Int).getD j 0 := fun _ => rfl
    unfold refB
    simp only [bytesR, hz]
    simp [numsQ, fieldOf]
theorem good_k7 (seq who role token key c0 c1 c2 c3 c4 c5 c6 c7 id car mode fk fn : Int) (hq : okReq ⟨7, seq, who, role, token, key, ⟨c0, c1, c2, c3, c4, c5, c6, c7⟩, id, car, mode, ⟨fk, fn⟩⟩) : ((encodeV ⟨7, seq, who, role, token, key, ⟨c0, c1, c2, c3, c4, c5, c6, c7⟩, id, car, mode, ⟨fk, fn⟩⟩).2 = 0 ↔ formB ⟨7, seq, who, role, token, key, ⟨c0, c1, c2, c3, c4, c5, c6, c7⟩, id, car, mode, ⟨fk, fn⟩⟩ = true ∧ goodR (numsQ ⟨7, seq, who, role, token, key, ⟨c0, c1, c2, c3, c4, c5, c6, c7⟩, id, car, mode, ⟨fk, fn⟩⟩) = true) ∧ ((encodeV ⟨7, seq, who, role, token, key, ⟨c0, c1, c2, c3, c4, c5, c6, c7⟩, id, car, mode, ⟨fk, fn⟩⟩).2 = 0 → (encodeV ⟨7, seq, who, role, token, key, ⟨c0, c1, c2, c3, c4, c5, c6, c7⟩, id, car, mode, ⟨fk, fn⟩⟩).1 = str (refB (numsQ ⟨7, seq, who, role, token, key, ⟨c0, c1, c2, c3, c4, c5, c6, c7⟩, id, car, mode, ⟨fk, fn⟩⟩))) := by
  have hp : partsV 7 = some [] := rfl
  constructor
  · rw [enc_kind hq hp, good_iff, fil_iff]
    obtain ⟨⟨t1, t2⟩, k1, k2⟩ := hq
    simp only at t1 t2 k1 k2
    simp only [isCountV, someV, List.all_cons, List.all_nil, Bool.and_true, Bool.and_eq_true, part_num, part_tok, part_key, fieldOf, Chk.is, enc1, enc4, enc44, fillV, List.foldl, copyPart, setField, emptyOf, noReq, ReqV.mk.injEq, CallV.mk.injEq, FilterV.mk.injEq, formB, numsQ, headR, whoR, filR, szR, okTo, okR, sizeL, sizeIs]
    simp [enc1, enc4, enc44]
    omega
  · intro h
    obtain ⟨⟨hc, _, ha⟩, hf⟩ := (enc_kind hq hp).1 h
    rw [encode_whole ⟨hq, hp, hc, ‹_›, ha⟩ hf]
    simp only [List.all_cons, List.all_nil, Bool.and_true, Bool.and_eq_true] at ha
    clear ha
    show str _ = str _
    rw [head_is ⟨by show (0 : Int) ≤ 7; decide, by show (7 : Int) ≤ 255; decide⟩ hc]
    simp only [bytes_nil]
    skip
    have hz : ∀ j, szR (numsQ ⟨7, seq, who, role, token, key, ⟨c0, c1, c2, c3, c4, c5, c6, c7⟩, id, car, mode, ⟨fk, fn⟩⟩) j = ([1, 4, 0, 0, 0, 0, 0, 0, 0, 0, 0, 0, 0, 0, 0, 0] : List Int).getD j 0 := fun _ => rfl
    unfold refB
    simp only [bytesR, hz]
    simp [numsQ, fieldOf]
theorem good_k8 (seq who role token key c0 c1 c2 c3 c4 c5 c6 c7 id car mode fk fn : Int) (hq : okReq ⟨8, seq, who, role, token, key, ⟨c0, c1, c2, c3, c4, c5, c6, c7⟩, id, car, mode, ⟨fk, fn⟩⟩) : ((encodeV ⟨8, seq, who, role, token, key, ⟨c0, c1, c2, c3, c4, c5, c6, c7⟩, id, car, mode, ⟨fk, fn⟩⟩).2 = 0 ↔ formB ⟨8, seq, who, role, token, key, ⟨c0, c1, c2, c3, c4, c5, c6, c7⟩, id, car, mode, ⟨fk, fn⟩⟩ = true ∧ goodR (numsQ ⟨8, seq, who, role, token, key, ⟨c0, c1, c2, c3, c4, c5, c6, c7⟩, id, car, mode, ⟨fk, fn⟩⟩) = true) ∧ ((encodeV ⟨8, seq, who, role, token, key, ⟨c0, c1, c2, c3, c4, c5, c6, c7⟩, id, car, mode, ⟨fk, fn⟩⟩).2 = 0 → (encodeV ⟨8, seq, who, role, token, key, ⟨c0, c1, c2, c3, c4, c5, c6, c7⟩, id, car, mode, ⟨fk, fn⟩⟩).1 = str (refB (numsQ ⟨8, seq, who, role, token, key, ⟨c0, c1, c2, c3, c4, c5, c6, c7⟩, id, car, mode, ⟨fk, fn⟩⟩))) := by
  have hp : partsV 8 = some [.num 1 17 .whole, .num 4 18 .count] := rfl
  constructor
  · rw [enc_kind hq hp, good_iff, fil_iff]
    obtain ⟨⟨t1, t2⟩, k1, k2⟩ := hq
    simp only at t1 t2 k1 k2
    simp only [isCountV, someV, List.all_cons, List.all_nil, Bool.and_true, Bool.and_eq_true, part_num, part_tok, part_key, fieldOf, Chk.is, enc1, enc4, enc44, fillV, List.foldl, copyPart, setField, emptyOf, noReq, ReqV.mk.injEq, CallV.mk.injEq, FilterV.mk.injEq, formB, numsQ, headR, whoR, filR, szR, okTo, okR, sizeL, sizeIs]
    simp [enc1, enc4, enc44]
    omega
  · intro h
    obtain ⟨⟨hc, _, ha⟩, hf⟩ := (enc_kind hq hp).1 h
    rw [encode_whole ⟨hq, hp, hc, ‹_›, ha⟩ hf]
    simp only [List.all_cons, List.all_nil, Bool.and_true, Bool.and_eq_true] at ha
    obtain ⟨b0, b1⟩ := ha
    show str _ = str _
    rw [head_is ⟨by show (0 : Int) ≤ 8; decide, by show (8 : Int) ≤ 255; decide⟩ hc]
    simp only [bytes_cons, bytes_nil]
    rw [part_numB b0, part_numB b1]
    have hz : ∀ j, szR (numsQ ⟨8, seq, who, role, token, key, ⟨c0, c1, c2, c3, c4, c5, c6, c7⟩, id, car, mode, ⟨fk, fn⟩⟩) j = ([1, 4, 0, 0, 0, 0, 0, 0, 0, 0, 0, 0, 0, 0, 1, 4] : List Int).getD j 0 := fun _ => rfl
    unfold refB
    simp only [bytesR, hz]
    simp [numsQ, fieldOf]
theorem good_k9 (seq who role token key c0 c1 c2 c3 c4 c5 c6 c7 id car mode fk fn : Int) (hq : okReq ⟨9, seq, who, role, token, key, ⟨c0, c1, c2, c3, c4, c5, c6, c7⟩, id, car, mode, ⟨fk, fn⟩⟩) : ((encodeV ⟨9, seq, who, role, token, key, ⟨c0, c1, c2, c3, c4, c5, c6, c7⟩, id, car, mode, ⟨fk, fn⟩⟩).2 = 0 ↔ formB ⟨9, seq, who, role, token, key, ⟨c0, c1, c2, c3, c4, c5, c6, c7⟩, id, car, mode, ⟨fk, fn⟩⟩ = true ∧ goodR (numsQ ⟨9, seq, who, role, token, key, ⟨c0, c1, c2, c3, c4, c5, c6, c7⟩, id, car, mode, ⟨fk, fn⟩⟩) = true) ∧ ((encodeV ⟨9, seq, who, role, token, key, ⟨c0, c1, c2, c3, c4, c5, c6, c7⟩, id, car, mode, ⟨fk, fn⟩⟩).2 = 0 → (encodeV ⟨9, seq, who, role, token, key, ⟨c0, c1, c2, c3, c4, c5, c6, c7⟩, id, car, mode, ⟨fk, fn⟩⟩).1 = str (refB (numsQ ⟨9, seq, who, role, token, key, ⟨c0, c1, c2, c3, c4, c5, c6, c7⟩, id, car, mode, ⟨fk, fn⟩⟩))) := by
  have hp : partsV 9 = some [] := rfl
  constructor
  · rw [enc_kind hq hp, good_iff, fil_iff]
    obtain ⟨⟨t1, t2⟩, k1, k2⟩ := hq
    simp only at t1 t2 k1 k2
    simp only [isCountV, someV, List.all_cons, List.all_nil, Bool.and_true, Bool.and_eq_true, part_num, part_tok, part_key, fieldOf, Chk.is, enc1, enc4, enc44, fillV, List.foldl, copyPart, setField, emptyOf, noReq, ReqV.mk.injEq, CallV.mk.injEq, FilterV.mk.injEq, formB, numsQ, headR, whoR, filR, szR, okTo, okR, sizeL, sizeIs]
    simp [enc1, enc4, enc44]
    omega
  · intro h
    obtain ⟨⟨hc, _, ha⟩, hf⟩ := (enc_kind hq hp).1 h
    rw [encode_whole ⟨hq, hp, hc, ‹_›, ha⟩ hf]
    simp only [List.all_cons, List.all_nil, Bool.and_true, Bool.and_eq_true] at ha
    clear ha
    show str _ = str _
    rw [head_is ⟨by show (0 : Int) ≤ 9; decide, by show (9 : Int) ≤ 255; decide⟩ hc]
    simp only [bytes_nil]
    skip
    have hz : ∀ j, szR (numsQ ⟨9, seq, who, role, token, key, ⟨c0, c1, c2, c3, c4, c5, c6, c7⟩, id, car, mode, ⟨fk, fn⟩⟩) j = ([1, 4, 0, 0, 0, 0, 0, 0, 0, 0, 0, 0, 0, 0, 0, 0] : List Int).getD j 0 := fun _ => rfl
    unfold refB
    simp only [bytesR, hz]
    simp [numsQ, fieldOf]
theorem good_k10 (seq who role token key c0 c1 c2 c3 c4 c5 c6 c7 id car mode fk fn : Int) (hq : okReq ⟨10, seq, who, role, token, key, ⟨c0, c1, c2, c3, c4, c5, c6, c7⟩, id, car, mode, ⟨fk, fn⟩⟩) : ((encodeV ⟨10, seq, who, role, token, key, ⟨c0, c1, c2, c3, c4, c5, c6, c7⟩, id, car, mode, ⟨fk, fn⟩⟩).2 = 0 ↔ formB ⟨10, seq, who, role, token, key, ⟨c0, c1, c2, c3, c4, c5, c6, c7⟩, id, car, mode, ⟨fk, fn⟩⟩ = true ∧ goodR (numsQ ⟨10, seq, who, role, token, key, ⟨c0, c1, c2, c3, c4, c5, c6, c7⟩, id, car, mode, ⟨fk, fn⟩⟩) = true) ∧ ((encodeV ⟨10, seq, who, role, token, key, ⟨c0, c1, c2, c3, c4, c5, c6, c7⟩, id, car, mode, ⟨fk, fn⟩⟩).2 = 0 → (encodeV ⟨10, seq, who, role, token, key, ⟨c0, c1, c2, c3, c4, c5, c6, c7⟩, id, car, mode, ⟨fk, fn⟩⟩).1 = str (refB (numsQ ⟨10, seq, who, role, token, key, ⟨c0, c1, c2, c3, c4, c5, c6, c7⟩, id, car, mode, ⟨fk, fn⟩⟩))) := by
  have hp : partsV 10 = some [.num 1 15 .whole, .num 1 16 .whole] := rfl
  constructor
  · rw [enc_kind hq hp, good_iff, fil_iff]
    obtain ⟨⟨t1, t2⟩, k1, k2⟩ := hq
    simp only at t1 t2 k1 k2
    simp only [isCountV, someV, List.all_cons, List.all_nil, Bool.and_true, Bool.and_eq_true, part_num, part_tok, part_key, fieldOf, Chk.is, enc1, enc4, enc44, fillV, List.foldl, copyPart, setField, emptyOf, noReq, ReqV.mk.injEq, CallV.mk.injEq, FilterV.mk.injEq, formB, numsQ, headR, whoR, filR, szR, okTo, okR, sizeL, sizeIs]
    simp [enc1, enc4, enc44]
    omega
  · intro h
    obtain ⟨⟨hc, _, ha⟩, hf⟩ := (enc_kind hq hp).1 h
    rw [encode_whole ⟨hq, hp, hc, ‹_›, ha⟩ hf]
    simp only [List.all_cons, List.all_nil, Bool.and_true, Bool.and_eq_true] at ha
    obtain ⟨b0, b1⟩ := ha
    show str _ = str _
    rw [head_is ⟨by show (0 : Int) ≤ 10; decide, by show (10 : Int) ≤ 255; decide⟩ hc]
    simp only [bytes_cons, bytes_nil]
    rw [part_numB b0, part_numB b1]
    have hz : ∀ j, szR (numsQ ⟨10, seq, who, role, token, key, ⟨c0, c1, c2, c3, c4, c5, c6, c7⟩, id, car, mode, ⟨fk, fn⟩⟩) j = ([1, 4, 0, 0, 0, 0, 0, 0, 0, 0, 0, 0, 1, 1, 0, 0] : List Int).getD j 0 := fun _ => rfl
    unfold refB
    simp only [bytesR, hz]
    simp [numsQ, fieldOf]
end Go.Proofs.YthflkhalipkdgaaGreat.Ms
