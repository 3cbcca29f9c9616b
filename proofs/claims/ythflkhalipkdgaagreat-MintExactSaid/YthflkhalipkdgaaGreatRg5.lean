/- Layer 14: plain laws: encode and decode are the reference's. -/
import Derived.Test.YthflkhalipkdgaaGreatProg
import Derived.Below
import Derived.WalkKit
import Derived.KernelRfl
import Derived.RowKit3
import Derived.Deep.LoopGhost
import Derived.Deep.QuietTactic
import Derived.BigQuiet
import Derived.WideLaws
import Derived.Deep.DeepCutAuto
import Derived.Deep.CutBlock
import Derived.Lib.Hide
import Derived.Laws.BitsLemmas
import Derived.Laws.Bits64
import Derived.Laws.BitsAllLaws
import Derived.IntWalk
import Derived.Outline
import Derived.WalkSpells
import Derived.Test.YthflkhalipkdgaaGreatGA
import Derived.Test.YthflkhalipkdgaaGreatRg4
namespace Go.Proofs.YthflkhalipkdgaaGreat.Ms
set_option maxRecDepth 20000
open Go.RowKit Go.Proofs.YthflkhalipkdgaaGreat.Mem Go.Proofs.YthflkhalipkdgaaGreat.Pk Go.Proofs.YthflkhalipkdgaaGreat.Ca Go.Proofs.YthflkhalipkdgaaGreat.Wk
set_option linter.unusedVariables false
set_option linter.unusedSimpArgs false

theorem enc_ref {q : ReqV} (hq : okReq q) : ((encodeV q).2 = 0 ↔ formB q = true ∧ goodR (numsQ q) = true) ∧ ((encodeV q).2 = 0 → (encodeV q).1 = str (refB (numsQ q))) := by
  by_cases hk : 1 ≤ q.kind ∧ q.kind ≤ 10
  · obtain ⟨kind, seq, who, role, token, key, ⟨c0, c1, c2, c3, c4, c5, c6, c7⟩, id, car, mode, ⟨fk, fn⟩⟩ := q
    have : kind = 1 ∨ kind = 2 ∨ kind = 3 ∨ kind = 4 ∨ kind = 5 ∨ kind = 6 ∨ kind = 7 ∨ kind = 8 ∨ kind = 9 ∨ kind = 10 := by
      have h1 : 1 ≤ kind := hk.1
      have h2 : kind ≤ 10 := hk.2
      omega
    rcases this with rfl | rfl | rfl | rfl | rfl | rfl | rfl | rfl | rfl | rfl
    · exact good_k1 _ _ _ _ _ _ _ _ _ _ _ _ _ _ _ _ _ _ hq
    · exact good_k2 _ _ _ _ _ _ _ _ _ _ _ _ _ _ _ _ _ _ hq
    · exact good_k3 _ _ _ _ _ _ _ _ _ _ _ _ _ _ _ _ _ _ hq
    · exact good_k4 _ _ _ _ _ _ _ _ _ _ _ _ _ _ _ _ _ _ hq
    · exact good_k5 _ _ _ _ _ _ _ _ _ _ _ _ _ _ _ _ _ _ hq
    · exact good_k6 _ _ _ _ _ _ _ _ _ _ _ _ _ _ _ _ _ _ hq
    · exact good_k7 _ _ _ _ _ _ _ _ _ _ _ _ _ _ _ _ _ _ hq
    · exact good_k8 _ _ _ _ _ _ _ _ _ _ _ _ _ _ _ _ _ _ hq
    · exact good_k9 _ _ _ _ _ _ _ _ _ _ _ _ _ _ _ _ _ _ hq
    · exact good_k10 _ _ _ _ _ _ _ _ _ _ _ _ _ _ _ _ _ _ hq
  · have h0 : ¬ (encodeV q).2 = 0 := fun h => by
      obtain ⟨ps, hw, _⟩ := encode_is hq h
      have := kind_few _ _ hw.parts
      omega
    refine ⟨⟨fun h => absurd h h0, fun h => ?_⟩, fun h => absurd h h0⟩
    have h1 := (head_of h.2).1
    unfold headR at h1
    simp only [Bool.or_eq_false_iff, Bool.not_eq_false'] at h1
    exact absurd (is_kind h1.1.1) hk
end Go.Proofs.YthflkhalipkdgaaGreat.Ms
