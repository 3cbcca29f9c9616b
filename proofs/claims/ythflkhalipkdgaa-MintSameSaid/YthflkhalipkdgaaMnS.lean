/- Layer 35: fewer events are the beginning of more (plain law, by hand). -/
import Derived.Test.YthflkhalipkdgaaMn8
namespace Go.Proofs.Ythflkhalipkdgaa.Mn
set_option maxRecDepth 20000
open Go.RowKit Go.Proofs.Ythflkhalipkdgaa.Si Go.Proofs.Ythflkhalipkdgaa.Ca Go.Proofs.Ythflkhalipkdgaa.Ms
set_option linter.unusedVariables false
set_option linter.unusedSimpArgs false
theorem evsV_more (c : Cfg) (s k d : Nat) : ∃ l, evsV c s (k + d) = evsV c s k ++ l := by
  induction d with
  | zero => exact ⟨[], by simp⟩
  | succ d ih =>
    obtain ⟨l, hl⟩ := ih
    exact ⟨l ++ [_], by rw [← Nat.add_assoc, ← evsV_next, hl, List.append_assoc]⟩
theorem evAll_take {s : Nat} {c : Cfg} {j k : Nat} (hk : k ≤ j) (hj : j ≤ 16384) : evAll s c k = (evAll s c j).take k := by
  unfold evAll
  rw [show decide ((k : Int) < 0) = false from decide_eq_false (by omega), show decide ((j : Int) < 0) = false from decide_eq_false (by omega), show decide (16384 < (k : Int)) = false from decide_eq_false (by omega), show decide (16384 < (j : Int)) = false from decide_eq_false (by omega)]
  cases h : (checkV c != 0) with
  | true => simp
  | false =>
    show eventsV s c (k : Int).toNat = (eventsV s c (j : Int).toNat).take k
    rw [Int.toNat_natCast, Int.toNat_natCast]
    unfold eventsV
    rw [List.take_take, Nat.min_eq_left hk]
    obtain ⟨l, hl⟩ := evsV_more c s (k - (hellosV c).length) ((j - (hellosV c).length) - (k - (hellosV c).length))
    rw [show k - (hellosV c).length + ((j - (hellosV c).length) - (k - (hellosV c).length)) = j - (hellosV c).length by omega] at hl
    rw [hl, List.take_append_of_le_length]
    rw [evsV_len]
    omega
end Go.Proofs.Ythflkhalipkdgaa.Mn
