/- Layer 35: MintApart, of what a row hands in. -/
import Derived.Test.YthflkhalipkdgaaLwMintApart
namespace Go.Proofs.Ythflkhalipkdgaa.Mn
set_option maxRecDepth 20000
set_option linter.unusedVariables false
set_option linter.unusedSimpArgs false
open Go.RowKit Go.Proofs.Ythflkhalipkdgaa.Mem
theorem wf_u64M {n : Int} (h : (Lit.int .u64 n).wf = true) : 0 ≤ n ∧ n ≤ 18446744073709551615 := by
  have h1 := h
  simp [Lit.wf] at h1
  have h2 : IntKind.u64.min = 0 := by decide
  have h3 : IntKind.u64.max = 18446744073709551615 := by decide
  omega
theorem mintApart (a b n : Int) (w : World) (ha : (Lit.int .u64 a).wf = true) (hb : (Lit.int .u64 b).wf = true) (_ : (Lit.int .i64 n).wf = true) : Calls Try.prog 3 #[.int .u64 a, .int .u64 b, .int .i64 n] w fun e w' => e = .returned (.bool true) ∧ Below w.heap.size w w' := by
  have h1 := wf_u64M ha
  have h2 := wf_u64M hb
  obtain ⟨x, rfl⟩ := Int.eq_ofNat_of_zero_le h1.1
  obtain ⟨y, rfl⟩ := Int.eq_ofNat_of_zero_le h2.1
  refine (apartM x y n w (by omega) (by omega)).mono ?_
  rintro e w' ⟨rfl, ho⟩
  exact ⟨rfl, ho.to_below⟩
end Go.Proofs.Ythflkhalipkdgaa.Mn
