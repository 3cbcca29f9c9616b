/- A [4]byte by value, as a row hands it in. -/
import Derived.Test.YtpofjeenednjcaaProg
import Derived.ChangeSame
import Derived.WideShapes
import Derived.DataShut
import Derived.Laws.IdiomArrays
import Derived.Lib.SmallJoins
namespace Go.Proofs.Ytpofjeenednjcaa.Mem
open Go.RowKit Go.ChangeShapes

section
variable {H : Type} {enc : TypeId × Value → H} {w : World} {base : Nat} {spare : Nat → Bool} {held : Bool}
theorem okWide_arr {P : Program} {r : Reach} {b0 : Nat} {t e : TypeId} {n : Nat} {v : Value} (ht : P.underlying t = some (.array n e)) (h : Value.okWide P w r b0 t v) : ∃ cs, v = .agg cs ∧ cs.size = P.cellsOf t := by
  simp only [Value.okWide, ht] at h
  obtain ⟨cs, h1, h2, _⟩ := h
  exact ⟨cs, h1, h2⟩
theorem byte_nat {n : Int} (h : (Lit.int .u8 n).wf = true) : ∃ m : Nat, n = (m : Int) ∧ m < 256 := by
  have h1 := (Lit.wf_int_iff .u8 n).1 h
  have h2 : IntKind.u8.min = 0 := by decide
  have h3 : IntKind.u8.max = 255 := by decide
  exact ⟨n.toNat, by omega, by omega⟩
theorem open_arr4 {r : Reach} {b0 : Nat} {fuel : Nat} {v : Value} {x : DataW H × List MemPlace} (hv : Value.okWide Try.prog w r b0 31 v) (h : DataW.trod enc Try.prog w base spare held fuel 31 v.cells.toList = some x) :
    ∃ d0 d1 d2 d3 : Nat, v = .agg #[.int .u8 d0, .int .u8 d1, .int .u8 d2, .int .u8 d3] ∧ d0 < 256 ∧ d1 < 256 ∧ d2 < 256 ∧ d3 < 256 := by
  obtain ⟨cs, rfl, hs⟩ := okWide_arr Try.underlying31 hv
  obtain ⟨c0, c1, c2, c3, rfl⟩ := Joins.array4 (hs.trans (by kernel_rfl))
  obtain ⟨y0, y1, y2, y3, n, _, h0, h1, h2, h3⟩ := trod_array4 (c0 := c0) (c1 := c1) (c2 := c2) (c3 := c3) Try.underlying31 (by kernel_rfl) h
  obtain ⟨n0, e0, _, w0⟩ := DataW.trod_int Try.underlying5 h0
  obtain ⟨n1, e1, _, w1⟩ := DataW.trod_int Try.underlying5 h1
  obtain ⟨n2, e2, _, w2⟩ := DataW.trod_int Try.underlying5 h2
  obtain ⟨n3, e3, _, w3⟩ := DataW.trod_int Try.underlying5 h3
  simp only [List.cons.injEq, and_true] at e0 e1 e2 e3
  obtain ⟨m0, rfl, l0⟩ := byte_nat w0
  obtain ⟨m1, rfl, l1⟩ := byte_nat w1
  obtain ⟨m2, rfl, l2⟩ := byte_nat w2
  obtain ⟨m3, rfl, l3⟩ := byte_nat w3
  exact ⟨m0, m1, m2, m3, by rw [e0, e1, e2, e3], l0, l1, l2, l3⟩
end
end Go.Proofs.Ytpofjeenednjcaa.Mem
