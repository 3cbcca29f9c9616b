/- Rows of deeds, as a row hands them in. -/
import Derived.Test.YtpofjeenednjcaaOpen
import Derived.Test.YtpofjeenednjcaaPkA
import Derived.DataShut
namespace Go.Proofs.Ytpofjeenednjcaa.Pk
open Go.RowKit Go.Proofs.Ytpofjeenednjcaa.Mem

def ActOk (a : ActV) : Prop := (-9223372036854775808 ≤ a.n ∧ a.n < 9223372036854775808) ∧ (-9223372036854775808 ≤ a.m ∧ a.m < 9223372036854775808) ∧ a.s.size ≤ 9223372036854775807
theorem wf_bounds {n : Int} (h : (Lit.int .i64 n).wf = true) : -9223372036854775808 ≤ n ∧ n < 9223372036854775808 := by
  have h1 := (Lit.wf_int_iff .i64 n).1 h
  have h2 : IntKind.i64.min = -9223372036854775808 := by decide
  have h3 : IntKind.i64.max = 9223372036854775807 := by decide
  omega

section
variable {H : Type} {enc : TypeId × Value → H} {w : World} {base : Nat} {spare : Nat → Bool} {held : Bool}
theorem open_act (n : Nat) (cs : List Value) (x : DataW H × List MemPlace) (h : DataW.trod enc Try.prog w base spare held n 44 cs = some x) : ∃ a, cs = actCells a ∧ ActOk a := by
  obtain ⟨xs, m, _, _, hl, hlen, hf⟩ := DataW.trod_struct Try.underlying44 h
  have hl' : cs.length = 5 := hl
  match cs, hl' with
  | [c0, c1, c2, c3, c4], _ =>
    match xs, hlen with
    | [y0, y1, y2, y3, y4], _ =>
      have ci : Try.prog.cellsOf 3 = 1 := by kernel_rfl
      have ct : Try.prog.cellsOf 9 = 1 := by kernel_rfl
      have f0 := hf 0 _ rfl
      have f1 := hf 1 _ rfl
      have f2 := hf 2 _ rfl
      have f3 := hf 3 _ rfl
      have f4 := hf 4 _ rfl
      simp [ci] at f0 f1 f2 f3
      simp [ct] at f4
      obtain ⟨n0, e0, _⟩ := DataW.trod_int Try.underlying3 f0
      obtain ⟨n1, e1, _⟩ := DataW.trod_int Try.underlying3 f1
      obtain ⟨n2, e2, w2⟩ := DataW.trod_int Try.underlying3 f2
      obtain ⟨n3, e3, w3⟩ := DataW.trod_int Try.underlying3 f3
      obtain ⟨s4, e4, w4⟩ := DataW.trod_string Try.underlying9 f4
      refine ⟨⟨n0, n1, n2, n3, s4⟩, ?_, wf_bounds w2.2, wf_bounds w3.2, w4.2⟩
      simp only [List.cons.injEq, and_true] at e0 e1 e2 e3 e4
      rw [e0, e1, e2, e3, e4]
      rfl
theorem open_acts_ok {fuel : Nat} {v : Value} {x : DataW H × List MemPlace} (h : DataW.trod enc Try.prog w base spare held fuel 39 [v] = some x) : ∃ acts : List ActV, RowsAt w v 5 (acts.map actCells) ∧ ∀ a ∈ acts, ActOk a :=
  open_rows actCells ActOk 5 Try.underlying39 (by kernel_rfl) (fun n cs x h => open_act n cs x h) h
theorem open_acts {fuel : Nat} {v : Value} {x : DataW H × List MemPlace} (h : DataW.trod enc Try.prog w base spare held fuel 39 [v] = some x) : ∃ acts : List ActV, RowsAt w v 5 (acts.map actCells) := by
  obtain ⟨zs, h1, _⟩ := open_acts_ok h
  exact ⟨zs, h1⟩
end
end Go.Proofs.Ytpofjeenednjcaa.Pk
