/- Structs, as rows hand them in. -/
import Derived.Test.YtfhhfmkfkoemjaaProg
import Derived.Test.YtfhhfmkfkoemjaaDo6
import Derived.ChangeSame
import Derived.WideShapes
import Derived.DataShut
import Derived.Lib.SmallJoins
import Derived.Test.YtfhhfmkfkoemjaaOpen
namespace Go.Proofs.Ytfhhfmkfkoemjaa.Si6
set_option linter.unusedVariables false
set_option linter.unusedSimpArgs false
open Go.RowKit Go.ChangeShapes Go.WideShapes
open Go.Proofs.Ytfhhfmkfkoemjaa.Mem
def ok_ActV (x : ActV) : Prop := (Lit.int .i64 x.kind).wf = true ∧ x.key.size ≤ 9223372036854775807 ∧ (Lit.int .i64 x.val).wf = true
set_option maxRecDepth 100000 in
theorem read_ActV {H : Type} {enc : TypeId × Value → H} {w : World} {base : Nat} {spare : Nat → Bool} {held : Bool} (n : Nat) (cs : List Value) (x : DataW H × List MemPlace) (h : DataW.trod enc Try.prog w base spare held n 67 cs = some x) : ∃ z : ActV, cs = [.int .i64 z.kind, .string z.key, .int .i64 z.val] ∧ ok_ActV z := by
  obtain ⟨xs, m, _, _, hl, hlen, hf⟩ := DataW.trod_struct Try.underlying67 h
  have hl' : cs.length = 3 := hl.trans (by kernel_rfl)
  match cs, hl' with
  | [c0, c1, c2], _ =>
    match xs, hlen with
    | [y0, y1, y2], _ =>
      have ct0 : Try.prog.cellsOf 3 = 1 := by kernel_rfl
      have ct1 : Try.prog.cellsOf 9 = 1 := by kernel_rfl
      have f0 := hf 0 _ rfl
      simp [ct0] at f0
      obtain ⟨z0, e0, _, w0⟩ := DataW.trod_int Try.underlying3 f0
      have f1 := hf 1 _ rfl
      simp [ct1] at f1
      obtain ⟨z1, e1, _, w1⟩ := DataW.trod_string Try.underlying9 f1
      have f2 := hf 2 _ rfl
      simp [ct0] at f2
      obtain ⟨z2, e2, _, w2⟩ := DataW.trod_int Try.underlying3 f2
      simp only [List.cons.injEq, and_true] at e0 e1 e2
      refine ⟨⟨z0, z1, z2⟩, ?_, ⟨w0, w1, w2⟩⟩
      simp only [e0, e1, e2]
set_option maxRecDepth 100000 in
theorem open_ActV {H : Type} {enc : TypeId × Value → H} {w : World} {base : Nat} {spare : Nat → Bool} {held : Bool} {r : Reach} {b0 fuel : Nat} {v : Value} {x : DataW H × List MemPlace} (hv : Value.okWide Try.prog w r b0 67 v) (h : DataW.trod enc Try.prog w base spare held fuel 67 v.cells.toList = some x) : ∃ z : ActV, v = .agg #[.int .i64 z.kind, .string z.key, .int .i64 z.val] ∧ ok_ActV z := by
  obtain ⟨cs, rfl, _⟩ := okWide_struct Try.underlying67 hv
  obtain ⟨z, hz, ok⟩ := read_ActV _ _ _ h
  refine ⟨z, ?_, ok⟩
  have hz' : cs.toList = _ := hz
  rw [← Array.toArray_toList (xs := cs), hz']
/-- a slice that came in, of these -/
def ActsIn (w : World) (a : Option Addr) (n c : Nat) (zs : List ActV) : Prop := n = zs.length ∧ (rS a c 3 (zs.map actRow)).holds w ∧ ∀ z ∈ zs, ok_ActV z
theorem openActs {H : Type} {enc : TypeId × Value → H} {w : World} {base : Nat} {spare : Nat → Bool} {held : Bool} {fuel : Nat} {a : Option Addr} {n c : Nat} {x : DataW H × List MemPlace} (h : DataW.trod enc Try.prog w base spare held fuel 52 [.slice a n c] = some x) : ∃ zs, ActsIn w a n c zs := by
  obtain ⟨zs, h1, h2⟩ := open_rows actRow ok_ActV 3 Try.underlying52 (by kernel_rfl) (fun n cs x h => read_ActV n cs x h) h
  have hwf : Wf 3 (zs.map actRow) := by
    intro r hr
    obtain ⟨z, _, rfl⟩ := List.mem_map.1 hr
    exact ⟨rfl, by simp [actRow, Value.oneCell']⟩
  refine ⟨zs, ?_, ?_, h2⟩
  · rcases h1 with ⟨he, h0⟩ | ⟨y, c', he, _⟩
    · injection he with _ e2 _
      rw [e2, List.map_eq_nil_iff.1 h0]
      rfl
    · injection he with _ e2 _
      simpa using e2
  · refine ⟨?_, hwf⟩
    have hn : n = (zs.map actRow).length := by
      rcases h1 with ⟨he, h0⟩ | ⟨y, c', he, _⟩
      · injection he with _ e2 _
        rw [e2, h0]
        rfl
      · injection he with _ e2 _
    rw [← hn]
    exact h1
end Go.Proofs.Ytfhhfmkfkoemjaa.Si6
