/- Structs, as rows hand them in. -/
import Derived.Test.YtnanihffljpdbaaProg
import Derived.Test.YtnanihffljpdbaaLwVaultOne
import Derived.ChangeSame
import Derived.WideShapes
import Derived.DataShut
import Derived.Lib.SmallJoins
import Derived.Test.YtnanihffljpdbaaOpenB
namespace Go.Proofs.Ytnanihffljpdbaa.Bk
set_option linter.unusedVariables false
set_option linter.unusedSimpArgs false
open Go.RowKit Go.ChangeShapes Go.WideShapes
open Go.Proofs.Ytnanihffljpdbaa.Mem Go.Proofs.Ytnanihffljpdbaa.Si Go.Proofs.Ytnanihffljpdbaa.Ca

def ok_VActV (x : VActV) : Prop := (Lit.int .i64 x.kind).wf = true ∧ (Lit.int .i64 x.who).wf = true ∧ ok_CallV x.x ∧ (Lit.int .i64 x.n).wf = true
set_option maxRecDepth 100000 in
theorem read_VActV {H : Type} {enc : TypeId × Value → H} {w : World} {base : Nat} {spare : Nat → Bool} {held : Bool} (n : Nat) (cs : List Value) (x : DataW H × List MemPlace) (h : DataW.trod enc Try.prog w base spare held n 87 cs = some x) : ∃ z : VActV, cs = [.int .i64 z.kind, .int .i64 z.who, .int .i64 z.x.id, .int .i64 z.x.kind, .int .i64 z.x.src, .int .i64 z.x.dst, .int .i64 z.x.car, .int .i64 z.x.state, .int .i64 z.x.owner, .int .i64 z.x.born, .int .i64 z.n] ∧ ok_VActV z := by
  obtain ⟨xs, m, _, _, hl, hlen, hf⟩ := DataW.trod_struct Try.underlying87 h
  have hl' : cs.length = 11 := hl.trans (by kernel_rfl)
  match cs, hl' with
  | [c0, c1, c2, c3, c4, c5, c6, c7, c8, c9, c10], _ =>
    match xs, hlen with
    | [y0, y1, y2, y3], _ =>
      have ct0 : Try.prog.cellsOf 3 = 1 := by kernel_rfl
      have ct1 : Try.prog.cellsOf 38 = 8 := by kernel_rfl
      have f0 := hf 0 _ rfl
      simp [ct0] at f0
      obtain ⟨z0, e0, _, w0⟩ := DataW.trod_int Try.underlying3 f0
      have f1 := hf 1 _ rfl
      simp [ct0] at f1
      obtain ⟨z1, e1, _, w1⟩ := DataW.trod_int Try.underlying3 f1
      have f2 := hf 2 _ rfl
      simp [ct1] at f2
      obtain ⟨z2, e2, w2⟩ := read_CallV _ _ _ f2
      have f3 := hf 3 _ rfl
      simp [ct0] at f3
      obtain ⟨z3, e3, _, w3⟩ := DataW.trod_int Try.underlying3 f3
      simp only [List.cons.injEq, and_true] at e0 e1 e2 e3
      refine ⟨⟨z0, z1, z2, z3⟩, ?_, ⟨w0, w1, w2, w3⟩⟩
      simp only [e0, e1, e2, e3]
set_option maxRecDepth 100000 in
theorem open_VActV {H : Type} {enc : TypeId × Value → H} {w : World} {base : Nat} {spare : Nat → Bool} {held : Bool} {r : Reach} {b0 fuel : Nat} {v : Value} {x : DataW H × List MemPlace} (hv : Value.okWide Try.prog w r b0 87 v) (h : DataW.trod enc Try.prog w base spare held fuel 87 v.cells.toList = some x) : ∃ z : VActV, v = .agg #[.int .i64 z.kind, .int .i64 z.who, .int .i64 z.x.id, .int .i64 z.x.kind, .int .i64 z.x.src, .int .i64 z.x.dst, .int .i64 z.x.car, .int .i64 z.x.state, .int .i64 z.x.owner, .int .i64 z.x.born, .int .i64 z.n] ∧ ok_VActV z := by
  obtain ⟨cs, rfl, _⟩ := okWide_struct Try.underlying87 hv
  obtain ⟨z, hz, ok⟩ := read_VActV _ _ _ h
  refine ⟨z, ?_, ok⟩
  have hz' : cs.toList = _ := hz
  rw [← Array.toArray_toList (xs := cs), hz']
/-- a slice that came in, of these -/
def VActsIn (w : World) (a : Option Addr) (n c : Nat) (zs : List VActV) : Prop := n = zs.length ∧ (rS a c 11 (zs.map vactRow)).holds w ∧ ∀ z ∈ zs, ok_VActV z
theorem openVActs {H : Type} {enc : TypeId × Value → H} {w : World} {base : Nat} {spare : Nat → Bool} {held : Bool} {fuel : Nat} {a : Option Addr} {n c : Nat} {x : DataW H × List MemPlace} (h : DataW.trod enc Try.prog w base spare held fuel 74 [.slice a n c] = some x) : ∃ zs, VActsIn w a n c zs := by
  obtain ⟨zs, h1, h2⟩ := open_rows vactRow ok_VActV 11 Try.underlying74 (by kernel_rfl) (fun n cs x h => read_VActV n cs x h) h
  have hwf : Wf 11 (zs.map vactRow) := by
    intro r hr
    obtain ⟨z, _, rfl⟩ := List.mem_map.1 hr
    exact ⟨rfl, by simp [vactRow, Value.oneCell']⟩
  refine ⟨zs, ?_, ?_, h2⟩
  · rcases h1 with ⟨he, h0⟩ | ⟨y, c', he, _⟩
    · injection he with _ e2 _
      rw [e2, List.map_eq_nil_iff.1 h0]
      rfl
    · injection he with _ e2 _
      simpa using e2
  · refine ⟨?_, hwf⟩
    have hn : n = (zs.map vactRow).length := by
      rcases h1 with ⟨he, h0⟩ | ⟨y, c', he, _⟩
      · injection he with _ e2 _
        rw [e2, h0]
        rfl
      · injection he with _ e2 _
    rw [← hn]
    exact h1
end Go.Proofs.Ytnanihffljpdbaa.Bk
