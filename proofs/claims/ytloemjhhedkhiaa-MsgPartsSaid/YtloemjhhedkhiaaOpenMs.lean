/- Structs, as rows hand them in. -/
import Derived.Test.YtloemjhhedkhiaaProg
import Derived.Test.YtloemjhhedkhiaaRq
import Derived.ChangeSame
import Derived.WideShapes
import Derived.DataShut
import Derived.Lib.SmallJoins
namespace Go.Proofs.Ytloemjhhedkhiaa.Ms
set_option linter.unusedVariables false
set_option linter.unusedSimpArgs false
open Go.RowKit Go.ChangeShapes Go.WideShapes
open Go.Proofs.Ytloemjhhedkhiaa.Ca
def ok_CallV (x : CallV) : Prop := (Lit.int .i64 x.id).wf = true ∧ (Lit.int .i64 x.kind).wf = true ∧ (Lit.int .i64 x.src).wf = true ∧ (Lit.int .i64 x.dst).wf = true ∧ (Lit.int .i64 x.car).wf = true ∧ (Lit.int .i64 x.state).wf = true ∧ (Lit.int .i64 x.owner).wf = true ∧ (Lit.int .i64 x.born).wf = true
def ok_FilterV (x : FilterV) : Prop := (Lit.int .i64 x.kind).wf = true ∧ (Lit.int .i64 x.n).wf = true
def ok_ReqV (x : ReqV) : Prop := (Lit.int .i64 x.kind).wf = true ∧ (Lit.int .i64 x.seq).wf = true ∧ (Lit.int .i64 x.who).wf = true ∧ (Lit.int .i64 x.role).wf = true ∧ (Lit.int .u32 x.token).wf = true ∧ (Lit.int .u64 x.key).wf = true ∧ ok_CallV x.call ∧ (Lit.int .i64 x.id).wf = true ∧ (Lit.int .i64 x.car).wf = true ∧ (Lit.int .i64 x.mode).wf = true ∧ ok_FilterV x.filter
set_option maxRecDepth 100000 in
theorem read_CallV {H : Type} {enc : TypeId × Value → H} {w : World} {base : Nat} {spare : Nat → Bool} {held : Bool} (n : Nat) (cs : List Value) (x : DataW H × List MemPlace) (h : DataW.trod enc Try.prog w base spare held n 25 cs = some x) : ∃ z : CallV, cs = [.int .i64 z.id, .int .i64 z.kind, .int .i64 z.src, .int .i64 z.dst, .int .i64 z.car, .int .i64 z.state, .int .i64 z.owner, .int .i64 z.born] ∧ ok_CallV z := by
  obtain ⟨xs, m, _, _, hl, hlen, hf⟩ := DataW.trod_struct Try.underlying25 h
  have hl' : cs.length = 8 := hl.trans (by kernel_rfl)
  match cs, hl' with
  | [c0, c1, c2, c3, c4, c5, c6, c7], _ =>
    match xs, hlen with
    | [y0, y1, y2, y3, y4, y5, y6, y7], _ =>
      have ct0 : Try.prog.cellsOf 3 = 1 := by kernel_rfl
      have f0 := hf 0 _ rfl
      simp [ct0] at f0
      obtain ⟨z0, e0, _, w0⟩ := DataW.trod_int Try.underlying3 f0
      have f1 := hf 1 _ rfl
      simp [ct0] at f1
      obtain ⟨z1, e1, _, w1⟩ := DataW.trod_int Try.underlying3 f1
      have f2 := hf 2 _ rfl
      simp [ct0] at f2
      obtain ⟨z2, e2, _, w2⟩ := DataW.trod_int Try.underlying3 f2
      have f3 := hf 3 _ rfl
      simp [ct0] at f3
      obtain ⟨z3, e3, _, w3⟩ := DataW.trod_int Try.underlying3 f3
      have f4 := hf 4 _ rfl
      simp [ct0] at f4
      obtain ⟨z4, e4, _, w4⟩ := DataW.trod_int Try.underlying3 f4
      have f5 := hf 5 _ rfl
      simp [ct0] at f5
      obtain ⟨z5, e5, _, w5⟩ := DataW.trod_int Try.underlying3 f5
      have f6 := hf 6 _ rfl
      simp [ct0] at f6
      obtain ⟨z6, e6, _, w6⟩ := DataW.trod_int Try.underlying3 f6
      have f7 := hf 7 _ rfl
      simp [ct0] at f7
      obtain ⟨z7, e7, _, w7⟩ := DataW.trod_int Try.underlying3 f7
      simp only [List.cons.injEq, and_true] at e0 e1 e2 e3 e4 e5 e6 e7
      refine ⟨⟨z0, z1, z2, z3, z4, z5, z6, z7⟩, ?_, ⟨w0, w1, w2, w3, w4, w5, w6, w7⟩⟩
      simp only [e0, e1, e2, e3, e4, e5, e6, e7]
set_option maxRecDepth 100000 in
theorem open_CallV {H : Type} {enc : TypeId × Value → H} {w : World} {base : Nat} {spare : Nat → Bool} {held : Bool} {r : Reach} {b0 fuel : Nat} {v : Value} {x : DataW H × List MemPlace} (hv : Value.okWide Try.prog w r b0 25 v) (h : DataW.trod enc Try.prog w base spare held fuel 25 v.cells.toList = some x) : ∃ z : CallV, v = .agg #[.int .i64 z.id, .int .i64 z.kind, .int .i64 z.src, .int .i64 z.dst, .int .i64 z.car, .int .i64 z.state, .int .i64 z.owner, .int .i64 z.born] ∧ ok_CallV z := by
  obtain ⟨cs, rfl, _⟩ := okWide_struct Try.underlying25 hv
  obtain ⟨z, hz, ok⟩ := read_CallV _ _ _ h
  refine ⟨z, ?_, ok⟩
  have hz' : cs.toList = _ := hz
  rw [← Array.toArray_toList (xs := cs), hz']
set_option maxRecDepth 100000 in
theorem read_FilterV {H : Type} {enc : TypeId × Value → H} {w : World} {base : Nat} {spare : Nat → Bool} {held : Bool} (n : Nat) (cs : List Value) (x : DataW H × List MemPlace) (h : DataW.trod enc Try.prog w base spare held n 27 cs = some x) : ∃ z : FilterV, cs = [.int .i64 z.kind, .int .i64 z.n] ∧ ok_FilterV z := by
  obtain ⟨xs, m, _, _, hl, hlen, hf⟩ := DataW.trod_struct Try.underlying27 h
  have hl' : cs.length = 2 := hl.trans (by kernel_rfl)
  match cs, hl' with
  | [c0, c1], _ =>
    match xs, hlen with
    | [y0, y1], _ =>
      have ct0 : Try.prog.cellsOf 3 = 1 := by kernel_rfl
      have f0 := hf 0 _ rfl
      simp [ct0] at f0
      obtain ⟨z0, e0, _, w0⟩ := DataW.trod_int Try.underlying3 f0
      have f1 := hf 1 _ rfl
      simp [ct0] at f1
      obtain ⟨z1, e1, _, w1⟩ := DataW.trod_int Try.underlying3 f1
      simp only [List.cons.injEq, and_true] at e0 e1
      refine ⟨⟨z0, z1⟩, ?_, ⟨w0, w1⟩⟩
      simp only [e0, e1]
set_option maxRecDepth 100000 in
theorem open_FilterV {H : Type} {enc : TypeId × Value → H} {w : World} {base : Nat} {spare : Nat → Bool} {held : Bool} {r : Reach} {b0 fuel : Nat} {v : Value} {x : DataW H × List MemPlace} (hv : Value.okWide Try.prog w r b0 27 v) (h : DataW.trod enc Try.prog w base spare held fuel 27 v.cells.toList = some x) : ∃ z : FilterV, v = .agg #[.int .i64 z.kind, .int .i64 z.n] ∧ ok_FilterV z := by
  obtain ⟨cs, rfl, _⟩ := okWide_struct Try.underlying27 hv
  obtain ⟨z, hz, ok⟩ := read_FilterV _ _ _ h
  refine ⟨z, ?_, ok⟩
  have hz' : cs.toList = _ := hz
  rw [← Array.toArray_toList (xs := cs), hz']
set_option maxRecDepth 100000 in
theorem read_ReqV {H : Type} {enc : TypeId × Value → H} {w : World} {base : Nat} {spare : Nat → Bool} {held : Bool} (n : Nat) (cs : List Value) (x : DataW H × List MemPlace) (h : DataW.trod enc Try.prog w base spare held n 29 cs = some x) : ∃ z : ReqV, cs = [.int .i64 z.kind, .int .i64 z.seq, .int .i64 z.who, .int .i64 z.role, .int .u32 z.token, .int .u64 z.key, .int .i64 z.call.id, .int .i64 z.call.kind, .int .i64 z.call.src, .int .i64 z.call.dst, .int .i64 z.call.car, .int .i64 z.call.state, .int .i64 z.call.owner, .int .i64 z.call.born, .int .i64 z.id, .int .i64 z.car, .int .i64 z.mode, .int .i64 z.filter.kind, .int .i64 z.filter.n] ∧ ok_ReqV z := by
  obtain ⟨xs, m, _, _, hl, hlen, hf⟩ := DataW.trod_struct Try.underlying29 h
  have hl' : cs.length = 19 := hl.trans (by kernel_rfl)
  match cs, hl' with
  | [c0, c1, c2, c3, c4, c5, c6, c7, c8, c9, c10, c11, c12, c13, c14, c15, c16, c17, c18], _ =>
    match xs, hlen with
    | [y0, y1, y2, y3, y4, y5, y6, y7, y8, y9, y10], _ =>
      have ct0 : Try.prog.cellsOf 3 = 1 := by kernel_rfl
      have ct1 : Try.prog.cellsOf 22 = 1 := by kernel_rfl
      have ct2 : Try.prog.cellsOf 23 = 1 := by kernel_rfl
      have ct3 : Try.prog.cellsOf 25 = 8 := by kernel_rfl
      have ct4 : Try.prog.cellsOf 27 = 2 := by kernel_rfl
      have f0 := hf 0 _ rfl
      simp [ct0] at f0
      obtain ⟨z0, e0, _, w0⟩ := DataW.trod_int Try.underlying3 f0
      have f1 := hf 1 _ rfl
      simp [ct0] at f1
      obtain ⟨z1, e1, _, w1⟩ := DataW.trod_int Try.underlying3 f1
      have f2 := hf 2 _ rfl
      simp [ct0] at f2
      obtain ⟨z2, e2, _, w2⟩ := DataW.trod_int Try.underlying3 f2
      have f3 := hf 3 _ rfl
      simp [ct0] at f3
      obtain ⟨z3, e3, _, w3⟩ := DataW.trod_int Try.underlying3 f3
      have f4 := hf 4 _ rfl
      simp [ct1] at f4
      obtain ⟨z4, e4, _, w4⟩ := DataW.trod_int Try.underlying22 f4
      have f5 := hf 5 _ rfl
      simp [ct2] at f5
      obtain ⟨z5, e5, _, w5⟩ := DataW.trod_int Try.underlying23 f5
      have f6 := hf 6 _ rfl
      simp [ct3] at f6
      obtain ⟨z6, e6, w6⟩ := read_CallV _ _ _ f6
      have f7 := hf 7 _ rfl
      simp [ct0] at f7
      obtain ⟨z7, e7, _, w7⟩ := DataW.trod_int Try.underlying3 f7
      have f8 := hf 8 _ rfl
      simp [ct0] at f8
      obtain ⟨z8, e8, _, w8⟩ := DataW.trod_int Try.underlying3 f8
      have f9 := hf 9 _ rfl
      simp [ct0] at f9
      obtain ⟨z9, e9, _, w9⟩ := DataW.trod_int Try.underlying3 f9
      have f10 := hf 10 _ rfl
      simp [ct4] at f10
      obtain ⟨z10, e10, w10⟩ := read_FilterV _ _ _ f10
      simp only [List.cons.injEq, and_true] at e0 e1 e2 e3 e4 e5 e6 e7 e8 e9 e10
      refine ⟨⟨z0, z1, z2, z3, z4, z5, z6, z7, z8, z9, z10⟩, ?_, ⟨w0, w1, w2, w3, w4, w5, w6, w7, w8, w9, w10⟩⟩
      simp only [e0, e1, e2, e3, e4, e5, e6, e7, e8, e9, e10]
set_option maxRecDepth 100000 in
theorem open_ReqV {H : Type} {enc : TypeId × Value → H} {w : World} {base : Nat} {spare : Nat → Bool} {held : Bool} {r : Reach} {b0 fuel : Nat} {v : Value} {x : DataW H × List MemPlace} (hv : Value.okWide Try.prog w r b0 29 v) (h : DataW.trod enc Try.prog w base spare held fuel 29 v.cells.toList = some x) : ∃ z : ReqV, v = .agg #[.int .i64 z.kind, .int .i64 z.seq, .int .i64 z.who, .int .i64 z.role, .int .u32 z.token, .int .u64 z.key, .int .i64 z.call.id, .int .i64 z.call.kind, .int .i64 z.call.src, .int .i64 z.call.dst, .int .i64 z.call.car, .int .i64 z.call.state, .int .i64 z.call.owner, .int .i64 z.call.born, .int .i64 z.id, .int .i64 z.car, .int .i64 z.mode, .int .i64 z.filter.kind, .int .i64 z.filter.n] ∧ ok_ReqV z := by
  obtain ⟨cs, rfl, _⟩ := okWide_struct Try.underlying29 hv
  obtain ⟨z, hz, ok⟩ := read_ReqV _ _ _ h
  refine ⟨z, ?_, ok⟩
  have hz' : cs.toList = _ := hz
  rw [← Array.toArray_toList (xs := cs), hz']
end Go.Proofs.Ytloemjhhedkhiaa.Ms
