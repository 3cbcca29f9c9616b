/- Structs of layer 15, as rows hand them in. -/
import Derived.Test.YtloemjhhedkhiaaProg
import Derived.Test.YtloemjhhedkhiaaNd3
import Derived.Test.YtloemjhhedkhiaaOpen
import Derived.Test.YtloemjhhedkhiaaMemS
import Derived.ChangeSame
import Derived.WideShapes
import Derived.DataShut
import Derived.Lib.SmallJoins
namespace Go.Proofs.Ytloemjhhedkhiaa.Nt
set_option linter.unusedVariables false
set_option linter.unusedSimpArgs false
open Go.RowKit Go.ChangeShapes Go.WideShapes Go.Proofs.Ytloemjhhedkhiaa.Mem Go.Proofs.Ytloemjhhedkhiaa.Pk
def ok_CallV (x : CallV) : Prop := (Lit.int .i64 x.id).wf = true ∧ (Lit.int .i64 x.kind).wf = true ∧ (Lit.int .i64 x.src).wf = true ∧ (Lit.int .i64 x.dst).wf = true ∧ (Lit.int .i64 x.car).wf = true ∧ (Lit.int .i64 x.state).wf = true ∧ (Lit.int .i64 x.owner).wf = true ∧ (Lit.int .i64 x.born).wf = true
def ok_ChgV (x : ChgV) : Prop := (Lit.int .i64 x.index).wf = true ∧ ok_CallV x.call ∧ (Lit.int .i64 x.car).wf = true ∧ (Lit.int .i64 x.mode).wf = true
def ok_NoteV (x : NoteV) : Prop := (Lit.int .i64 x.index).wf = true ∧ ok_ChgV x.chg
set_option maxRecDepth 100000 in
theorem read_CallV {H : Type} {enc : TypeId × Value → H} {w : World} {base : Nat} {spare : Nat → Bool} {held : Bool} (n : Nat) (cs : List Value) (x : DataW H × List MemPlace) (h : DataW.trod enc Try.prog w base spare held n 25 cs = some x) : ∃ z : CallV, cs = [.int .i64 z.id, .int .i64 z.kind, .int .i64 z.src, .int .i64 z.dst, .int .i64 z.car, .int .i64 z.state, .int .i64 z.owner, .int .i64 z.born] ∧ ok_CallV z := by
  obtain ⟨xs, m, _, _, hl, hlen, hf⟩ := DataW.trod_struct Try.underlying25 h
  have hl' : cs.length = 8 := hl.trans (by kernel_rfl)
  match cs, hl' with
  | [c0, c1, c2, c3, c4, c5, c6, c7], _ =>
    match xs, hlen with
    | [y0, y1, y2, y3, y4, y5, y6, y7], _ =>
      have ct0 : Try.prog.cellsOf 3 = 1 := by kernel_rfl
      have f0 := hf 0 _ rfl
      simp [ct0] at f0
      obtain ⟨z0, e0, _, w0⟩ := DataW.trod_int Try.underlying3 f0
      have f1 := hf 1 _ rfl
      simp [ct0] at f1
      obtain ⟨z1, e1, _, w1⟩ := DataW.trod_int Try.underlying3 f1
      have f2 := hf 2 _ rfl
      simp [ct0] at f2
      obtain ⟨z2, e2, _, w2⟩ := DataW.trod_int Try.underlying3 f2
      have f3 := hf 3 _ rfl
      simp [ct0] at f3
      obtain ⟨z3, e3, _, w3⟩ := DataW.trod_int Try.underlying3 f3
      have f4 := hf 4 _ rfl
      simp [ct0] at f4
      obtain ⟨z4, e4, _, w4⟩ := DataW.trod_int Try.underlying3 f4
      have f5 := hf 5 _ rfl
      simp [ct0] at f5
      obtain ⟨z5, e5, _, w5⟩ := DataW.trod_int Try.underlying3 f5
      have f6 := hf 6 _ rfl
      simp [ct0] at f6
      obtain ⟨z6, e6, _, w6⟩ := DataW.trod_int Try.underlying3 f6
      have f7 := hf 7 _ rfl
      simp [ct0] at f7
      obtain ⟨z7, e7, _, w7⟩ := DataW.trod_int Try.underlying3 f7
      simp only [List.cons.injEq, and_true] at e0 e1 e2 e3 e4 e5 e6 e7
      refine ⟨⟨z0, z1, z2, z3, z4, z5, z6, z7⟩, ?_, ⟨w0, w1, w2, w3, w4, w5, w6, w7⟩⟩
      simp only [e0, e1, e2, e3, e4, e5, e6, e7]
set_option maxRecDepth 100000 in
theorem open_CallV {H : Type} {enc : TypeId × Value → H} {w : World} {base : Nat} {spare : Nat → Bool} {held : Bool} {r : Reach} {b0 fuel : Nat} {v : Value} {x : DataW H × List MemPlace} (hv : Value.okWide Try.prog w r b0 25 v) (h : DataW.trod enc Try.prog w base spare held fuel 25 v.cells.toList = some x) : ∃ z : CallV, v = .agg #[.int .i64 z.id, .int .i64 z.kind, .int .i64 z.src, .int .i64 z.dst, .int .i64 z.car, .int .i64 z.state, .int .i64 z.owner, .int .i64 z.born] ∧ ok_CallV z := by
  obtain ⟨cs, rfl, _⟩ := okWide_struct Try.underlying25 hv
  obtain ⟨z, hz, ok⟩ := read_CallV _ _ _ h
  refine ⟨z, ?_, ok⟩
  have hz' : cs.toList = _ := hz
  rw [← Array.toArray_toList (xs := cs), hz']
set_option maxRecDepth 100000 in
theorem read_ChgV {H : Type} {enc : TypeId × Value → H} {w : World} {base : Nat} {spare : Nat → Bool} {held : Bool} (n : Nat) (cs : List Value) (x : DataW H × List MemPlace) (h : DataW.trod enc Try.prog w base spare held n 48 cs = some x) : ∃ z : ChgV, cs = [.int .i64 z.index, .int .i64 z.call.id, .int .i64 z.call.kind, .int .i64 z.call.src, .int .i64 z.call.dst, .int .i64 z.call.car, .int .i64 z.call.state, .int .i64 z.call.owner, .int .i64 z.call.born, .int .i64 z.car, .int .i64 z.mode] ∧ ok_ChgV z := by
  obtain ⟨xs, m, _, _, hl, hlen, hf⟩ := DataW.trod_struct Try.underlying48 h
  have hl' : cs.length = 11 := hl.trans (by kernel_rfl)
  match cs, hl' with
  | [c0, c1, c2, c3, c4, c5, c6, c7, c8, c9, c10], _ =>
    match xs, hlen with
    | [y0, y1, y2, y3], _ =>
      have ct0 : Try.prog.cellsOf 3 = 1 := by kernel_rfl
      have ct1 : Try.prog.cellsOf 25 = 8 := by kernel_rfl
      have f0 := hf 0 _ rfl
      simp [ct0] at f0
      obtain ⟨z0, e0, _, w0⟩ := DataW.trod_int Try.underlying3 f0
      have f1 := hf 1 _ rfl
      simp [ct1] at f1
      obtain ⟨z1, e1, w1⟩ := read_CallV _ _ _ f1
      have f2 := hf 2 _ rfl
      simp [ct0] at f2
      obtain ⟨z2, e2, _, w2⟩ := DataW.trod_int Try.underlying3 f2
      have f3 := hf 3 _ rfl
      simp [ct0] at f3
      obtain ⟨z3, e3, _, w3⟩ := DataW.trod_int Try.underlying3 f3
      simp only [List.cons.injEq, and_true] at e0 e1 e2 e3
      refine ⟨⟨z0, z1, z2, z3⟩, ?_, ⟨w0, w1, w2, w3⟩⟩
      simp only [e0, e1, e2, e3]
set_option maxRecDepth 100000 in
theorem open_ChgV {H : Type} {enc : TypeId × Value → H} {w : World} {base : Nat} {spare : Nat → Bool} {held : Bool} {r : Reach} {b0 fuel : Nat} {v : Value} {x : DataW H × List MemPlace} (hv : Value.okWide Try.prog w r b0 48 v) (h : DataW.trod enc Try.prog w base spare held fuel 48 v.cells.toList = some x) : ∃ z : ChgV, v = .agg #[.int .i64 z.index, .int .i64 z.call.id, .int .i64 z.call.kind, .int .i64 z.call.src, .int .i64 z.call.dst, .int .i64 z.call.car, .int .i64 z.call.state, .int .i64 z.call.owner, .int .i64 z.call.born, .int .i64 z.car, .int .i64 z.mode] ∧ ok_ChgV z := by
  obtain ⟨cs, rfl, _⟩ := okWide_struct Try.underlying48 hv
  obtain ⟨z, hz, ok⟩ := read_ChgV _ _ _ h
  refine ⟨z, ?_, ok⟩
  have hz' : cs.toList = _ := hz
  rw [← Array.toArray_toList (xs := cs), hz']
set_option maxRecDepth 100000 in
theorem read_NoteV {H : Type} {enc : TypeId × Value → H} {w : World} {base : Nat} {spare : Nat → Bool} {held : Bool} (n : Nat) (cs : List Value) (x : DataW H × List MemPlace) (h : DataW.trod enc Try.prog w base spare held n 50 cs = some x) : ∃ z : NoteV, cs = [.int .i64 z.index, .int .i64 z.chg.index, .int .i64 z.chg.call.id, .int .i64 z.chg.call.kind, .int .i64 z.chg.call.src, .int .i64 z.chg.call.dst, .int .i64 z.chg.call.car, .int .i64 z.chg.call.state, .int .i64 z.chg.call.owner, .int .i64 z.chg.call.born, .int .i64 z.chg.car, .int .i64 z.chg.mode] ∧ ok_NoteV z := by
  obtain ⟨xs, m, _, _, hl, hlen, hf⟩ := DataW.trod_struct Try.underlying50 h
  have hl' : cs.length = 12 := hl.trans (by kernel_rfl)
  match cs, hl' with
  | [c0, c1, c2, c3, c4, c5, c6, c7, c8, c9, c10, c11], _ =>
    match xs, hlen with
    | [y0, y1], _ =>
      have ct0 : Try.prog.cellsOf 3 = 1 := by kernel_rfl
      have ct1 : Try.prog.cellsOf 48 = 11 := by kernel_rfl
      have f0 := hf 0 _ rfl
      simp [ct0] at f0
      obtain ⟨z0, e0, _, w0⟩ := DataW.trod_int Try.underlying3 f0
      have f1 := hf 1 _ rfl
      simp [ct1] at f1
      obtain ⟨z1, e1, w1⟩ := read_ChgV _ _ _ f1
      simp only [List.cons.injEq, and_true] at e0 e1
      refine ⟨⟨z0, z1⟩, ?_, ⟨w0, w1⟩⟩
      simp only [e0, e1]
set_option maxRecDepth 100000 in
theorem open_NoteV {H : Type} {enc : TypeId × Value → H} {w : World} {base : Nat} {spare : Nat → Bool} {held : Bool} {r : Reach} {b0 fuel : Nat} {v : Value} {x : DataW H × List MemPlace} (hv : Value.okWide Try.prog w r b0 50 v) (h : DataW.trod enc Try.prog w base spare held fuel 50 v.cells.toList = some x) : ∃ z : NoteV, v = .agg #[.int .i64 z.index, .int .i64 z.chg.index, .int .i64 z.chg.call.id, .int .i64 z.chg.call.kind, .int .i64 z.chg.call.src, .int .i64 z.chg.call.dst, .int .i64 z.chg.call.car, .int .i64 z.chg.call.state, .int .i64 z.chg.call.owner, .int .i64 z.chg.call.born, .int .i64 z.chg.car, .int .i64 z.chg.mode] ∧ ok_NoteV z := by
  obtain ⟨cs, rfl, _⟩ := okWide_struct Try.underlying50 hv
  obtain ⟨z, hz, ok⟩ := read_NoteV _ _ _ h
  refine ⟨z, ?_, ok⟩
  have hz' : cs.toList = _ := hz
  rw [← Array.toArray_toList (xs := cs), hz']
/-- an answer that came in: its calls, its pass -/
def ok_AnsV (w : World) (z : AnsV) (a : Option Addr) (c : Nat) : Prop := (rS a c 8 (z.calls.map callRow)).holds w ∧ (0 ≤ z.pass ∧ z.pass ≤ 4294967295) ∧ ((Lit.int .i64 z.seq).wf = true ∧ (Lit.int .i64 z.code).wf = true ∧ (Lit.int .i64 z.index).wf = true ∧ (Lit.int .i64 z.session).wf = true) ∧ ∀ x ∈ z.calls, ok_CallV x
set_option maxRecDepth 100000 in
theorem read_AnsV {H : Type} {enc : TypeId × Value → H} {w : World} {base : Nat} {spare : Nat → Bool} {held : Bool} (n : Nat) (cs : List Value) (x : DataW H × List MemPlace) (h : DataW.trod enc Try.prog w base spare held n 64 cs = some x) : ∃ (z : AnsV) (a : Option Addr) (c : Nat), cs = [.int .i64 z.seq, .int .i64 z.code, .int .i64 z.index, .int .i64 z.session, .int .u32 z.pass, .slice a z.calls.length c] ∧ ok_AnsV w z a c := by
  obtain ⟨xs, m, _, _, hl, hlen, hf⟩ := DataW.trod_struct Try.underlying64 h
  have hl' : cs.length = 6 := hl.trans (by kernel_rfl)
  match cs, hl' with
  | [c0, c1, c2, c3, c4, c5], _ =>
    match xs, hlen with
    | [y0, y1, y2, y3, y4, y5], _ =>
      have ct0 : Try.prog.cellsOf 3 = 1 := by kernel_rfl
      have ct1 : Try.prog.cellsOf 22 = 1 := by kernel_rfl
      have ct2 : Try.prog.cellsOf 62 = 1 := by kernel_rfl
      have f0 := hf 0 _ rfl
      simp [ct0] at f0
      obtain ⟨z0, e0, _, w0⟩ := DataW.trod_int Try.underlying3 f0
      have f1 := hf 1 _ rfl
      simp [ct0] at f1
      obtain ⟨z1, e1, _, w1⟩ := DataW.trod_int Try.underlying3 f1
      have f2 := hf 2 _ rfl
      simp [ct0] at f2
      obtain ⟨z2, e2, _, w2⟩ := DataW.trod_int Try.underlying3 f2
      have f3 := hf 3 _ rfl
      simp [ct0] at f3
      obtain ⟨z3, e3, _, w3⟩ := DataW.trod_int Try.underlying3 f3
      have f4 := hf 4 _ rfl
      simp [ct1] at f4
      obtain ⟨z4, e4, _, w4⟩ := DataW.trod_int Try.underlying22 f4
      have f5 := hf 5 _ rfl
      simp [ct2] at f5
      obtain ⟨zs, h1, h2⟩ := open_rows callRow ok_CallV 8 Try.underlying62 (by kernel_rfl) (fun n cs x h => read_CallV n cs x h) f5
      have hwf : Wf 8 (zs.map callRow) := by
        intro r hr
        obtain ⟨z, _, rfl⟩ := List.mem_map.1 hr
        exact ⟨rfl, by simp [callRow, Value.oneCell']⟩
      obtain ⟨a, c, e5⟩ : ∃ a c, c5 = .slice a zs.length c := by
        rcases h1 with ⟨he, h0⟩ | ⟨y, c', he, _⟩
        · rw [List.map_eq_nil_iff.1 h0]
          exact ⟨_, _, he⟩
        · rw [List.length_map] at he
          exact ⟨_, _, he⟩
      simp only [List.cons.injEq, and_true] at e0 e1 e2 e3 e4
      have hw4 := (Lit.wf_int_iff .u32 z4).1 w4
      refine ⟨⟨z0, z1, z2, z3, z4, zs⟩, a, c, ?_, ⟨?_, hwf⟩, ?_, ⟨w0, w1, w2, w3⟩, h2⟩
      · simp only [e0, e1, e2, e3, e4, e5]
      · rw [e5] at h1
        rw [List.length_map]
        exact h1
      · have h2 : IntKind.u32.min = 0 := by decide
        have h3 : IntKind.u32.max = 4294967295 := by decide
        show 0 ≤ z4 ∧ z4 ≤ 4294967295
        omega
set_option maxRecDepth 100000 in
theorem open_AnsV {H : Type} {enc : TypeId × Value → H} {w : World} {base : Nat} {spare : Nat → Bool} {held : Bool} {r : Reach} {b0 fuel : Nat} {v : Value} {x : DataW H × List MemPlace} (hv : Value.okWide Try.prog w r b0 64 v) (h : DataW.trod enc Try.prog w base spare held fuel 64 v.cells.toList = some x) : ∃ (z : AnsV) (a : Option Addr) (c : Nat), v = .agg #[.int .i64 z.seq, .int .i64 z.code, .int .i64 z.index, .int .i64 z.session, .int .u32 z.pass, .slice a z.calls.length c] ∧ ok_AnsV w z a c := by
  obtain ⟨cs, rfl, _⟩ := okWide_struct Try.underlying64 hv
  obtain ⟨z, a, c, hz, ok⟩ := read_AnsV _ _ _ h
  refine ⟨z, a, c, ?_, ok⟩
  have hz' : cs.toList = _ := hz
  rw [← Array.toArray_toList (xs := cs), hz']
end Go.Proofs.Ytloemjhhedkhiaa.Nt
