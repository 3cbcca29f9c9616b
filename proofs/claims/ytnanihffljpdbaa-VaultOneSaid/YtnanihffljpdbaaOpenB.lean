/- Structs, as rows hand them in. -/
import Derived.Test.YtnanihffljpdbaaProg
import Derived.Test.YtnanihffljpdbaaBd
import Derived.ChangeSame
import Derived.WideShapes
import Derived.DataShut
import Derived.Lib.SmallJoins
import Derived.Test.YtnanihffljpdbaaOpen
namespace Go.Proofs.Ytnanihffljpdbaa.Bk
set_option linter.unusedVariables false
set_option linter.unusedSimpArgs false
open Go.RowKit Go.ChangeShapes Go.WideShapes
open Go.Proofs.Ytnanihffljpdbaa.Mem Go.Proofs.Ytnanihffljpdbaa.Si Go.Proofs.Ytnanihffljpdbaa.Ca
theorem wf_i64E {n : Int} (h : (Lit.int .i64 n).wf = true) : -9223372036854775808 ≤ n ∧ n ≤ 9223372036854775807 := by
  have h1 := (Lit.wf_int_iff .i64 n).1 h
  have h2 : IntKind.i64.min = -9223372036854775808 := by decide
  have h3 : IntKind.i64.max = 9223372036854775807 := by decide
  omega

def ok_CallV (x : CallV) : Prop := (Lit.int .i64 x.id).wf = true ∧ (Lit.int .i64 x.kind).wf = true ∧ (Lit.int .i64 x.src).wf = true ∧ (Lit.int .i64 x.dst).wf = true ∧ (Lit.int .i64 x.car).wf = true ∧ (Lit.int .i64 x.state).wf = true ∧ (Lit.int .i64 x.owner).wf = true ∧ (Lit.int .i64 x.born).wf = true
def ok_Cfg (x : Cfg) : Prop := (Lit.int .i64 x.floors).wf = true ∧ (Lit.int .i64 x.cars).wf = true ∧ (Lit.int .i64 x.seats).wf = true ∧ (Lit.int .i64 x.calls).wf = true ∧ (Lit.int .i64 x.lines).wf = true ∧ (Lit.int .i64 x.keys).wf = true ∧ (Lit.int .i64 x.window).wf = true ∧ (Lit.int .i64 x.burst).wf = true ∧ (Lit.int .i64 x.rate).wf = true ∧ (Lit.int .i64 x.idle).wf = true ∧ (Lit.int .i64 x.inn).wf = true ∧ (Lit.int .i64 x.out).wf = true ∧ (Lit.int .i64 x.feed).wf = true ∧ (Lit.int .i64 x.retries).wf = true ∧ (Lit.int .i64 x.life).wf = true ∧ (Lit.int .i64 x.door).wf = true ∧ (Lit.int .i64 x.holds).wf = true ∧ (Lit.int .u32 x.secret).wf = true
def ok_ChgV (x : ChgV) : Prop := (Lit.int .i64 x.index).wf = true ∧ ok_CallV x.call ∧ (Lit.int .i64 x.car).wf = true ∧ (Lit.int .i64 x.mode).wf = true
def ok_DeedV (x : DeedV) : Prop := (Lit.int .i64 x.kind).wf = true ∧ ok_CallV x.x ∧ (Lit.int .i64 x.n).wf = true ∧ (Lit.int .i64 x.m).wf = true ∧ ok_ChgV x.ch
set_option maxRecDepth 100000 in
theorem read_CallV {H : Type} {enc : TypeId × Value → H} {w : World} {base : Nat} {spare : Nat → Bool} {held : Bool} (n : Nat) (cs : List Value) (x : DataW H × List MemPlace) (h : DataW.trod enc Try.prog w base spare held n 38 cs = some x) : ∃ z : CallV, cs = [.int .i64 z.id, .int .i64 z.kind, .int .i64 z.src, .int .i64 z.dst, .int .i64 z.car, .int .i64 z.state, .int .i64 z.owner, .int .i64 z.born] ∧ ok_CallV z := by
  obtain ⟨xs, m, _, _, hl, hlen, hf⟩ := DataW.trod_struct Try.underlying38 h
  have hl' : cs.length = 8 := hl.trans (by kernel_rfl)
  match cs, hl' with
  | [c0, c1, c2, c3, c4, c5, c6, c7], _ =>
    match xs, hlen with
    | [y0, y1, y2, y3, y4, y5, y6, y7], _ =>
      have ct0 : Try.prog.cellsOf 3 = 1 := by kernel_rfl
      have f0 := hf 0 _ rfl
      simp [ct0] at f0
      obtain ⟨z0, e0, _, w0⟩ := DataW.trod_int Try.underlying3 f0
      have f1 := hf 1 _ rfl
      simp [ct0] at f1
      obtain ⟨z1, e1, _, w1⟩ := DataW.trod_int Try.underlying3 f1
      have f2 := hf 2 _ rfl
      simp [ct0] at f2
      obtain ⟨z2, e2, _, w2⟩ := DataW.trod_int Try.underlying3 f2
      have f3 := hf 3 _ rfl
      simp [ct0] at f3
      obtain ⟨z3, e3, _, w3⟩ := DataW.trod_int Try.underlying3 f3
      have f4 := hf 4 _ rfl
      simp [ct0] at f4
      obtain ⟨z4, e4, _, w4⟩ := DataW.trod_int Try.underlying3 f4
      have f5 := hf 5 _ rfl
      simp [ct0] at f5
      obtain ⟨z5, e5, _, w5⟩ := DataW.trod_int Try.underlying3 f5
      have f6 := hf 6 _ rfl
      simp [ct0] at f6
      obtain ⟨z6, e6, _, w6⟩ := DataW.trod_int Try.underlying3 f6
      have f7 := hf 7 _ rfl
      simp [ct0] at f7
      obtain ⟨z7, e7, _, w7⟩ := DataW.trod_int Try.underlying3 f7
      simp only [List.cons.injEq, and_true] at e0 e1 e2 e3 e4 e5 e6 e7
      refine ⟨⟨z0, z1, z2, z3, z4, z5, z6, z7⟩, ?_, ⟨w0, w1, w2, w3, w4, w5, w6, w7⟩⟩
      simp only [e0, e1, e2, e3, e4, e5, e6, e7]
set_option maxRecDepth 100000 in
theorem open_CallV {H : Type} {enc : TypeId × Value → H} {w : World} {base : Nat} {spare : Nat → Bool} {held : Bool} {r : Reach} {b0 fuel : Nat} {v : Value} {x : DataW H × List MemPlace} (hv : Value.okWide Try.prog w r b0 38 v) (h : DataW.trod enc Try.prog w base spare held fuel 38 v.cells.toList = some x) : ∃ z : CallV, v = .agg #[.int .i64 z.id, .int .i64 z.kind, .int .i64 z.src, .int .i64 z.dst, .int .i64 z.car, .int .i64 z.state, .int .i64 z.owner, .int .i64 z.born] ∧ ok_CallV z := by
  obtain ⟨cs, rfl, _⟩ := okWide_struct Try.underlying38 hv
  obtain ⟨z, hz, ok⟩ := read_CallV _ _ _ h
  refine ⟨z, ?_, ok⟩
  have hz' : cs.toList = _ := hz
  rw [← Array.toArray_toList (xs := cs), hz']
set_option maxRecDepth 100000 in
theorem read_Cfg {H : Type} {enc : TypeId × Value → H} {w : World} {base : Nat} {spare : Nat → Bool} {held : Bool} (n : Nat) (cs : List Value) (x : DataW H × List MemPlace) (h : DataW.trod enc Try.prog w base spare held n 24 cs = some x) : ∃ z : Cfg, cs = [.int .i64 z.floors, .int .i64 z.cars, .int .i64 z.seats, .int .i64 z.calls, .int .i64 z.lines, .int .i64 z.keys, .int .i64 z.window, .int .i64 z.burst, .int .i64 z.rate, .int .i64 z.idle, .int .i64 z.inn, .int .i64 z.out, .int .i64 z.feed, .int .i64 z.retries, .int .i64 z.life, .int .i64 z.door, .int .i64 z.holds, .int .u32 z.secret] ∧ ok_Cfg z := by
  obtain ⟨xs, m, _, _, hl, hlen, hf⟩ := DataW.trod_struct Try.underlying24 h
  have hl' : cs.length = 18 := hl.trans (by kernel_rfl)
  match cs, hl' with
  | [c0, c1, c2, c3, c4, c5, c6, c7, c8, c9, c10, c11, c12, c13, c14, c15, c16, c17], _ =>
    match xs, hlen with
    | [y0, y1, y2, y3, y4, y5, y6, y7, y8, y9, y10, y11, y12, y13, y14, y15, y16, y17], _ =>
      have ct0 : Try.prog.cellsOf 3 = 1 := by kernel_rfl
      have ct1 : Try.prog.cellsOf 22 = 1 := by kernel_rfl
      have f0 := hf 0 _ rfl
      simp [ct0] at f0
      obtain ⟨z0, e0, _, w0⟩ := DataW.trod_int Try.underlying3 f0
      have f1 := hf 1 _ rfl
      simp [ct0] at f1
      obtain ⟨z1, e1, _, w1⟩ := DataW.trod_int Try.underlying3 f1
      have f2 := hf 2 _ rfl
      simp [ct0] at f2
      obtain ⟨z2, e2, _, w2⟩ := DataW.trod_int Try.underlying3 f2
      have f3 := hf 3 _ rfl
      simp [ct0] at f3
      obtain ⟨z3, e3, _, w3⟩ := DataW.trod_int Try.underlying3 f3
      have f4 := hf 4 _ rfl
      simp [ct0] at f4
      obtain ⟨z4, e4, _, w4⟩ := DataW.trod_int Try.underlying3 f4
      have f5 := hf 5 _ rfl
      simp [ct0] at f5
      obtain ⟨z5, e5, _, w5⟩ := DataW.trod_int Try.underlying3 f5
      have f6 := hf 6 _ rfl
      simp [ct0] at f6
      obtain ⟨z6, e6, _, w6⟩ := DataW.trod_int Try.underlying3 f6
      have f7 := hf 7 _ rfl
      simp [ct0] at f7
      obtain ⟨z7, e7, _, w7⟩ := DataW.trod_int Try.underlying3 f7
      have f8 := hf 8 _ rfl
      simp [ct0] at f8
      obtain ⟨z8, e8, _, w8⟩ := DataW.trod_int Try.underlying3 f8
      have f9 := hf 9 _ rfl
      simp [ct0] at f9
      obtain ⟨z9, e9, _, w9⟩ := DataW.trod_int Try.underlying3 f9
      have f10 := hf 10 _ rfl
      simp [ct0] at f10
      obtain ⟨z10, e10, _, w10⟩ := DataW.trod_int Try.underlying3 f10
      have f11 := hf 11 _ rfl
      simp [ct0] at f11
      obtain ⟨z11, e11, _, w11⟩ := DataW.trod_int Try.underlying3 f11
      have f12 := hf 12 _ rfl
      simp [ct0] at f12
      obtain ⟨z12, e12, _, w12⟩ := DataW.trod_int Try.underlying3 f12
      have f13 := hf 13 _ rfl
      simp [ct0] at f13
      obtain ⟨z13, e13, _, w13⟩ := DataW.trod_int Try.underlying3 f13
      have f14 := hf 14 _ rfl
      simp [ct0] at f14
      obtain ⟨z14, e14, _, w14⟩ := DataW.trod_int Try.underlying3 f14
      have f15 := hf 15 _ rfl
      simp [ct0] at f15
      obtain ⟨z15, e15, _, w15⟩ := DataW.trod_int Try.underlying3 f15
      have f16 := hf 16 _ rfl
      simp [ct0] at f16
      obtain ⟨z16, e16, _, w16⟩ := DataW.trod_int Try.underlying3 f16
      have f17 := hf 17 _ rfl
      simp [ct1] at f17
      obtain ⟨z17, e17, _, w17⟩ := DataW.trod_int Try.underlying22 f17
      simp only [List.cons.injEq, and_true] at e0 e1 e2 e3 e4 e5 e6 e7 e8 e9 e10 e11 e12 e13 e14 e15 e16 e17
      refine ⟨⟨z0, z1, z2, z3, z4, z5, z6, z7, z8, z9, z10, z11, z12, z13, z14, z15, z16, z17⟩, ?_, ⟨w0, w1, w2, w3, w4, w5, w6, w7, w8, w9, w10, w11, w12, w13, w14, w15, w16, w17⟩⟩
      simp only [e0, e1, e2, e3, e4, e5, e6, e7, e8, e9, e10, e11, e12, e13, e14, e15, e16, e17]
set_option maxRecDepth 100000 in
theorem open_Cfg {H : Type} {enc : TypeId × Value → H} {w : World} {base : Nat} {spare : Nat → Bool} {held : Bool} {r : Reach} {b0 fuel : Nat} {v : Value} {x : DataW H × List MemPlace} (hv : Value.okWide Try.prog w r b0 24 v) (h : DataW.trod enc Try.prog w base spare held fuel 24 v.cells.toList = some x) : ∃ z : Cfg, v = .agg #[.int .i64 z.floors, .int .i64 z.cars, .int .i64 z.seats, .int .i64 z.calls, .int .i64 z.lines, .int .i64 z.keys, .int .i64 z.window, .int .i64 z.burst, .int .i64 z.rate, .int .i64 z.idle, .int .i64 z.inn, .int .i64 z.out, .int .i64 z.feed, .int .i64 z.retries, .int .i64 z.life, .int .i64 z.door, .int .i64 z.holds, .int .u32 z.secret] ∧ ok_Cfg z := by
  obtain ⟨cs, rfl, _⟩ := okWide_struct Try.underlying24 hv
  obtain ⟨z, hz, ok⟩ := read_Cfg _ _ _ h
  refine ⟨z, ?_, ok⟩
  have hz' : cs.toList = _ := hz
  rw [← Array.toArray_toList (xs := cs), hz']
set_option maxRecDepth 100000 in
theorem read_ChgV {H : Type} {enc : TypeId × Value → H} {w : World} {base : Nat} {spare : Nat → Bool} {held : Bool} (n : Nat) (cs : List Value) (x : DataW H × List MemPlace) (h : DataW.trod enc Try.prog w base spare held n 40 cs = some x) : ∃ z : ChgV, cs = [.int .i64 z.index, .int .i64 z.call.id, .int .i64 z.call.kind, .int .i64 z.call.src, .int .i64 z.call.dst, .int .i64 z.call.car, .int .i64 z.call.state, .int .i64 z.call.owner, .int .i64 z.call.born, .int .i64 z.car, .int .i64 z.mode] ∧ ok_ChgV z := by
  obtain ⟨xs, m, _, _, hl, hlen, hf⟩ := DataW.trod_struct Try.underlying40 h
  have hl' : cs.length = 11 := hl.trans (by kernel_rfl)
  match cs, hl' with
  | [c0, c1, c2, c3, c4, c5, c6, c7, c8, c9, c10], _ =>
    match xs, hlen with
    | [y0, y1, y2, y3], _ =>
      have ct0 : Try.prog.cellsOf 3 = 1 := by kernel_rfl
      have ct1 : Try.prog.cellsOf 38 = 8 := by kernel_rfl
      have f0 := hf 0 _ rfl
      simp [ct0] at f0
      obtain ⟨z0, e0, _, w0⟩ := DataW.trod_int Try.underlying3 f0
      have f1 := hf 1 _ rfl
      simp [ct1] at f1
      obtain ⟨z1, e1, w1⟩ := read_CallV _ _ _ f1
      have f2 := hf 2 _ rfl
      simp [ct0] at f2
      obtain ⟨z2, e2, _, w2⟩ := DataW.trod_int Try.underlying3 f2
      have f3 := hf 3 _ rfl
      simp [ct0] at f3
      obtain ⟨z3, e3, _, w3⟩ := DataW.trod_int Try.underlying3 f3
      simp only [List.cons.injEq, and_true] at e0 e1 e2 e3
      refine ⟨⟨z0, z1, z2, z3⟩, ?_, ⟨w0, w1, w2, w3⟩⟩
      simp only [e0, e1, e2, e3]
set_option maxRecDepth 100000 in
theorem open_ChgV {H : Type} {enc : TypeId × Value → H} {w : World} {base : Nat} {spare : Nat → Bool} {held : Bool} {r : Reach} {b0 fuel : Nat} {v : Value} {x : DataW H × List MemPlace} (hv : Value.okWide Try.prog w r b0 40 v) (h : DataW.trod enc Try.prog w base spare held fuel 40 v.cells.toList = some x) : ∃ z : ChgV, v = .agg #[.int .i64 z.index, .int .i64 z.call.id, .int .i64 z.call.kind, .int .i64 z.call.src, .int .i64 z.call.dst, .int .i64 z.call.car, .int .i64 z.call.state, .int .i64 z.call.owner, .int .i64 z.call.born, .int .i64 z.car, .int .i64 z.mode] ∧ ok_ChgV z := by
  obtain ⟨cs, rfl, _⟩ := okWide_struct Try.underlying40 hv
  obtain ⟨z, hz, ok⟩ := read_ChgV _ _ _ h
  refine ⟨z, ?_, ok⟩
  have hz' : cs.toList = _ := hz
  rw [← Array.toArray_toList (xs := cs), hz']
set_option maxRecDepth 100000 in
theorem read_DeedV {H : Type} {enc : TypeId × Value → H} {w : World} {base : Nat} {spare : Nat → Bool} {held : Bool} (n : Nat) (cs : List Value) (x : DataW H × List MemPlace) (h : DataW.trod enc Try.prog w base spare held n 42 cs = some x) : ∃ z : DeedV, cs = [.int .i64 z.kind, .int .i64 z.x.id, .int .i64 z.x.kind, .int .i64 z.x.src, .int .i64 z.x.dst, .int .i64 z.x.car, .int .i64 z.x.state, .int .i64 z.x.owner, .int .i64 z.x.born, .int .i64 z.n, .int .i64 z.m, .int .i64 z.ch.index, .int .i64 z.ch.call.id, .int .i64 z.ch.call.kind, .int .i64 z.ch.call.src, .int .i64 z.ch.call.dst, .int .i64 z.ch.call.car, .int .i64 z.ch.call.state, .int .i64 z.ch.call.owner, .int .i64 z.ch.call.born, .int .i64 z.ch.car, .int .i64 z.ch.mode] ∧ ok_DeedV z := by
  obtain ⟨xs, m, _, _, hl, hlen, hf⟩ := DataW.trod_struct Try.underlying42 h
  have hl' : cs.length = 22 := hl.trans (by kernel_rfl)
  match cs, hl' with
  | [c0, c1, c2, c3, c4, c5, c6, c7, c8, c9, c10, c11, c12, c13, c14, c15, c16, c17, c18, c19, c20, c21], _ =>
    match xs, hlen with
    | [y0, y1, y2, y3, y4], _ =>
      have ct0 : Try.prog.cellsOf 3 = 1 := by kernel_rfl
      have ct1 : Try.prog.cellsOf 38 = 8 := by kernel_rfl
      have ct2 : Try.prog.cellsOf 40 = 11 := by kernel_rfl
      have f0 := hf 0 _ rfl
      simp [ct0] at f0
      obtain ⟨z0, e0, _, w0⟩ := DataW.trod_int Try.underlying3 f0
      have f1 := hf 1 _ rfl
      simp [ct1] at f1
      obtain ⟨z1, e1, w1⟩ := read_CallV _ _ _ f1
      have f2 := hf 2 _ rfl
      simp [ct0] at f2
      obtain ⟨z2, e2, _, w2⟩ := DataW.trod_int Try.underlying3 f2
      have f3 := hf 3 _ rfl
      simp [ct0] at f3
      obtain ⟨z3, e3, _, w3⟩ := DataW.trod_int Try.underlying3 f3
      have f4 := hf 4 _ rfl
      simp [ct2] at f4
      obtain ⟨z4, e4, w4⟩ := read_ChgV _ _ _ f4
      simp only [List.cons.injEq, and_true] at e0 e1 e2 e3 e4
      refine ⟨⟨z0, z1, z2, z3, z4⟩, ?_, ⟨w0, w1, w2, w3, w4⟩⟩
      simp only [e0, e1, e2, e3, e4]
set_option maxRecDepth 100000 in
theorem open_DeedV {H : Type} {enc : TypeId × Value → H} {w : World} {base : Nat} {spare : Nat → Bool} {held : Bool} {r : Reach} {b0 fuel : Nat} {v : Value} {x : DataW H × List MemPlace} (hv : Value.okWide Try.prog w r b0 42 v) (h : DataW.trod enc Try.prog w base spare held fuel 42 v.cells.toList = some x) : ∃ z : DeedV, v = .agg #[.int .i64 z.kind, .int .i64 z.x.id, .int .i64 z.x.kind, .int .i64 z.x.src, .int .i64 z.x.dst, .int .i64 z.x.car, .int .i64 z.x.state, .int .i64 z.x.owner, .int .i64 z.x.born, .int .i64 z.n, .int .i64 z.m, .int .i64 z.ch.index, .int .i64 z.ch.call.id, .int .i64 z.ch.call.kind, .int .i64 z.ch.call.src, .int .i64 z.ch.call.dst, .int .i64 z.ch.call.car, .int .i64 z.ch.call.state, .int .i64 z.ch.call.owner, .int .i64 z.ch.call.born, .int .i64 z.ch.car, .int .i64 z.ch.mode] ∧ ok_DeedV z := by
  obtain ⟨cs, rfl, _⟩ := okWide_struct Try.underlying42 hv
  obtain ⟨z, hz, ok⟩ := read_DeedV _ _ _ h
  refine ⟨z, ?_, ok⟩
  have hz' : cs.toList = _ := hz
  rw [← Array.toArray_toList (xs := cs), hz']
/-- a slice that came in, of these -/
def DeedsIn (w : World) (a : Option Addr) (n c : Nat) (zs : List DeedV) : Prop := n = zs.length ∧ (rS a c 22 (zs.map deedRow)).holds w ∧ ∀ z ∈ zs, ok_DeedV z
theorem openDeeds {H : Type} {enc : TypeId × Value → H} {w : World} {base : Nat} {spare : Nat → Bool} {held : Bool} {fuel : Nat} {a : Option Addr} {n c : Nat} {x : DataW H × List MemPlace} (h : DataW.trod enc Try.prog w base spare held fuel 25 [.slice a n c] = some x) : ∃ zs, DeedsIn w a n c zs := by
  obtain ⟨zs, h1, h2⟩ := open_rows deedRow ok_DeedV 22 Try.underlying25 (by kernel_rfl) (fun n cs x h => read_DeedV n cs x h) h
  have hwf : Wf 22 (zs.map deedRow) := by
    intro r hr
    obtain ⟨z, _, rfl⟩ := List.mem_map.1 hr
    exact ⟨rfl, by simp [deedRow, Value.oneCell']⟩
  refine ⟨zs, ?_, ?_, h2⟩
  · rcases h1 with ⟨he, h0⟩ | ⟨y, c', he, _⟩
    · injection he with _ e2 _
      rw [e2, List.map_eq_nil_iff.1 h0]
      rfl
    · injection he with _ e2 _
      simpa using e2
  · refine ⟨?_, hwf⟩
    have hn : n = (zs.map deedRow).length := by
      rcases h1 with ⟨he, h0⟩ | ⟨y, c', he, _⟩
      · injection he with _ e2 _
        rw [e2, h0]
        rfl
      · injection he with _ e2 _
    rw [← hn]
    exact h1
end Go.Proofs.Ytnanihffljpdbaa.Bk
