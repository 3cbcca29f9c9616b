/- Structs, as rows hand them in. -/
import Derived.Test.YthflkhalipkdgaaGreatProg
import Derived.Test.YthflkhalipkdgaaGreatLwMintExact
import Derived.ChangeSame
import Derived.WideShapes
import Derived.DataShut
import Derived.Lib.SmallJoins
import Derived.Test.YthflkhalipkdgaaGreatOpen
namespace Go.Proofs.YthflkhalipkdgaaGreat.Mn
set_option maxRecDepth 20000
set_option linter.unusedVariables false
set_option linter.unusedSimpArgs false
open Go.RowKit Go.ChangeShapes Go.WideShapes
open Go.Proofs.YthflkhalipkdgaaGreat.Mem Go.Proofs.YthflkhalipkdgaaGreat.Si Go.Proofs.YthflkhalipkdgaaGreat.Ca
theorem wf_i64M {n : Int} (h : (Lit.int .i64 n).wf = true) : -9223372036854775808 ≤ n ∧ n ≤ 9223372036854775807 := by
  have h1 := (Lit.wf_int_iff .i64 n).1 h
  have h2 : IntKind.i64.min = -9223372036854775808 := by decide
  have h3 : IntKind.i64.max = 9223372036854775807 := by decide
  omega

def ok_Cfg (x : Cfg) : Prop := (Lit.int .i64 x.floors).wf = true ∧ (Lit.int .i64 x.cars).wf = true ∧ (Lit.int .i64 x.seats).wf = true ∧ (Lit.int .i64 x.calls).wf = true ∧ (Lit.int .i64 x.lines).wf = true ∧ (Lit.int .i64 x.keys).wf = true ∧ (Lit.int .i64 x.window).wf = true ∧ (Lit.int .i64 x.burst).wf = true ∧ (Lit.int .i64 x.rate).wf = true ∧ (Lit.int .i64 x.idle).wf = true ∧ (Lit.int .i64 x.inn).wf = true ∧ (Lit.int .i64 x.out).wf = true ∧ (Lit.int .i64 x.feed).wf = true ∧ (Lit.int .i64 x.retries).wf = true ∧ (Lit.int .i64 x.life).wf = true ∧ (Lit.int .i64 x.door).wf = true ∧ (Lit.int .i64 x.holds).wf = true ∧ (Lit.int .u32 x.secret).wf = true
def ok_AskDV (x : AskDV) : Prop := (Lit.int .i64 x.kind).wf = true ∧ (Lit.int .i64 x.n).wf = true
set_option maxRecDepth 100000 in
theorem read_Cfg {H : Type} {enc : TypeId × Value → H} {w : World} {base : Nat} {spare : Nat → Bool} {held : Bool} (n : Nat) (cs : List Value) (x : DataW H × List MemPlace) (h : DataW.trod enc Tryz.prog w base spare held n 25 cs = some x) : ∃ z : Cfg, cs = [.int .i64 z.floors, .int .i64 z.cars, .int .i64 z.seats, .int .i64 z.calls, .int .i64 z.lines, .int .i64 z.keys, .int .i64 z.window, .int .i64 z.burst, .int .i64 z.rate, .int .i64 z.idle, .int .i64 z.inn, .int .i64 z.out, .int .i64 z.feed, .int .i64 z.retries, .int .i64 z.life, .int .i64 z.door, .int .i64 z.holds, .int .u32 z.secret] ∧ ok_Cfg z := by
  obtain ⟨xs, m, _, _, hl, hlen, hf⟩ := DataW.trod_struct Tryz.underlying25 h
  have hl' : cs.length = 18 := hl.trans (by kernel_rfl)
  match cs, hl' with
  | [c0, c1, c2, c3, c4, c5, c6, c7, c8, c9, c10, c11, c12, c13, c14, c15, c16, c17], _ =>
    match xs, hlen with
    | [y0, y1, y2, y3, y4, y5, y6, y7, y8, y9, y10, y11, y12, y13, y14, y15, y16, y17], _ =>
      have ct0 : Tryz.prog.cellsOf 3 = 1 := by kernel_rfl
      have ct1 : Tryz.prog.cellsOf 23 = 1 := by kernel_rfl
      have f0 := hf 0 _ rfl
      simp [ct0] at f0
      obtain ⟨z0, e0, _, w0⟩ := DataW.trod_int Tryz.underlying3 f0
      have f1 := hf 1 _ rfl
      simp [ct0] at f1
      obtain ⟨z1, e1, _, w1⟩ := DataW.trod_int Tryz.underlying3 f1
      have f2 := hf 2 _ rfl
      simp [ct0] at f2
      obtain ⟨z2, e2, _, w2⟩ := DataW.trod_int Tryz.underlying3 f2
      have f3 := hf 3 _ rfl
      simp [ct0] at f3
      obtain ⟨z3, e3, _, w3⟩ := DataW.trod_int Tryz.underlying3 f3
      have f4 := hf 4 _ rfl
      simp [ct0] at f4
      obtain ⟨z4, e4, _, w4⟩ := DataW.trod_int Tryz.underlying3 f4
      have f5 := hf 5 _ rfl
      simp [ct0] at f5
      obtain ⟨z5, e5, _, w5⟩ := DataW.trod_int Tryz.underlying3 f5
      have f6 := hf 6 _ rfl
      simp [ct0] at f6
      obtain ⟨z6, e6, _, w6⟩ := DataW.trod_int Tryz.underlying3 f6
      have f7 := hf 7 _ rfl
      simp [ct0] at f7
      obtain ⟨z7, e7, _, w7⟩ := DataW.trod_int Tryz.underlying3 f7
      have f8 := hf 8 _ rfl
      simp [ct0] at f8
      obtain ⟨z8, e8, _, w8⟩ := DataW.trod_int Tryz.underlying3 f8
      have f9 := hf 9 _ rfl
      simp [ct0] at f9
      obtain ⟨z9, e9, _, w9⟩ := DataW.trod_int Tryz.underlying3 f9
      have f10 := hf 10 _ rfl
      simp [ct0] at f10
      obtain ⟨z10, e10, _, w10⟩ := DataW.trod_int Tryz.underlying3 f10
      have f11 := hf 11 _ rfl
      simp [ct0] at f11
      obtain ⟨z11, e11, _, w11⟩ := DataW.trod_int Tryz.underlying3 f11
      have f12 := hf 12 _ rfl
      simp [ct0] at f12
      obtain ⟨z12, e12, _, w12⟩ := DataW.trod_int Tryz.underlying3 f12
      have f13 := hf 13 _ rfl
      simp [ct0] at f13
      obtain ⟨z13, e13, _, w13⟩ := DataW.trod_int Tryz.underlying3 f13
      have f14 := hf 14 _ rfl
      simp [ct0] at f14
      obtain ⟨z14, e14, _, w14⟩ := DataW.trod_int Tryz.underlying3 f14
      have f15 := hf 15 _ rfl
      simp [ct0] at f15
      obtain ⟨z15, e15, _, w15⟩ := DataW.trod_int Tryz.underlying3 f15
      have f16 := hf 16 _ rfl
      simp [ct0] at f16
      obtain ⟨z16, e16, _, w16⟩ := DataW.trod_int Tryz.underlying3 f16
      have f17 := hf 17 _ rfl
      simp [ct1] at f17
      obtain ⟨z17, e17, _, w17⟩ := DataW.trod_int Tryz.underlying23 f17
      simp only [List.cons.injEq, and_true] at e0 e1 e2 e3 e4 e5 e6 e7 e8 e9 e10 e11 e12 e13 e14 e15 e16 e17
      refine ⟨⟨z0, z1, z2, z3, z4, z5, z6, z7, z8, z9, z10, z11, z12, z13, z14, z15, z16, z17⟩, ?_, ⟨w0, w1, w2, w3, w4, w5, w6, w7, w8, w9, w10, w11, w12, w13, w14, w15, w16, w17⟩⟩
      simp only [e0, e1, e2, e3, e4, e5, e6, e7, e8, e9, e10, e11, e12, e13, e14, e15, e16, e17]
set_option maxRecDepth 100000 in
theorem open_Cfg {H : Type} {enc : TypeId × Value → H} {w : World} {base : Nat} {spare : Nat → Bool} {held : Bool} {r : Reach} {b0 fuel : Nat} {v : Value} {x : DataW H × List MemPlace} (hv : Value.okWide Tryz.prog w r b0 25 v) (h : DataW.trod enc Tryz.prog w base spare held fuel 25 v.cells.toList = some x) : ∃ z : Cfg, v = .agg #[.int .i64 z.floors, .int .i64 z.cars, .int .i64 z.seats, .int .i64 z.calls, .int .i64 z.lines, .int .i64 z.keys, .int .i64 z.window, .int .i64 z.burst, .int .i64 z.rate, .int .i64 z.idle, .int .i64 z.inn, .int .i64 z.out, .int .i64 z.feed, .int .i64 z.retries, .int .i64 z.life, .int .i64 z.door, .int .i64 z.holds, .int .u32 z.secret] ∧ ok_Cfg z := by
  obtain ⟨cs, rfl, _⟩ := okWide_struct Tryz.underlying25 hv
  obtain ⟨z, hz, ok⟩ := read_Cfg _ _ _ h
  refine ⟨z, ?_, ok⟩
  have hz' : cs.toList = _ := hz
  rw [← Array.toArray_toList (xs := cs), hz']
set_option maxRecDepth 100000 in
theorem read_AskDV {H : Type} {enc : TypeId × Value → H} {w : World} {base : Nat} {spare : Nat → Bool} {held : Bool} (n : Nat) (cs : List Value) (x : DataW H × List MemPlace) (h : DataW.trod enc Tryz.prog w base spare held n 33 cs = some x) : ∃ z : AskDV, cs = [.int .i64 z.kind, .int .i64 z.n] ∧ ok_AskDV z := by
  obtain ⟨xs, m, _, _, hl, hlen, hf⟩ := DataW.trod_struct Tryz.underlying33 h
  have hl' : cs.length = 2 := hl.trans (by kernel_rfl)
  match cs, hl' with
  | [c0, c1], _ =>
    match xs, hlen with
    | [y0, y1], _ =>
      have ct0 : Tryz.prog.cellsOf 3 = 1 := by kernel_rfl
      have f0 := hf 0 _ rfl
      simp [ct0] at f0
      obtain ⟨z0, e0, _, w0⟩ := DataW.trod_int Tryz.underlying3 f0
      have f1 := hf 1 _ rfl
      simp [ct0] at f1
      obtain ⟨z1, e1, _, w1⟩ := DataW.trod_int Tryz.underlying3 f1
      simp only [List.cons.injEq, and_true] at e0 e1
      refine ⟨⟨z0, z1⟩, ?_, ⟨w0, w1⟩⟩
      simp only [e0, e1]
set_option maxRecDepth 100000 in
theorem open_AskDV {H : Type} {enc : TypeId × Value → H} {w : World} {base : Nat} {spare : Nat → Bool} {held : Bool} {r : Reach} {b0 fuel : Nat} {v : Value} {x : DataW H × List MemPlace} (hv : Value.okWide Tryz.prog w r b0 33 v) (h : DataW.trod enc Tryz.prog w base spare held fuel 33 v.cells.toList = some x) : ∃ z : AskDV, v = .agg #[.int .i64 z.kind, .int .i64 z.n] ∧ ok_AskDV z := by
  obtain ⟨cs, rfl, _⟩ := okWide_struct Tryz.underlying33 hv
  obtain ⟨z, hz, ok⟩ := read_AskDV _ _ _ h
  refine ⟨z, ?_, ok⟩
  have hz' : cs.toList = _ := hz
  rw [← Array.toArray_toList (xs := cs), hz']
/-- a slice that came in, of these -/
def AskDsIn (w : World) (a : Option Addr) (n c : Nat) (zs : List AskDV) : Prop := n = zs.length ∧ (rS a c 2 (zs.map askRow)).holds w ∧ ∀ z ∈ zs, ok_AskDV z
theorem openAskDs {H : Type} {enc : TypeId × Value → H} {w : World} {base : Nat} {spare : Nat → Bool} {held : Bool} {fuel : Nat} {a : Option Addr} {n c : Nat} {x : DataW H × List MemPlace} (h : DataW.trod enc Tryz.prog w base spare held fuel 26 [.slice a n c] = some x) : ∃ zs, AskDsIn w a n c zs := by
  obtain ⟨zs, h1, h2⟩ := open_rows askRow ok_AskDV 2 Tryz.underlying26 (by kernel_rfl) (fun n cs x h => read_AskDV n cs x h) h
  have hwf : Wf 2 (zs.map askRow) := by
    intro r hr
    obtain ⟨z, _, rfl⟩ := List.mem_map.1 hr
    exact ⟨rfl, by simp [askRow, Value.oneCell']⟩
  refine ⟨zs, ?_, ?_, h2⟩
  · rcases h1 with ⟨he, h0⟩ | ⟨y, c', he, _⟩
    · injection he with _ e2 _
      rw [e2, List.map_eq_nil_iff.1 h0]
      rfl
    · injection he with _ e2 _
      simpa using e2
  · refine ⟨?_, hwf⟩
    have hn : n = (zs.map askRow).length := by
      rcases h1 with ⟨he, h0⟩ | ⟨y, c', he, _⟩
      · injection he with _ e2 _
        rw [e2, h0]
        rfl
      · injection he with _ e2 _
    rw [← hn]
    exact h1
end Go.Proofs.YthflkhalipkdgaaGreat.Mn
