/- Slices of slices: what is cut, and what it holds. -/
import Derived.Test.YthflkhalipkdgaaProg
import Derived.Below
import Derived.WalkKit
import Derived.KernelRfl
import Derived.RowKit3
import Derived.Deep.LoopGhost
import Derived.Deep.QuietTactic
import Derived.BigQuiet
import Derived.WideLaws
import Derived.Deep.DeepCutAuto
import Derived.Deep.CutBlock
import Derived.Lib.Hide
import Derived.Laws.BitsLemmas
import Derived.Laws.Bits64
import Derived.Laws.BitsAllLaws
import Derived.IntWalk
import Derived.Outline
import Derived.WalkSpells
import Derived.Test.YthflkhalipkdgaaMem
import Derived.Test.YthflkhalipkdgaaRegK
namespace Go.Proofs.Ythflkhalipkdgaa.Mem
set_option maxRecDepth 20000
set_option linter.unusedVariables false
set_option linter.unusedSimpArgs false
open Go.RowKit
/-- the address of what is cut behind l elements -/
def cutA (a : Option Addr) (c l k : Nat) : Option Addr := if c = l then a else a.map (fun p => p.add (l * k))
section
variable {P : Program} {o : Oper} {act : Act} {w w0 : World} {S : List Nat} {R : List Res} {t e k by_ n c i : Nat} {a : Option Addr} {x y : Operand}
theorem run_size_of (E : ElI P t e k by_) (w : World) : (sizeOf e).run P w = .ok k w := by
  obtain ⟨j, z, h1, h2, h3, h4, h5⟩ := E.info
  simp [sizeOf, typeInfo, h1, h3]
theorem elem_of (E : ElI P t e k by_) : P.elem t = e := by simp [Program.elem, E.und]
theorem exec_cut_h (E : ElI P t e k by_) (ho : o.op = .slice t x none (some y) none) (hx : act.eval x = .slice a n c) (hy : act.eval y = .int .i64 ((i : Nat) : Int)) (hc : i ≤ c) : (execOp act.eval o).run P w = .ok (.value (.slice a i c)) w := by
  have hu : P.underlying t = some (.slice (P.elem t)) := by rw [elem_of E]; exact E.und
  unfold execOp
  simp only [ho, hx, hy, Option.map_some, Option.map_none, Sem.run_bind, Instr.sliceAt, run_underlying hu]
  simp only [Result.andThen, run_slice_h w t a n c hu .i64 (i : Int) (by omega) (by omega), elem_of E, run_size_of E, sliced]
  cases a <;> simp [Addr.add]
theorem exec_cut_l (E : ElI P t e k by_) (ho : o.op = .slice t x (some y) none none) (hx : act.eval x = .slice a n c) (hy : act.eval y = .int .i64 ((i : Nat) : Int)) (hn : i ≤ n) : (execOp act.eval o).run P w = .ok (.value (.slice (cutA a c i k) (n - i) (c - i))) w := by
  have hu : P.underlying t = some (.slice (P.elem t)) := by rw [elem_of E]; exact E.und
  unfold execOp
  simp only [ho, hx, hy, Option.map_some, Option.map_none, Sem.run_bind, Instr.sliceAt, run_underlying hu]
  simp only [Result.andThen, run_slice_l w t a n c hu .i64 (i : Int) (by omega) (by omega), elem_of E, run_size_of E, sliced]
  simp [cutA]
theorem exec_rem {p q : Operand} {ty yt : TypeId} {kd : IntKind} {u v : Int} (ho : o.op = .binOp .rem ty p q yt) (hp : act.eval p = .int kd u) (hq : act.eval q = .int kd v) (hv : v ≠ 0) : (execOp act.eval o).run P w = .ok (.value (.int kd (u.tmod v))) w := by
  unfold execOp
  simp [ho, hp, hq, binOp_rem, Op.intDiv, hv, eqGuard]
theorem rS_take {α : Type} {f : α → List Value} {l : List α} (h : (rS a c k (l.map f)).holds w) (i : Nat) (hi : i ≤ l.length) : (rS a c k ((l.take i).map f)).holds w := by
  refine ⟨?_, h.2.sub fun r hr => ?_⟩
  · rcases h.1 with ⟨h1, h2⟩ | ⟨z, c', he, hc⟩
    · left
      have h3 : l = [] := by simpa using h2
      subst h3
      simpa using h1
    · right
      injection he with e1 e2 e3
      refine ⟨z, c, by rw [e1], fun j hj => ?_⟩
      have hj' : j < i ∧ j < l.length := by simp at hj; omega
      have h4 := hc j (by simpa using hj'.2)
      simpa using h4
  · rw [List.map_take] at hr
    exact List.mem_of_mem_take hr
theorem rS_drop {α : Type} {f : α → List Value} {l : List α} (h : (rS a c k (l.map f)).holds w) (i : Nat) (hi : i ≤ l.length) (hl : l.length ≤ c) : (rS (cutA a c i k) (c - i) k ((l.drop i).map f)).holds w := by
  refine ⟨?_, h.2.sub fun r hr => ?_⟩
  · rcases h.1 with ⟨h1, h2⟩ | ⟨z, c', he, hc⟩
    · left
      have h3 : l = [] := by simpa using h2
      subst h3
      injection h1 with e1 e2 e3
      subst e1 e3
      simp [cutA]
    · right
      injection he with e1 e2 e3
      subst e1
      by_cases hci : c = i
      · refine ⟨z, c - i, by rw [cutA, if_pos hci], fun j hj => ?_⟩
        simp at hj
        omega
      · refine ⟨z.add (i * k), c - i, by rw [cutA, if_neg hci]; rfl, fun j hj => ?_⟩
        have hj' : i + j < l.length := by simp at hj; omega
        have h4 := hc (i + j) (by simpa using hj')
        rw [Deep.add_add, ← Nat.add_mul]
        simpa using h4
  · rw [List.map_drop] at hr
    exact List.mem_of_mem_drop hr
theorem rA_cap {rows : List (List Value)} (h : (rA a c e k rows).holds w) : rows.length ≤ c := by
  rcases h.1.2 with ⟨h1, h2⟩ | ⟨g, cp, cur, h1, _, _, h2, _⟩
  · omega
  · injection h1 with e1 e2 e3
    omega
theorem rA_at {rows : List (List Value)} (h : (rA a c e k rows).holds w) (h0 : 0 < rows.length) : ∃ b, a = some ⟨b, 0, none⟩ := by
  rcases h.1.2 with ⟨h1, h2⟩ | ⟨g, cp, cur, h1, _⟩
  · omega
  · injection h1 with e1 e2 e3
    exact ⟨g, e1⟩
theorem hp_elstore {ops : Array Oper} {rest : List Oper} {Q : Exit → Act → World → Prop} {ty : Nat} {row : Bool} {z : List Value} {rows : List (List Value)} {a0 : Addr} (T : TyI P ty k row z) (H : Hid (Hp S w0 w R)) (ho : o.op = .store ty x y) (hgd : o.guard = none) {p : Addr} (hx : act.eval x = .pointer (some p)) {i j : Nat} (hp : p = a0.add (i * k)) {r : List Value} {V : Value} (hy : act.eval y = V) (hV : V.cells = r.toArray) (hr : r.length = k ∧ ∀ u ∈ r, u.oneCell' = true) (hj : R[j]? = some (rA (some a0) c e k rows)) (hi : i < rows.length)
    (h : ∀ w', Hid (Hp S w0 w' (R.set j (rA (some a0) c e k (rows.set i r)))) → wpList P ops Q rest (act.put o.dst undef) w') : wpList P ops Q (o :: rest) act w := by
  obtain ⟨b, hb⟩ := rA_at (H.out.at j hj) (by omega)
  injection hb with hb
  subst hb
  exact hp_rowstore T H ho hgd hx hp hy hV hr hj hi h
end
end Go.Proofs.Ythflkhalipkdgaa.Mem
