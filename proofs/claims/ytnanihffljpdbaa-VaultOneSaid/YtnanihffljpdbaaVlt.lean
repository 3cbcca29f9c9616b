/- Contracts in the words of what is known of memory: a call that owns some of it, and what is around it. -/
import Derived.Test.YtnanihffljpdbaaProg
import Derived.Below
import Derived.WalkKit
import Derived.KernelRfl
import Derived.RowKit3
import Derived.Deep.LoopGhost
import Derived.Deep.QuietTactic
import Derived.BigQuiet
import Derived.WideLaws
import Derived.Deep.DeepCutAuto
import Derived.Deep.CutBlock
import Derived.Lib.Hide
import Derived.Laws.BitsLemmas
import Derived.Laws.Bits64
import Derived.Laws.BitsAllLaws
import Derived.IntWalk
import Derived.Outline
import Derived.WalkSpells
import Derived.Test.YtnanihffljpdbaaGA
import Derived.Test.YtnanihffljpdbaaBd
namespace Go.Proofs.Ytnanihffljpdbaa.Vt
open Go.RowKit Go.Proofs.Ytnanihffljpdbaa.Mem Go.Proofs.Ytnanihffljpdbaa.Reg Go.Proofs.Ytnanihffljpdbaa.Wk
set_option linter.unusedVariables false
set_option linter.unusedSimpArgs false
theorem exec_fld {P : Program} {o : Oper} {act : Act} {w : World} {s f : Nat} {x : Operand} {cs : Array Value} {V : Value} (ho : o.op = .field s x f) (hx : act.eval x = .agg cs) (h : (Instr.field s (.agg cs) f).run P w = .ok V w) : (execOp act.eval o).run P w = .ok (.value V) w := by
  unfold execOp
  rw [ho]
  simp only [hx]
  rw [Sem.run_bind, h]
  rfl
section
variable {S S' : List Nat} {w0 w w' : World} {R A A' B : List Res}
/-- what a call begins with: only what it may write counts -/
theorem hp_root (H : Hid (Hp S w0 w R)) (S' : List Nat) (hS : ∀ r ∈ R, r.ro = false → ∀ k ∈ r.foot, k ∈ S') : Hid (Hp S' w w R) :=
  Lib.hid ⟨Off.refl _ _, H.out.holds, H.out.lt, fun r hr hro k hk => .inl (hS r hr hro k hk), H.out.sep⟩
/-- what is around a call stays -/
theorem hp_back (H : Hid (Hp S w0 w (A ++ B))) (HH : Hid (Hp S' w w' A')) (hS : ∀ k ∈ S', ∃ r ∈ A, r.ro = false ∧ k ∈ r.foot) (hro : ∀ r ∈ A', r.ro = true → r ∈ A ∨ ∀ k ∈ r.foot, w.heap.size ≤ k) : Hid (Hp S w0 w' (A' ++ B)) := by
  have hX := List.pairwise_append.1 H.out.sep
  have hoff : ∀ b ∈ B, ∀ k ∈ b.foot, k ∉ S' := fun b hb k hk hk' => by
    obtain ⟨r, hr, h1, h2⟩ := hS k hk'
    exact hX.2.2 r hr b hb (by rw [h1]; rfl) k h2 hk
  have hlt : ∀ b ∈ B, ∀ k ∈ b.foot, k < w.heap.size := fun b hb => H.out.lt b (List.mem_append.2 (.inr hb))
  refine Lib.hid ⟨H.out.off.trans HH.out.off fun k hk hk' => ?_, fun r hr => ?_, fun r hr k hk => ?_, fun r hr h0 k hk => ?_, List.pairwise_append.2 ⟨HH.out.sep, hX.2.1, fun r hr b hb h0 k hk hk' => ?_⟩⟩
  · obtain ⟨r, hr, h1, h2⟩ := hS k hk'
    rcases H.out.newf r (List.mem_append.2 (.inl hr)) h1 k h2 with h | h
    · exact h
    · omega
  · rcases List.mem_append.1 hr with h | h
    · exact HH.out.holds r h
    · exact r.stable w w' (fun k hk => HH.out.off.block k (hlt r h k hk) (hoff r h k hk)) (H.out.holds r (List.mem_append.2 (.inr h)))
  · rcases List.mem_append.1 hr with h | h
    · exact HH.out.lt r h k hk
    · exact Nat.lt_of_lt_of_le (hlt r h k hk) HH.out.off.size
  · rcases List.mem_append.1 hr with h | h
    · rcases HH.out.newf r h h0 k hk with h1 | h1
      · obtain ⟨q, hq, h2, h3⟩ := hS k h1
        exact H.out.newf q (List.mem_append.2 (.inl hq)) h2 k h3
      · exact .inr (Nat.le_trans H.out.off.size h1)
    · exact H.out.newf r (List.mem_append.2 (.inr h)) h0 k hk
  · cases e : r.ro with
    | false =>
      rcases HH.out.newf r hr e k hk with h1 | h1
      · exact hoff b hb k hk' h1
      · have := hlt b hb k hk'
        omega
    | true =>
      rcases hro r hr e with h1 | h1
      · exact hX.2.2 r h1 b hb h0 k hk hk'
      · have h2 := h1 k hk
        have := hlt b hb k hk'
        omega
theorem ro_nil : ∀ r ∈ ([] : List Res), r.ro = true := fun _ h => by cases h
theorem ro_S {a : Option Addr} {c k : Nat} {rows : List (List Value)} {L : List Res} (h : ∀ r ∈ L, r.ro = true) : ∀ r ∈ rS a c k rows :: L, r.ro = true := List.forall_mem_cons.2 ⟨rfl, h⟩
/-- an object of one block and a slice of its own, among things that are read -/
theorem hp_rootV {v t : Nat} {cs : List Value} {ga : Option Addr} {gc e k : Nat} {rows : List (List Value)} {L : List Res} (H : Hid (Hp S w0 w (rB v t cs :: rA ga gc e k rows :: L))) (hL : ∀ r ∈ L, r.ro = true) : Hid (Hp (v :: footA ga) w w (rB v t cs :: rA ga gc e k rows :: L)) :=
  hp_root H _ fun r hr h0 q hq => by
    rcases List.mem_cons.1 hr with rfl | hr
    · exact List.mem_cons.2 (.inl (by simpa [rB] using hq))
    · rcases List.mem_cons.1 hr with rfl | hr
      · exact List.mem_cons.2 (.inr hq)
      · rw [hL r hr] at h0
        cases h0
theorem hp_backV {v t t' : Nat} {cs cs' : List Value} {ga ga' : Option Addr} {gc gc' e k : Nat} {rows rows' : List (List Value)} {L L' : List Res} (H : Hid (Hp S w0 w ((rB v t cs :: rA ga gc e k rows :: L) ++ B))) (HH : Hid (Hp (v :: footA ga) w w' (rB v t' cs' :: rA ga' gc' e k rows' :: L'))) (hL : ∀ r ∈ L', r ∈ L ∨ ∀ q ∈ r.foot, w.heap.size ≤ q) : Hid (Hp S w0 w' ((rB v t' cs' :: rA ga' gc' e k rows' :: L') ++ B)) :=
  hp_back H HH (fun q hq => by
    rcases List.mem_cons.1 hq with rfl | hq
    · exact ⟨_, List.mem_cons.2 (.inl rfl), rfl, by simp [rB]⟩
    · exact ⟨_, List.mem_cons.2 (.inr (List.mem_cons.2 (.inl rfl))), rfl, hq⟩) fun r hr h0 => by
    rcases List.mem_cons.1 hr with rfl | hr
    · cases h0
    · rcases List.mem_cons.1 hr with rfl | hr
      · cases h0
      · rcases hL r hr with h | h
        · exact .inl (List.mem_cons.2 (.inr (List.mem_cons.2 (.inr h))))
        · exact .inr h
/-- something new, and nothing else -/
theorem hp_fresh (H : Hid (Hp S w0 w B)) (HH : Hid (Hp [] w w' A')) (hro : ∀ r ∈ A', r.ro = true → ∀ k ∈ r.foot, w.heap.size ≤ k) : Hid (Hp S w0 w' (A' ++ B)) :=
  hp_back (A := []) H HH (fun _ h => by cases h) fun r hr h => .inr (hro r hr h)
end
end Go.Proofs.Ytnanihffljpdbaa.Vt
