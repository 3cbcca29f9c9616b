/- Layer 9: BookGoes, of what a row hands in. -/
import Derived.Test.YtnanihffljpdbaaProg
import Derived.Below
import Derived.WalkKit
import Derived.KernelRfl
import Derived.RowKit3
import Derived.Deep.LoopGhost
import Derived.Deep.QuietTactic
import Derived.BigQuiet
import Derived.WideLaws
import Derived.Deep.DeepCutAuto
import Derived.Deep.CutBlock
import Derived.Lib.Hide
import Derived.Laws.BitsLemmas
import Derived.Laws.Bits64
import Derived.Laws.BitsAllLaws
import Derived.IntWalk
import Derived.Outline
import Derived.WalkSpells
import Derived.Test.YtnanihffljpdbaaMem
import Derived.Test.YtnanihffljpdbaaLwBookGoes
import Derived.Test.YtnanihffljpdbaaOpenB
namespace Go.Proofs.Ytnanihffljpdbaa.Bk
open Go.RowKit Go.Proofs.Ytnanihffljpdbaa.Mem Go.Proofs.Ytnanihffljpdbaa.Reg Go.Proofs.Ytnanihffljpdbaa.Wk Go.Proofs.Ytnanihffljpdbaa.Si Go.Proofs.Ytnanihffljpdbaa.Ca Go.Proofs.Ytnanihffljpdbaa.Sc6
set_option linter.unusedVariables false
set_option linter.unusedSimpArgs false
end Go.Proofs.Ytnanihffljpdbaa.Bk
namespace Go.Proofs.Ytnanihffljpdbaa.Mem
open Go.RowKit
def IntsAt (k : IntKind) (w : World) (a : Option Addr) (len cap : Nat) (zs : List Int) : Prop :=
  (a = none ∧ len = 0 ∧ cap = 0 ∧ zs = []) ∨
  ∃ x, a = some x ∧ len ≤ cap ∧ cap ≤ maxLen ∧ zs.length = cap ∧ (∀ i, i < zs.length → w.cell? (x.add i) = some (.int k (zs.getD i 0))) ∧ ∀ n ∈ zs, (Lit.int k n).wf = true
theorem IntsAt.reads {k : IntKind} {w : World} {a : Option Addr} {len cap : Nat} {zs : List Int} (h : IntsAt k w a len cap zs) :
    Reads w (.slice a len cap) ((zs.take len).map (Value.int k)) ∧ (zs.take len).length = len ∧ ∀ n ∈ zs.take len, (Lit.int k n).wf = true := by
  rcases h with ⟨rfl, rfl, rfl, rfl⟩ | ⟨x, rfl, hl, _, hz, hc, hw⟩
  · exact ⟨.inl ⟨rfl, rfl⟩, rfl, by simp⟩
  · have e : (zs.take len).length = len := by rw [List.length_take]; omega
    refine ⟨.inr ⟨x, cap, by simp [hz, Nat.min_eq_left hl], fun i hi => ?_⟩, e, fun n hn => hw n (List.mem_of_mem_take hn)⟩
    have hi' : i < zs.length := by simp at hi; omega
    rw [hc i hi']
    simp [hi']
end Go.Proofs.Ytnanihffljpdbaa.Mem
namespace Go.Proofs.Ytnanihffljpdbaa.Bk
open Go.RowKit Go.Proofs.Ytnanihffljpdbaa.Mem Go.Proofs.Ytnanihffljpdbaa.Reg Go.Proofs.Ytnanihffljpdbaa.Wk Go.Proofs.Ytnanihffljpdbaa.Si Go.Proofs.Ytnanihffljpdbaa.Ca Go.Proofs.Ytnanihffljpdbaa.Sc6
set_option maxRecDepth 20000
theorem rS_of_ints {w : World} {a : Option Addr} {n c : Nat} {l : List Int} (h : Reads w (.slice a n c) (l.map (Value.int .i64))) (hn : n = l.length) : (rS a c 1 (l.map fun k => [Value.int .i64 k])).holds w := by
  subst hn
  refine ⟨?_, fun r hr => ?_⟩
  · rcases h with ⟨h1, h2⟩ | ⟨x, c', he, hc⟩
    · left
      have h3 : l = [] := by simpa using h2
      subst h3
      exact ⟨h1, rfl⟩
    · right
      injection he with e1 e2 e3
      subst e1 e3
      refine ⟨x, c, by rw [List.length_map], fun i hi j u hu => ?_⟩
      have hi' : i < l.length := by simpa using hi
      have h4 := hc i (by simpa using hi')
      cases j with
      | zero =>
        have hu' : u = Value.int .i64 l[i] := by simpa using hu.symm
        rw [hu', Deep.add_add]
        simpa using h4
      | succ j => simp at hu
  · obtain ⟨x, _, rfl⟩ := List.mem_map.1 hr
    exact ⟨rfl, fun u hu => by rw [List.mem_singleton.1 hu]; rfl⟩
theorem bookGoes (c : Cfg) (ra : Option Addr) (n rc : Nat) (ds : List DeedV) (qa : Option Addr) (qn qc : Nat) (zs : List Int) (w : World) (_ : ok_Cfg c) (wa : DeedsIn w ra n rc ds) (wp : IntsAt .i64 w qa qn qc zs) : Calls Try.prog 6 #[.agg #[.int .i64 c.floors, .int .i64 c.cars, .int .i64 c.seats, .int .i64 c.calls, .int .i64 c.lines, .int .i64 c.keys, .int .i64 c.window, .int .i64 c.burst, .int .i64 c.rate, .int .i64 c.idle, .int .i64 c.inn, .int .i64 c.out, .int .i64 c.feed, .int .i64 c.retries, .int .i64 c.life, .int .i64 c.door, .int .i64 c.holds, .int .u32 c.secret], .slice ra n rc, .slice qa qn qc] w fun e w' => e = .returned (.bool true) ∧ Below w.heap.size w w' := by
  obtain ⟨rfl, h1, h2⟩ := wa
  obtain ⟨h3, h4, _⟩ := wp.reads
  have h6 := rS_of_ints h3 h4.symm
  have h7 := goes_w c ra rc ds qa qc (zs.take qn) w h1 h6
  rw [h4] at h7
  refine (h7).mono ?_
  rintro e w' ⟨rfl, ho⟩
  exact ⟨rfl, ho.to_below⟩
end Go.Proofs.Ytnanihffljpdbaa.Bk
