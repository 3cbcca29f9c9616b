/- Layer 8: CallGoes, of what a row hands in. -/
import Derived.Test.YtfhhfmkfkoemjaaProg
import Derived.Below
import Derived.WalkKit
import Derived.KernelRfl
import Derived.RowKit3
import Derived.Deep.LoopGhost
import Derived.Deep.QuietTactic
import Derived.BigQuiet
import Derived.WideLaws
import Derived.Deep.DeepCutAuto
import Derived.Deep.CutBlock
import Derived.Lib.Hide
import Derived.Laws.BitsLemmas
import Derived.Laws.Bits64
import Derived.Laws.BitsAllLaws
import Derived.IntWalk
import Derived.Outline
import Derived.WalkSpells
import Derived.Test.YtfhhfmkfkoemjaaMem
import Derived.Test.YtfhhfmkfkoemjaaLwCallGoes
import Derived.Test.YtfhhfmkfkoemjaaOpenCa
namespace Go.Proofs.Ytfhhfmkfkoemjaa.Ca
set_option linter.unusedVariables false
set_option linter.unusedSimpArgs false
open Go.RowKit Go.Proofs.Ytfhhfmkfkoemjaa.Mem Go.Proofs.Ytfhhfmkfkoemjaa.Reg Go.Proofs.Ytfhhfmkfkoemjaa.Si
theorem rS_of_reads {α : Type} (f : α → Value) (hf : ∀ x, (f x).oneCell' = true) {w : World} {a : Option Addr} {n c : Nat} {l : List α} (h : Reads w (.slice a n c) (l.map f)) (hn : n = l.length) : (rS a c 1 (l.map fun x => [f x])).holds w := by
  subst hn
  refine ⟨?_, fun r hr => ?_⟩
  · rcases h with ⟨h1, h2⟩ | ⟨x, c', he, hc⟩
    · left
      have h3 : l = [] := by simpa using h2
      subst h3
      exact ⟨h1, rfl⟩
    · right
      injection he with e1 e2 e3
      subst e1 e3
      refine ⟨x, c, by rw [List.length_map], fun i hi j u hu => ?_⟩
      have hi' : i < l.length := by simpa using hi
      have h4 := hc i (by simpa using hi')
      cases j with
      | zero =>
        have hu' : u = f l[i] := by simpa using hu.symm
        rw [hu', Deep.add_add]
        simpa using h4
      | succ j => simp at hu
  · obtain ⟨x, _, rfl⟩ := List.mem_map.1 hr
    exact ⟨rfl, fun u hu => by rw [List.mem_singleton.1 hu]; exact hf x⟩
set_option maxRecDepth 20000 in
theorem callGoesB (c : Cfg) (x : CallV) (a2 : Option Addr) (len2 cap2 : Nat) (z2 : List Int) (w : World) (_ : ok_Cfg c) (_ : ok_CallV x) (w2 : IntsAt .i64 w a2 len2 cap2 z2) :
    Calls Try.prog 3 #[.agg #[.int .i64 c.floors, .int .i64 c.cars, .int .i64 c.seats, .int .i64 c.calls, .int .i64 c.lines, .int .i64 c.keys, .int .i64 c.window, .int .i64 c.burst, .int .i64 c.rate, .int .i64 c.idle, .int .i64 c.inn, .int .i64 c.out, .int .i64 c.feed, .int .i64 c.retries, .int .i64 c.life, .int .i64 c.door, .int .i64 c.holds, .int .u32 c.secret], .agg #[.int .i64 x.id, .int .i64 x.kind, .int .i64 x.src, .int .i64 x.dst, .int .i64 x.car, .int .i64 x.state, .int .i64 x.owner, .int .i64 x.born], .slice a2 len2 cap2] w fun e w' => e = .returned (.bool true) ∧ Below w.heap.size w w' := by
  obtain ⟨h3, h4, _⟩ := w2.reads
  have h6 := rS_of_reads (fun k : Int => Value.int .i64 k) (fun _ => rfl) h3 h4.symm
  have h7 := goes_w c x a2 cap2 (z2.take len2) w h6
  rw [h4] at h7
  refine h7.mono ?_
  rintro e w' ⟨rfl, ho⟩
  exact ⟨rfl, ho.to_below⟩
end Go.Proofs.Ytfhhfmkfkoemjaa.Ca
