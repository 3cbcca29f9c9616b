/- Layer 6: ShelfOrder, of what a row hands in. -/
import Derived.Test.YtfhhfmkfkoemjaaProg
import Derived.Below
import Derived.WalkKit
import Derived.KernelRfl
import Derived.RowKit3
import Derived.Deep.LoopGhost
import Derived.Deep.QuietTactic
import Derived.BigQuiet
import Derived.WideLaws
import Derived.Deep.DeepCutAuto
import Derived.Deep.CutBlock
import Derived.Lib.Hide
import Derived.Laws.BitsLemmas
import Derived.Laws.Bits64
import Derived.Laws.BitsAllLaws
import Derived.IntWalk
import Derived.Outline
import Derived.WalkSpells
import Derived.Test.YtfhhfmkfkoemjaaMem
import Derived.Test.YtfhhfmkfkoemjaaLwShelfOrder
import Derived.Test.YtfhhfmkfkoemjaaMemS
namespace Go.Proofs.Ytfhhfmkfkoemjaa.Si6
set_option linter.unusedVariables false
set_option linter.unusedSimpArgs false
open Go.RowKit Go.Proofs.Ytfhhfmkfkoemjaa.Mem
theorem rS_of_reads {α : Type} (f : α → Value) (hf : ∀ x, (f x).oneCell' = true) {w : World} {a : Option Addr} {n c : Nat} {l : List α} (h : Reads w (.slice a n c) (l.map f)) (hn : n = l.length) : (rS a c 1 (l.map fun x => [f x])).holds w := by
  subst hn
  refine ⟨?_, fun r hr => ?_⟩
  · rcases h with ⟨h1, h2⟩ | ⟨x, c', he, hc⟩
    · left
      have h3 : l = [] := by simpa using h2
      subst h3
      exact ⟨h1, rfl⟩
    · right
      injection he with e1 e2 e3
      subst e1 e3
      refine ⟨x, c, by rw [List.length_map], fun i hi j u hu => ?_⟩
      have hi' : i < l.length := by simpa using hi
      have h4 := hc i (by simpa using hi')
      cases j with
      | zero =>
        have hu' : u = f l[i] := by simpa using hu.symm
        rw [hu', Deep.add_add]
        simpa using h4
      | succ j => simp at hu
  · obtain ⟨x, _, rfl⟩ := List.mem_map.1 hr
    exact ⟨rfl, fun u hu => by rw [List.mem_singleton.1 hu]; exact hf x⟩
theorem shelfOrder (a0 : Option Addr) (len0 cap0 : Nat) (z0 : List ByteArray) (a1 : Option Addr) (len1 cap1 : Nat) (z1 : List Int) (w : World) (w0 : StrsIn w a0 len0 cap0 z0) (w1 : IntsAt .i64 w a1 len1 cap1 z1) :
    Calls Try.prog 5 #[.slice a0 len0 cap0, .slice a1 len1 cap1] w fun e w' => e = .returned (.bool true) ∧ Below w.heap.size w w' := by
  obtain ⟨h1, h2, _⟩ := w0
  obtain ⟨h3, h4, _⟩ := w1.reads
  subst h1
  have h5 := rS_of_reads (fun k : ByteArray => Value.string k) (fun _ => rfl) h2 rfl
  have h6 := rS_of_reads (fun k : Int => Value.int .i64 k) (fun _ => rfl) h3 h4.symm
  have h7 := order_w a0 cap0 z0 a1 cap1 (z1.take len1) w h5 h6
  rw [h4] at h7
  refine h7.mono ?_
  rintro e w' ⟨rfl, ho⟩
  exact ⟨rfl, ho.to_below⟩
end Go.Proofs.Ytfhhfmkfkoemjaa.Si6
