/- A slice of texts, and of truth values, as a row hands them in. -/
import Derived.Test.YtloemjhhedkhiaaProg
import Derived.Below
import Derived.WalkKit
import Derived.KernelRfl
import Derived.RowKit3
import Derived.Deep.LoopGhost
import Derived.Deep.QuietTactic
import Derived.BigQuiet
import Derived.WideLaws
import Derived.Deep.DeepCutAuto
import Derived.Deep.CutBlock
import Derived.Lib.Hide
import Derived.Laws.BitsLemmas
import Derived.Laws.Bits64
import Derived.Laws.BitsAllLaws
import Derived.IntWalk
import Derived.Outline
import Derived.WalkSpells
import Derived.Test.YtloemjhhedkhiaaMem
namespace Go.Proofs.Ytloemjhhedkhiaa.Mem
set_option linter.unusedVariables false
set_option linter.unusedSimpArgs false
open Go.RowKit

def StrsIn (w : World) (a : Option Addr) (len cap : Nat) (l : List ByteArray) : Prop :=
  l.length = len ∧ Reads w (.slice a len cap) (l.map .string) ∧ ∀ s ∈ l, s.size ≤ 9223372036854775807
theorem strsIn_nil (w : World) : StrsIn w none 0 0 [] := ⟨rfl, .inl ⟨rfl, rfl⟩, by simp⟩
theorem strsIn_mk {w : World} {x : Addr} {len cap : Nat} {ss : List ByteArray} (hl : len ≤ cap) (hz : ss.length = cap) (hc : ∀ i, i < ss.length → w.cell? (x.add i) = some (.string (ss.getD i ByteArray.empty))) (hs : ∀ s ∈ ss, s.size ≤ maxLen) :
    StrsIn w (some x) len cap (ss.take len) := by
  have e : (ss.take len).length = len := by rw [List.length_take]; omega
  refine ⟨e, .inr ⟨x, cap, by rw [List.length_map, e], fun i hi => ?_⟩, fun s hs' => hs s (List.mem_of_mem_take hs')⟩
  have hi' : i < ss.length := by rw [List.length_map, e] at hi; omega
  rw [hc i hi']
  simp [hi']
/-- the cells of such a row -/
theorem StrsIn.cells {w : World} {a : Option Addr} {len cap : Nat} {l : List ByteArray} (h : StrsIn w a len cap l) (i : Nat) (hi : i < l.length) : ∃ x, a = some x ∧ w.cell? (x.add i) = some (.string l[i]) := by
  rcases h.2.1 with ⟨_, h0⟩ | ⟨x, c, hx, hc⟩
  · have := congrArg List.length h0
    rw [List.length_map] at this
    simp only [List.length_nil] at this
    omega
  · injection hx with hx _ _
    refine ⟨x, hx, ?_⟩
    have := hc i (by simpa using hi)
    rw [List.getElem_map] at this
    exact this
def BoolsIn (w : World) (a : Option Addr) (len cap : Nat) (l : List Bool) : Prop :=
  l.length = len ∧ Reads w (.slice a len cap) (l.map .bool)
theorem BoolsIn.cells {w : World} {a : Option Addr} {len cap : Nat} {l : List Bool} (h : BoolsIn w a len cap l) (i : Nat) (hi : i < l.length) : ∃ x, a = some x ∧ w.cell? (x.add i) = some (.bool l[i]) := by
  rcases h.2 with ⟨_, h0⟩ | ⟨x, c, hx, hc⟩
  · have := congrArg List.length h0
    rw [List.length_map] at this
    simp only [List.length_nil] at this
    omega
  · injection hx with hx _ _
    refine ⟨x, hx, ?_⟩
    have := hc i (by simpa using hi)
    rw [List.getElem_map] at this
    exact this
end Go.Proofs.Ytloemjhhedkhiaa.Mem
