/- A condition on worlds that stays in a region that draws, whatever is allocated. -/
import Derived.Test.YthflkhalipkdgaaProg
import Derived.Below
import Derived.WalkKit
import Derived.KernelRfl
import Derived.RowKit3
import Derived.Deep.LoopGhost
import Derived.Deep.QuietTactic
import Derived.BigQuiet
import Derived.WideLaws
import Derived.Deep.DeepCutAuto
import Derived.Deep.CutBlock
import Derived.Lib.Hide
import Derived.Laws.BitsLemmas
import Derived.Laws.Bits64
import Derived.Laws.BitsAllLaws
import Derived.IntWalk
import Derived.Outline
import Derived.WalkSpells
import Derived.Test.YthflkhalipkdgaaMem
import Derived.Test.YthflkhalipkdgaaHp
import Derived.Deep.RegionHeld3
namespace Go.Proofs.Ythflkhalipkdgaa.Mem
set_option maxRecDepth 20000
set_option linter.unusedVariables false
set_option linter.unusedSimpArgs false
open Go.RowKit

/-- (a condition under a name that simp takes for a rule) -/
def Keeps (S : World → Prop) (w : World) : Prop := S w
section
variable {P : Program} {w w0 : World} {S : List Nat} {R : List Res} {ty n : Nat} {z : List Value}
theorem Hp.pack2 (H : Hid (Hp S w0 w R)) : ∃ Sx : World → Prop, Keeps Sx w ∧ (∀ w', Keeps Sx w' → Hp S w0 w' R) ∧ (∀ w', Keeps Sx w' → Keeps Sx w'.drew) ∧ (∀ w' w'', Keeps Sx w' → Off [] w' w'' → Keeps Sx w'') :=
  ⟨fun w' => Hp S w0 w' R, H.out, fun _ h => h, fun _ h => Hp.drew h, fun _ _ h ho => Hp.quiet h ho⟩
theorem Hp.useCell2 {goal : Prop} {Sx : World → Prop} (hSH : ∀ w', Keeps Sx w' → Hp S w0 w' R) (b k : Nat) {t : TypeId} {cs : List Value} (hm : rB b t cs ∈ R) {v : Value} (hk : cs[k]? = some v) (h : (∀ w', Keeps Sx w' → w'.cell? ⟨b, k, none⟩ = some v) → goal) : goal := by
  obtain ⟨i, hi⟩ := idx_of_mem hm
  exact h fun w' hw' => (hSH w' hw').cell i hi k v hk
theorem Hp.useRow2 {goal : Prop} {Sx : World → Prop} (T : TyI P ty n true z) (hSH : ∀ w', Keeps Sx w' → Hp S w0 w' R) (b k : Nat) {t : TypeId} {cs : List Value} (hm : rB b t cs ∈ R) {vs : List Value} (hv : (cs.drop k).take n = vs) (hn : vs.length = n)
    (h : (∀ w', Keeps Sx w' → (Instr.loadAt ty (.pointer (some ⟨b, k, none⟩))).run P w' = .ok (.agg vs.toArray) w') → goal) : goal := by
  obtain ⟨i, hi⟩ := idx_of_mem hm
  have hr := T.isRow
  refine h fun w' hw' => ?_
  cases hu : P.underlying ty with
  | none => simp [hu] at hr
  | some d =>
    refine run_loadAt_mid w' b k ty vs d (fun j v hj => ?_) hu (by simpa [hu] using hr) (by rw [T.size, hn])
    refine (hSH w' hw').cell i hi (k + j) v ?_
    rw [← hv] at hj
    have hjl : j < n := by
      have := (List.getElem?_eq_some_iff.1 hj).1
      simp at this; omega
    rw [List.getElem?_take_of_lt hjl, List.getElem?_drop] at hj
    exact hj
end
end Go.Proofs.Ythflkhalipkdgaa.Mem
