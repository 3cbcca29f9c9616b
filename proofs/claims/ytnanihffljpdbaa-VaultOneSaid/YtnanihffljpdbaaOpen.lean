/- What rows hand in: slices of structs, of texts, as memory holds them. -/
import Derived.Test.YtnanihffljpdbaaProg
import Derived.Test.YtnanihffljpdbaaGA
import Derived.Deep.Slices
import Derived.Deep.Strs
import Derived.ChangeSame
import Derived.SliceStrings
namespace Go.Proofs.Ytnanihffljpdbaa.Mem
set_option linter.unusedVariables false
set_option linter.unusedSimpArgs false
open Go.RowKit

section
variable {H : Type} {enc : TypeId × Value → H} {P : Program} {w : World} {base : Nat} {spare : Nat → Bool} {held : Bool}
theorem open_rows {α : Type} (cells : α → List Value) (ok : α → Prop) (sz : Nat) {t e : TypeId} {fuel : Nat} {v : Value} {x : DataW H × List MemPlace} (ht : P.underlying t = some (.slice e)) (hc : P.cellsOf e = sz)
    (hE : ∀ n cs x, DataW.trod enc P w base spare held n e cs = some x → ∃ a, cs = cells a ∧ ok a) (h : DataW.trod enc P w base spare held fuel t [v] = some x) :
    ∃ zs : List α, RowsAt w v sz (zs.map cells) ∧ ∀ a ∈ zs, ok a := by
  rcases Deep.open_slice ht h with ⟨hcs, _⟩ | ⟨a, len, cap, m, n, D, Pl, hcs, _, hl, _, hm, _, hx⟩
  · simp at hcs
    exact ⟨[], .inl ⟨hcs, rfl⟩, by simp⟩
  · simp at hcs
    subst hcs
    have hle : len ≤ m := by rw [hm]; split <;> omega
    have key : ∀ k, k ≤ len → ∃ zs : List α, zs.length = k ∧ ∀ i (hi : i < zs.length), CellsAt w (a.add (i * sz)) (cells zs[i]) ∧ ok zs[i] := by
      intro k
      induction k with
      | zero => exact fun _ => ⟨[], rfl, fun i hi => absurd hi (by simp)⟩
      | succ k ih =>
        intro hk
        obtain ⟨zs, hz, hzs⟩ := ih (by omega)
        obtain ⟨cs, h1, h2⟩ := hx k (by omega)
        obtain ⟨z, rfl, hok⟩ := hE _ _ _ h2
        rw [hc] at h1
        obtain ⟨_, hlen, hcell⟩ := World.cells?_some h1
        refine ⟨zs ++ [z], by simp [hz], fun i hi => ?_⟩
        by_cases hik : i < zs.length
        · rw [List.getElem_append_left hik]
          exact hzs i hik
        · have e : i = k := by simp at hi; omega
          subst e
          rw [List.getElem_append_right (by omega)]
          refine ⟨fun j u hj => ?_, by simpa [hz] using hok⟩
          have hj' : (cells z)[j]? = some u := by simpa [hz] using hj
          have hjl : j < (cells z).length := (List.getElem?_eq_some_iff.1 hj').1
          rw [hcell j (by omega)]
          exact hj'
    obtain ⟨zs, hz, hzs⟩ := key len (Nat.le_refl _)
    refine ⟨zs, .inr ⟨a, cap, by rw [List.length_map, hz], fun i hi => ?_⟩, fun z hz' => ?_⟩
    · rw [List.getElem_map]
      exact (hzs i (by simpa using hi)).1
    · obtain ⟨i, hi, rfl⟩ := List.getElem_of_mem hz'
      exact (hzs i hi).2
end
end Go.Proofs.Ytnanihffljpdbaa.Mem
