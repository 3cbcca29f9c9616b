/- Appends to rows of the call's own, as a step of a region that draws. -/
import Derived.Test.YthflkhalipkdgaaProg
import Derived.Below
import Derived.WalkKit
import Derived.KernelRfl
import Derived.RowKit3
import Derived.Deep.LoopGhost
import Derived.Deep.QuietTactic
import Derived.BigQuiet
import Derived.WideLaws
import Derived.Deep.DeepCutAuto
import Derived.Deep.CutBlock
import Derived.Lib.Hide
import Derived.Laws.BitsLemmas
import Derived.Laws.Bits64
import Derived.Laws.BitsAllLaws
import Derived.IntWalk
import Derived.Outline
import Derived.WalkSpells
import Derived.Test.YthflkhalipkdgaaMem
import Derived.Deep.RegionLaw
import Derived.Test.YthflkhalipkdgaaMem2
namespace Go.Proofs.Ythflkhalipkdgaa.Mem
set_option maxRecDepth 20000
set_option linter.unusedVariables false
set_option linter.unusedSimpArgs false
open Go.RowKit Go.Proofs.Ythflkhalipkdgaa.Pk

theorem step_append_rows {P : Program} {ops : Array Oper} {o : Oper} {a : Act} {w : World} {K : Act → World → Prop} {Q : Exit → Act → World → Prop} {E : Prop}
    (hgd : o.guard = none) (s x : Operand) (t : TypeId) (ho : o.op = .call { callee := .builtin .append, args := #[s, x], argTypes := #[t, t] })
    (base : Nat) (e : TypeId) (i : TypeInfo) (z : Value) (size bytes : Nat) (ht : P.underlying t = some (.slice e)) (hi : P.info? e = some i) (hz : i.zero = some z)
    (hsize : i.size = size) (hby : i.bytes = bytes) (hzs : z.cells.size = size) (hsz : 0 < size)
    (v : Value) (n : Nat) (xs : List Value) (hs : a.eval s = v) (hown : w.ownsRow base e size v n xs)
    (vs : Value) (rows : List (List Value)) (hx : a.eval x = vs) (hr : RowsAt w vs size rows) (hlen : ∀ r ∈ rows, r.length = size) (h1 : ∀ r ∈ rows, ∀ u ∈ r, u.oneCell' = true) (hne : rows ≠ [])
    (h63 : n + rows.length ≤ maxLen) (hbytes : (n + rows.length) * bytes ≤ 140737488355328) (hbase : base ≤ w.heap.size)
    (hK : ∀ v' w', w'.ownsRow base e size v' (n + rows.length) (xs ++ rows.flatten) → w.grownBy w' v.ownBlock → Goes w v v' → K (a.put o.dst v') w') :
    if Region.wanted o (yielded ops a.tmps) = true then Oper.wp P o a w K Q else E := by
  have hw : Region.wanted o (yielded ops a.tmps) = true := by simp [Region.wanted, hgd]
  rw [if_pos hw]
  rcases hr with ⟨_, h0⟩ | ⟨ad, c, rfl, hc⟩
  · exact absurd h0 hne
  · obtain ⟨v', w', hrun, h2, h3, h4⟩ := run_append_goes (P := P) w base t o.type e i z size bytes ht hi hz hsize hby hzs hsz v n xs hown ad rows.length c rows.flatten (flatten_len size rows hlen) (fun j u hu => by
      have hjl : j < rows.flatten.length := (List.getElem?_eq_some_iff.1 hu).1
      rw [flatten_len size rows hlen] at hjl
      have hdiv : j / size < rows.length := (Nat.div_lt_iff_lt_mul hsz).2 hjl
      have hmod : j % size < size := Nat.mod_lt _ hsz
      have hj : j / size * size + j % size = j := by rw [Nat.mul_comm]; exact Nat.div_add_mod _ _
      rw [← hj, flatten_get size rows _ _ hlen hdiv hmod] at hu
      have := hc (j / size) hdiv (j % size) u hu
      rw [Deep.add_add, hj] at this
      exact this) (fun u hu => by
      obtain ⟨r, hr, hu'⟩ := List.mem_flatten.1 hu
      exact h1 r hr u hu') h63 hbytes hbase
    unfold Oper.wp
    simp [execOp, ho, resolve, invoke, builtin, hs, hx, hrun, Result.andThen]
    exact hK v' w' h2 h3 h4
/-- one value in a new block -/
theorem rows_new1 {w : World} {v : Value} {t : TypeId} {n sz : Nat} (hn : n = w.heap.size) : RowsAt (w.alloc (.cells #[v] t)) (.slice (some ⟨n, 0, none⟩) 1 1) sz [[v]] := by
  refine .inr ⟨⟨n, 0, none⟩, 1, rfl, fun i hi j u hu => ?_⟩
  obtain rfl : i = 0 := by simpa using hi
  have := rows_one (cs := [v]) (blk_new' w #[v] t n hn) j u hu
  simpa [Addr.add] using this
/-- an empty row made by the call -/
theorem own_made (w : World) (n : Nat) (hn : n = w.heap.size) (e : TypeId) (sz : Nat) : (w.alloc (.cells #[] e)).ownsRow 0 e sz (.slice (some ⟨n, 0, none⟩) 0 0) 0 [] := by
  subst hn
  exact World.ownsRow_made w #[] 0 (Nat.zero_le _) (Nat.zero_le _) (by simp)
end Go.Proofs.Ythflkhalipkdgaa.Mem
