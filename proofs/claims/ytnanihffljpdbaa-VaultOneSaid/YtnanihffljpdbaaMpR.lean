/- A map of the call's own, integers to integers (1 for the keys of a list, else 0), as a thing in memory; make, look-up, store. -/
import Derived.Test.YtnanihffljpdbaaProg
import Derived.Below
import Derived.WalkKit
import Derived.KernelRfl
import Derived.RowKit3
import Derived.Deep.LoopGhost
import Derived.Deep.QuietTactic
import Derived.BigQuiet
import Derived.WideLaws
import Derived.Deep.DeepCutAuto
import Derived.Deep.CutBlock
import Derived.Lib.Hide
import Derived.Laws.BitsLemmas
import Derived.Laws.Bits64
import Derived.Laws.BitsAllLaws
import Derived.IntWalk
import Derived.Outline
import Derived.WalkSpells
import Derived.Test.YtnanihffljpdbaaGA
import Derived.Test.YtnanihffljpdbaaWk
import Derived.Maps.OwnOps
import Derived.Maps.Views
import Derived.Carry
namespace Go.Proofs.Ytnanihffljpdbaa.Wk
open Go.RowKit Go.Proofs.Ytnanihffljpdbaa.Mem Go.Proofs.Ytnanihffljpdbaa.Reg Go.Proofs.Ytnanihffljpdbaa.Inv
set_option linter.unusedVariables false
set_option linter.unusedSimpArgs false
def endV (E : List Int) (k : Int) : Int := bif E.contains k then 1 else 0
def MapAt (w : World) (b : Nat) (E : List Int) : Prop := ∃ (n : Nat) (D : DataW Unit), n ≤ E.length ∧ Maps.IsMap D ∧ w.ownsMap Try.prog 3 (plainElem Try.prog 3) b n D ∧ ∀ k : Int, (Lit.int .i64 k).wf = true → D.atKey (.int .i64 k) (.lit (.int .i64 0)) = .lit (.int .i64 (endV E k))
def rMp (b : Nat) (E : List Int) : Res := ⟨[b], fun w => MapAt w b E, fun w w' h hh => by
  obtain ⟨n, D, h1, h2, ⟨es, clock, hb, F, hs, hD⟩, h4⟩ := hh
  exact ⟨n, D, h1, h2, ⟨es, clock, (h b (by simp)).trans hb, F, hs, hD⟩, h4⟩, false⟩
theorem mapKeyed : Go.Maps.Keyed Try.prog 3 := Go.Maps.int_keyed Try.underlying3
theorem map_zero (w : World) : (zeroValue 3).run Try.prog w = .ok (.int .i64 0) w := by kernel_rfl
section
variable {ops : Array Oper} {Q : Exit → Act → World → Prop} {rest : List Oper} {o : Oper} {a : Act} {w w0 : World} {K : Env} {N d : Nat} {S : List Nat} {R : List Res}
theorem mapAt_made (w : World) : MapAt (w.alloc (.map #[] 0)) w.heap.size [] :=
  ⟨0, .map [], Nat.le_refl _, ⟨[], rfl⟩, World.ownsMap_made _ _ _ _, fun k _ => rfl⟩
theorem mapAt_put {w : World} {b : Nat} {E : List Int} (h : MapAt w b E) (hE : E.length < 1000000) {k : Int} (hk : (Lit.int .i64 k).wf = true) : ∃ w', (Instr.mapUpdate 36 (.map (some b)) (.int .i64 k) (.int .i64 1)).run Try.prog w = .ok () w' ∧ MapAt w' b (k :: E) ∧ w.grownBy w' (some b) := by
  obtain ⟨n, D, h1, h2, h3, h4⟩ := h
  obtain ⟨w', hrun, r1, r2⟩ := h3.update mapKeyed Try.underlying36 (by unfold maxLen; omega) (Go.Maps.keyOf_int_mk Try.underlying3 hk) (plainElem_int Try.underlying3 (by decide : (Lit.int .i64 1).wf = true))
  have hIs : Maps.IsMap (D.put (.int .i64 k) (.lit (.int .i64 1))) := by
    obtain ⟨es, rfl⟩ := h2
    exact ⟨_, rfl⟩
  refine ⟨w', hrun, ⟨n + 1, _, by simpa using h1, hIs, r1, fun j hj => ?_⟩, r2⟩
  unfold endV
  by_cases e : j = k
  · subst e
    rw [Maps.atKey_put_same h2 (by trivial)]
    simp
  · rw [Maps.atKey_put_other (by simpa using e), h4 j hj]
    unfold endV
    rw [List.contains_cons, beq_eq_false_iff_ne.2 e]
    rfl
theorem hp_look {b : Nat} {E : List Int} {k : Int} {m x : Operand} {t : TypeId} (H : Hid (Hp S w0 w R)) (ho : o.op = .lookup t m x false) (ht : t = 36) (hm : a.eval m = .map (some b)) (hx : a.eval x = .int .i64 k) (hmem : rMp b E ∈ R) (hk : (Lit.int .i64 k).wf = true) : (execOp a.eval o).run Try.prog w = .ok (.value (.int .i64 (endV E k))) w := by
  subst ht
  obtain ⟨n, D, h1, h2, h3, h4⟩ := H.out.holds _ hmem
  obtain ⟨c, hrun, hat, hwc⟩ := h3.lookup_int mapKeyed Try.underlying36 Try.underlying3 (map_zero w) (Go.Maps.keyOf_int_mk Try.underlying3 hk)
  have e : endV E k = c := by
    have h5 := (h4 k hk).symm.trans hat
    simp only [DataW.lit.injEq, Lit.int.injEq, true_and] at h5
    exact h5
  rw [e]
  have h7 : (execOp a.eval o).run Try.prog w = ((do let v ← Instr.lookup 36 (.map (some b)) (.int .i64 k) false; pure (.value v)) : Sem Next).run Try.prog w := by
    unfold execOp
    rw [ho]
    simp only [hm, hx]
  rw [h7, Sem.run_bind, hrun]
  rfl
theorem wMk (hg : o.guard = none) (hd : o.dst = some d) (hN : Nat.blt d N = true) {t : TypeId} (ho : o.op = .makeMap t none) (n : ∀ b, Wk N S w0 ((d, .map (some b)) :: K) (rMp b [] :: R) (wpList Try.prog ops Q rest)) : Wk N S w0 K R (wpList Try.prog ops Q (o :: rest)) := by
  intro a w hz hdf hs H
  refine wpList_plain hg fun K' hK' => ?_
  unfold Oper.wp
  simp [execOp, ho, run_makeMap, Result.andThen]
  refine hK' _ _ ?_
  rw [hd]
  have ho' : Off [] w (w.alloc (.map #[] 0)) := (Off.refl [] w).alloc _
  exact n _ _ _ (by rw [put_size]; exact hz) (by rw [put_defers]; exact hdf) (hs.put (by rw [hz]; exact blt_of hN)) (Lib.hid (H.out.push (rMp w.heap.size []) ho' (mapAt_made w) fun k hk => by
    obtain rfl : k = w.heap.size := by simpa [rMp] using hk
    exact ⟨Nat.le_refl _, by simp⟩))
theorem wMu (hg : o.guard = none) (hd : o.dst = none) {m x v : Operand} {b : Nat} {k : Int} {E : List Int} (ho : o.op = .mapUpdate 36 m x v) (hm : ev K m = some (.map (some b))) (hx : ev K x = some (.int .i64 k)) (hv : ev K v = some (.int .i64 1)) (i : Nat) (hi : R[i]? = some (rMp b E)) (hE : E.length < 1000000) (hk : (Lit.int .i64 k).wf = true) (n : Wk N S w0 K (R.set i (rMp b (k :: E))) (wpList Try.prog ops Q rest)) : Wk N S w0 K R (wpList Try.prog ops Q (o :: rest)) := by
  intro a w hz hdf hs H
  obtain ⟨w', hrun, h1, h2⟩ := mapAt_put (H.out.at i hi) hE hk
  refine wpList_plain hg fun K' hK' => ?_
  unfold Oper.wp
  simp [execOp, ho, hs.ev hm, hs.ev hx, hs.ev hv, hrun, Result.andThen]
  refine hK' _ _ ?_
  rw [hd]
  have hb : b < w.heap.size := H.out.lt _ (List.mem_of_getElem? hi) b (by simp [rMp])
  have ho' : Off [b] w w' := (Off.refl [b] w).grown h2 (fun j hj => .inl (by injection hj with hj; simp [hj]))
  exact n _ _ hz hdf hs (Lib.hid (H.out.step i hi _ ho' (fun j hj => by simpa [rMp] using hj) h1 fun j hj => by
    obtain rfl : j = b := by simpa [rMp] using hj
    exact ⟨.inl (by simp [rMp]), Nat.lt_of_lt_of_le hb h2.size⟩))
end
end Go.Proofs.Ytnanihffljpdbaa.Wk
