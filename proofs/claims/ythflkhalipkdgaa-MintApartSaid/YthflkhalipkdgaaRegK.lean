/- Blocks that came in, and are only read: loads. -/
import Derived.Test.YthflkhalipkdgaaProg
import Derived.Below
import Derived.WalkKit
import Derived.KernelRfl
import Derived.RowKit3
import Derived.Deep.LoopGhost
import Derived.Deep.QuietTactic
import Derived.BigQuiet
import Derived.WideLaws
import Derived.Deep.DeepCutAuto
import Derived.Deep.CutBlock
import Derived.Lib.Hide
import Derived.Laws.BitsLemmas
import Derived.Laws.Bits64
import Derived.Laws.BitsAllLaws
import Derived.IntWalk
import Derived.Outline
import Derived.WalkSpells
import Derived.Test.YthflkhalipkdgaaMem
import Derived.Test.YthflkhalipkdgaaRegH
namespace Go.Proofs.Ythflkhalipkdgaa.Mem
set_option maxRecDepth 20000
set_option linter.unusedVariables false
set_option linter.unusedSimpArgs false
open Go.RowKit
/-- a block that came in -/
def rK (b : Nat) (t : TypeId) (cs : List Value) : Res := (rB b t cs).still
section
variable {P : Program} {ops : Array Oper} {rest : List Oper} {o : Oper} {a : Act} {w w0 : World} {Q : Exit → Act → World → Prop} {S : List Nat} {R : List Res} {ty n b : Nat} {z : List Value} {t : TypeId} {cs : List Value}
theorem hp_oldK (H : Hid (Hp [] w0 w R)) (h : Blk w0 b cs.toArray t) : Hid (Hp [] w0 w (rK b t cs :: R)) := by
  have hl := h.lt
  refine Lib.hid (H.out.share _ (Off.refl [] w) (H.out.off.blk h (by simp)) rfl fun k hk => ?_)
  have hk' : k = b := by simpa [rK, Res.still, rB] using hk
  subst hk'
  exact ⟨Nat.lt_of_lt_of_le hl H.out.off.size, .inr (.inl ⟨hl, by simp⟩)⟩
theorem hpK_load (T : TyI P ty n true z) (H : Hid (Hp S w0 w R)) {x : Operand} (ho : o.op = .load ty x) {k : Nat} (hx : a.eval x = .pointer (some ⟨b, k, none⟩)) (hw : Region.wanted o (yielded ops a.tmps) = true) (hm : rK b t cs ∈ R)
    {vs : List Value} (hv : (cs.drop k).take n = vs) (hn : vs.length = n)
    (h : wpList P ops Q rest (a.put o.dst (.agg vs.toArray)) w) : wpList P ops Q (o :: rest) a w := by
  have hb : Blk w b cs.toArray t := H.out.holds _ hm
  have H2 : Hid (Hp [b] w w [rB b t cs]) := Lib.hid ⟨Off.refl _ _, fun r hr => (List.mem_singleton.1 hr) ▸ hb, by simpa [rB] using hb.lt, by simp [rB], by simp⟩
  exact hpA_load T H2 ho hx hw (List.mem_singleton.2 rfl) hv hn h
theorem hpK_load1 (T : TyI P ty 1 false z) (H : Hid (Hp S w0 w R)) {x : Operand} (ho : o.op = .load ty x) {k : Nat} (hx : a.eval x = .pointer (some ⟨b, k, none⟩)) (hw : Region.wanted o (yielded ops a.tmps) = true) (hm : rK b t cs ∈ R)
    {v : Value} (hv : cs[k]? = some v)
    (h : wpList P ops Q rest (a.put o.dst v) w) : wpList P ops Q (o :: rest) a w := by
  have hb : Blk w b cs.toArray t := H.out.holds _ hm
  have H2 : Hid (Hp [b] w w [rB b t cs]) := Lib.hid ⟨Off.refl _ _, fun r hr => (List.mem_singleton.1 hr) ▸ hb, by simpa [rB] using hb.lt, by simp [rB], by simp⟩
  exact hpA_load1 T H2 ho hx hw (List.mem_singleton.2 rfl) hv h
/-- a fact that goes with the memory -/
def rP (p : Prop) : Res := ⟨[], fun _ => p, fun _ _ _ h => h, true⟩
theorem hp_fact (H : Hid (Hp S w0 w R)) {p : Prop} (h : p) : Hid (Hp S w0 w (rP p :: R)) :=
  Lib.hid (H.out.share _ (Off.refl [] w) h rfl (fun k hk => by cases hk))
theorem hp_told (H : Hid (Hp S w0 w R)) {p : Prop} (h : rP p ∈ R) : p := H.out.holds _ h
theorem perm_front {α : Type} : ∀ (l : List α) (i : Nat) (r : α), l[i]? = some r → l.Perm (r :: l.eraseIdx i)
  | [], _, _, h => by simp at h
  | a :: l, 0, r, h => by
    simp at h
    subst h
    exact List.Perm.refl _
  | a :: l, i + 1, r, h => ((perm_front l i r (by simpa using h)).cons a).trans (List.Perm.swap r a _)
theorem hp_front (H : Hid (Hp S w0 w R)) (i : Nat) {r : Res} (hi : R[i]? = some r) : Hid (Hp S w0 w (r :: R.eraseIdx i)) := by
  exact Lib.hid (Reg.Hp.perm H.out (perm_front R i r hi))
theorem hp_take (H : Hid (Hp S w0 w R)) (n : Nat) : Hid (Hp S w0 w (R.take n)) := Lib.hid (H.out.sub (List.take_sublist _ _))
theorem from_trans {wc : World} {Rs Rt : List Res} {foot : List Nat} (h : From wc Rt foot) (ho : Off [] w0 wc) (hR : ∀ r ∈ Rt, From w0 Rs r.foot) : From w0 Rs foot := fun q hq => by
  rcases h q hq with h1 | ⟨r, hr, _, hq'⟩
  · exact .inl (Nat.le_trans ho.size h1)
  · exact hR r hr q hq'
end
end Go.Proofs.Ythflkhalipkdgaa.Mem
