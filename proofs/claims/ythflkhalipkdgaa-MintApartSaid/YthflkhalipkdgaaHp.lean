/- What a call knows of memory, as one list: its own blocks and objects, apart from each other; laws of the operations on memory over such a list. -/
import Derived.Test.YthflkhalipkdgaaProg
import Derived.Below
import Derived.WalkKit
import Derived.KernelRfl
import Derived.RowKit3
import Derived.Deep.LoopGhost
import Derived.Deep.QuietTactic
import Derived.BigQuiet
import Derived.WideLaws
import Derived.Deep.DeepCutAuto
import Derived.Deep.CutBlock
import Derived.Lib.Hide
import Derived.Laws.BitsLemmas
import Derived.Laws.Bits64
import Derived.Laws.BitsAllLaws
import Derived.IntWalk
import Derived.Outline
import Derived.WalkSpells
import Derived.Test.YthflkhalipkdgaaMem
import Derived.Deep.MidRow
import Derived.Laws.ResultCell
namespace Go.Proofs.Ythflkhalipkdgaa.Mem
set_option maxRecDepth 20000
set_option linter.unusedVariables false
set_option linter.unusedSimpArgs false
open Go.RowKit

/-- a thing in memory: which blocks it has, what it says; it stays while they do -/
structure Res where
  foot : List Nat
  holds : World → Prop
  stable : ∀ w w' : World, (∀ k ∈ foot, w'.heap[k]? = w.heap[k]?) → holds w → holds w'
  ro : Bool
def rB (b : Nat) (t : TypeId) (cs : List Value) : Res := ⟨[b], fun w => Blk w b cs.toArray t, fun _ _ h hb => by unfold Blk at *; rw [h b (by simp)]; exact hb, false⟩
structure Hp (S : List Nat) (w0 w : World) (R : List Res) : Prop where
  off : Off S w0 w
  holds : ∀ r ∈ R, r.holds w
  lt : ∀ r ∈ R, ∀ k ∈ r.foot, k < w.heap.size
  newf : ∀ r ∈ R, r.ro = false → ∀ k ∈ r.foot, k ∈ S ∨ w0.heap.size ≤ k
  sep : R.Pairwise fun r q => (r.ro && q.ro) = false → ∀ k ∈ r.foot, k ∉ q.foot
section
variable {S : List Nat} {w0 w w' : World} {R : List Res}
theorem Hp.start (S : List Nat) (w : World) : Hp S w w [] := ⟨Off.refl _ _, by simp, by simp, by simp, List.Pairwise.nil⟩
theorem Hp.at (h : Hp S w0 w R) (i : Nat) {r : Res} (hi : R[i]? = some r) : r.holds w := h.holds r (List.mem_of_getElem? hi)
theorem Hp.blk (h : Hp S w0 w R) (i : Nat) {b : Nat} {t : TypeId} {cs : List Value} (hi : R[i]? = some (rB b t cs)) : Blk w b cs.toArray t := h.at i hi
theorem Hp.cell (h : Hp S w0 w R) (i : Nat) {b : Nat} {t : TypeId} {cs : List Value} (hi : R[i]? = some (rB b t cs)) (k : Nat) (v : Value) (hk : cs[k]? = some v) : w.cell? ⟨b, k, none⟩ = some v :=
  (h.blk i hi).cell k v (by simpa using hk)
theorem Hp.frz (h : Hp S w0 w R) (i : Nat) {b : Nat} {t : TypeId} {cs : List Value} (hi : R[i]? = some (rB b t cs)) (k : Nat) : w.frozen? ⟨b, k, none⟩ = false := (h.blk i hi).free k
theorem Hp.push (h : Hp S w0 w R) (r : Res) (ho : Off [] w w') (hr : r.holds w') (hf : ∀ k ∈ r.foot, w.heap.size ≤ k ∧ k < w'.heap.size) : Hp S w0 w' (r :: R) := by
  refine ⟨h.off.trans ho (by simp), fun q hq => ?_, fun q hq k hk => ?_, fun q hq hro k hk => ?_, List.pairwise_cons.2 ⟨fun q hq _ k hk hk' => ?_, h.sep⟩⟩
  · rcases List.mem_cons.1 hq with rfl | hq
    · exact hr
    · exact q.stable w w' (fun k hk => ho.block k (h.lt q hq k hk) (by simp)) (h.holds q hq)
  · rcases List.mem_cons.1 hq with rfl | hq
    · exact (hf k hk).2
    · exact Nat.lt_of_lt_of_le (h.lt q hq k hk) ho.size
  · rcases List.mem_cons.1 hq with rfl | hq
    · exact .inr (Nat.le_trans h.off.size (hf k hk).1)
    · exact h.newf q hq hro k hk
  · have := h.lt q hq k hk'
    have := (hf k hk).1
    omega
theorem Hp.quiet (h : Hp S w0 w R) (ho : Off [] w w') : Hp S w0 w' R :=
  ⟨h.off.trans ho (by simp), fun q hq => q.stable w w' (fun k hk => ho.block k (h.lt q hq k hk) (by simp)) (h.holds q hq), fun q hq k hk => Nat.lt_of_lt_of_le (h.lt q hq k hk) ho.size, h.newf, h.sep⟩
theorem Hp.drew (h : Hp S w0 w R) : Hp S w0 w.drew R := h.quiet (Off.refl _ _).drew
theorem Hp.alloc (h : Hp S w0 w R) (cs : List Value) (t : TypeId) : Hp S w0 (w.alloc (.cells cs.toArray t)) (rB w.heap.size t cs :: R) :=
  h.push _ ((Off.refl _ _).alloc _) (blk_new w cs.toArray t) (by simp [rB])
/-- one of the things goes on -/
theorem Hp.step (h : Hp S w0 w R) (i : Nat) {r : Res} (hi : R[i]? = some r) (r' : Res) {F : List Nat} (ho : Off F w w') (hF : ∀ k ∈ F, k ∈ r.foot) (hr : r'.holds w')
    (hg : ∀ k ∈ r'.foot, (k ∈ r.foot ∨ w.heap.size ≤ k) ∧ k < w'.heap.size) (hro : r.ro = false := by first | rfl | assumption) : Hp S w0 w' (R.set i r') := by
  have hil : i < R.length := (List.getElem?_eq_some_iff.1 hi).1
  have hie : R[i] = r := (List.getElem?_eq_some_iff.1 hi).2
  have hmem : ∀ q ∈ R.set i r', q = r' ∨ ∃ j, ∃ hj : j < R.length, j ≠ i ∧ q = R[j] := by
    intro q hq
    obtain ⟨j, hj, rfl⟩ := List.getElem_of_mem hq
    by_cases hji : i = j
    · subst hji; left; simp
    · right
      exact ⟨j, by simpa using hj, fun e => hji e.symm, by rw [List.getElem_set_ne hji]⟩
  have hdis : ∀ j (hj : j < R.length), j ≠ i → (∀ k ∈ R[j].foot, k ∉ r.foot) ∧ (∀ k ∈ r.foot, k ∉ R[j].foot) := by
    intro j hj hji
    have hp := List.pairwise_iff_getElem.1 h.sep
    rcases Nat.lt_or_gt_of_ne hji with h1 | h1
    · have := hp j i hj hil h1 (by rw [hie, hro, Bool.and_false])
      rw [hie] at this
      exact ⟨this, fun k hk hk' => this k hk' hk⟩
    · have := hp i j hil hj h1 (by rw [hie, hro, Bool.false_and])
      rw [hie] at this
      exact ⟨fun k hk hk' => this k hk' hk, this⟩
  have hrm : r ∈ R := by rw [← hie]; exact List.getElem_mem _
  have hst : ∀ j (hj : j < R.length), j ≠ i → ∀ k ∈ R[j].foot, w'.heap[k]? = w.heap[k]? := fun j hj hji k hk =>
    ho.block k (h.lt _ (List.getElem_mem hj) k hk) (fun hkF => (hdis j hj hji).1 k hk (hF k hkF))
  refine ⟨h.off.trans ho (fun k hk hkF => ?_), fun q hq => ?_, fun q hq k hk => ?_, fun q hq hqo k hk => ?_, ?_⟩
  · rcases h.newf r hrm hro k (hF k hkF) with h1 | h1
    · exact h1
    · omega
  · rcases hmem q hq with rfl | ⟨j, hj, hji, rfl⟩
    · exact hr
    · exact (R[j]).stable w w' (hst j hj hji) (h.holds _ (List.getElem_mem hj))
  · rcases hmem q hq with rfl | ⟨j, hj, hji, rfl⟩
    · exact (hg k hk).2
    · exact Nat.lt_of_lt_of_le (h.lt _ (List.getElem_mem hj) k hk) ho.size
  · rcases hmem q hq with rfl | ⟨j, hj, hji, rfl⟩
    · rcases (hg k hk).1 with h1 | h1
      · exact h.newf r hrm hro k h1
      · exact .inr (Nat.le_trans h.off.size h1)
    · exact h.newf _ (List.getElem_mem hj) hqo k hk
  · rw [List.pairwise_iff_getElem]
    intro x y hx hy hxy hxo k hk hk'
    have hx' : x < R.length := by simpa using hx
    have hy' : y < R.length := by simpa using hy
    by_cases hxi : i = x
    · subst hxi
      rw [List.getElem_set_self] at hk
      rw [List.getElem_set_ne (by omega)] at hk'
      rcases (hg k hk).1 with h1 | h1
      · exact (hdis y hy' (by omega)).2 k h1 hk'
      · have := h.lt _ (List.getElem_mem hy') k hk'
        omega
    · rw [List.getElem_set_ne hxi] at hk
      by_cases hyi : i = y
      · subst hyi
        rw [List.getElem_set_self] at hk'
        rcases (hg k hk').1 with h1 | h1
        · exact (hdis x hx' (by omega)).1 k hk h1
        · have := h.lt _ (List.getElem_mem hx') k hk
          omega
      · rw [List.getElem_set_ne hyi] at hk'
        rw [List.getElem_set_ne hxi, List.getElem_set_ne hyi] at hxo
        exact List.pairwise_iff_getElem.1 h.sep x y hx' hy' hxy hxo k hk hk'
theorem Hp.new (h : Hp S w0 w R) (r : Res) (hr : r ∈ R) (k : Nat) (hk : k ∈ r.foot) (hro : r.ro = false := by first | rfl | assumption) : k ∈ S ∨ w0.heap.size ≤ k := h.newf r hr hro k hk
/-- fewer things -/
theorem Hp.sub (h : Hp S w0 w R) {R' : List Res} (hs : R'.Sublist R) : Hp S w0 w R' :=
  ⟨h.off, fun r hr => h.holds r (hs.subset hr), fun r hr => h.lt r (hs.subset hr), fun r hr => h.newf r (hs.subset hr), h.sep.sublist hs⟩
/-- a thing is not written any more: it may be shared then -/
def Res.still (r : Res) : Res := ⟨r.foot, r.holds, r.stable, true⟩
theorem Hp.freeze (h : Hp S w0 w R) (i : Nat) {r : Res} (hi : R[i]? = some r) (hro : r.ro = false) : Hp S w0 w (R.set i r.still) := by
  have hm : r ∈ R := List.mem_of_getElem? hi
  exact h.step i hi r.still (Off.refl [] w) (by simp) (h.holds r hm) (fun k hk => ⟨.inl hk, h.lt r hm k hk⟩) hro
theorem Hp.share (h : Hp S w0 w R) (r : Res) (ho : Off [] w w') (hr : r.holds w') (hro : r.ro = true) (hf : ∀ k ∈ r.foot, k < w'.heap.size ∧ (w.heap.size ≤ k ∨ (k < w0.heap.size ∧ k ∉ S) ∨ ∃ q ∈ R, q.ro = true ∧ k ∈ q.foot)) : Hp S w0 w' (r :: R) := by
  refine ⟨h.off.trans ho (by simp), fun q hq => ?_, fun q hq k hk => ?_, fun q hq hqo k hk => ?_, List.pairwise_cons.2 ⟨fun q hq hqo k hk hk' => ?_, h.sep⟩⟩
  · rcases List.mem_cons.1 hq with rfl | hq
    · exact hr
    · exact q.stable w w' (fun k hk => ho.block k (h.lt q hq k hk) (by simp)) (h.holds q hq)
  · rcases List.mem_cons.1 hq with rfl | hq
    · exact (hf k hk).1
    · exact Nat.lt_of_lt_of_le (h.lt q hq k hk) ho.size
  · rcases List.mem_cons.1 hq with rfl | hq
    · rw [hro] at hqo
      cases hqo
    · exact h.newf q hq hqo k hk
  · rw [hro, Bool.true_and] at hqo
    have hl := h.lt q hq k hk'
    rcases (hf k hk).2 with h1 | h1 | ⟨p, hp, hpo, hkp⟩
    · omega
    · rcases h.newf q hq hqo k hk' with h2 | h2
      · exact h1.2 h2
      · omega
    · obtain ⟨i, hi, rfl⟩ := List.getElem_of_mem hp
      obtain ⟨j, hj, rfl⟩ := List.getElem_of_mem hq
      rcases Nat.lt_trichotomy i j with h3 | h3 | h3
      · exact List.pairwise_iff_getElem.1 h.sep i j hi hj h3 (by rw [hqo, Bool.and_false]) k hkp hk'
      · subst h3
        rw [hpo] at hqo
        cases hqo
      · exact List.pairwise_iff_getElem.1 h.sep j i hj hi h3 (by rw [hqo, Bool.false_and]) k hk' hkp
/-- cells of a block, in the middle, in another way -/
def spl : List Value → Nat → List Value → List Value
  | [], _, _ => []
  | _ :: cs, 0, v :: vs => v :: spl cs 0 vs
  | cs, 0, [] => cs
  | c :: cs, k + 1, vs => c :: spl cs k vs
theorem spl_nil : ∀ (cs : List Value) (k : Nat), spl cs k [] = cs
  | [], 0 => rfl
  | [], _ + 1 => rfl
  | _ :: _, 0 => rfl
  | c :: cs, k + 1 => by rw [spl, spl_nil cs k]
theorem spl_cons : ∀ (cs : List Value) (k : Nat) (v : Value) (vs : List Value), spl cs k (v :: vs) = spl (cs.set k v) (k + 1) vs
  | [], k, v, vs => by cases k <;> simp [spl]
  | c :: cs, 0, v, vs => by simp [spl]
  | c :: cs, k + 1, v, vs => by simp [spl, spl_cons cs k v vs]
theorem spl_length : ∀ (vs cs : List Value) (k : Nat), (spl cs k vs).length = cs.length
  | [], cs, k => by rw [spl_nil]
  | v :: vs, cs, k => by rw [spl_cons, spl_length vs]; simp
theorem blk_setCells {b : Nat} {t : TypeId} : ∀ (vs : List Value) (k : Nat) (cs : List Value) (w : World), Blk w b cs.toArray t → Blk (w.setCells b k vs) b (spl cs k vs).toArray t
  | [], k, cs, w, h => by rw [spl_nil]; exact h
  | v :: vs, k, cs, w, h => by
    rw [World.setCells, spl_cons]
    refine blk_setCells vs (k + 1) (cs.set k v) _ ?_
    have := h.set k v
    simpa using this
theorem off_setCells {b : Nat} : ∀ (vs : List Value) (k : Nat) (w : World), Off [b] w (w.setCells b k vs)
  | [], _, w => Off.refl _ _
  | v :: vs, k, w => by
    rw [World.setCells]
    exact ((Off.refl [b] w).setCell ⟨b, k, none⟩ v (.inl (by simp))).trans (off_setCells vs (k + 1) _) (by simp)
theorem size_setCells (b : Nat) : ∀ (vs : List Value) (k : Nat) (w : World), (w.setCells b k vs).heap.size = w.heap.size
  | [], _, w => rfl
  | v :: vs, k, w => by
    rw [World.setCells, size_setCells b vs]
    show (w.heap.modify _ _).size = _
    rw [Array.size_modify]
end

section
variable {P : Program} {ops : Array Oper} {rest : List Oper} {o : Oper} {a : Act} {w w0 : World} {Q : Exit → Act → World → Prop} {S : List Nat} {R : List Res}
theorem hp_box (hgd : o.guard = none) (ty : TypeId) (x : Operand) (ho : o.op = .box ty x) (V : Value) (hx : a.eval x = V) (cs : List Value) (hV : V.cells = cs.toArray) (H : Hid (Hp S w0 w R))
    (h : ∀ w' b, Hid (Hp S w0 w' (rB b ty cs :: R)) → wpList P ops Q rest (a.put o.dst (.pointer (some ⟨b, 0, none⟩))) w') : wpList P ops Q (o :: rest) a w := by
  refine wpList_plain hgd fun K hK => ?_
  unfold Oper.wp execOp
  simp only [ho, hx, Sem.run_bind, Sem.run_pure, Result.andThen_ok]
  refine hK _ _ (h _ _ (Lib.hid ?_))
  have := H.out.alloc cs ty
  rw [← hV] at this
  exact this
theorem hp_alloc (hgd : o.guard = none) (ty : TypeId) (ho : o.op = .alloc ty) (cs : List Value) (hz : ∃ z, (P.info? ty).bind (·.zero) = some z ∧ z.cells = cs.toArray) (H : Hid (Hp S w0 w R))
    (h : ∀ w' b, Hid (Hp S w0 w' (rB b ty cs :: R)) → wpList P ops Q rest (a.put o.dst (.pointer (some ⟨b, 0, none⟩))) w') : wpList P ops Q (o :: rest) a w := by
  refine wpList_plain hgd fun K hK => ?_
  unfold Oper.wp execOp
  simp only [ho, Sem.run_bind, Sem.run_pure, Result.andThen_ok]
  obtain ⟨z, hz, hc⟩ := hz
  have hq : (zeroValue ty).run P w = .ok z w := by
    cases hi : P.info? ty with
    | none => simp [hi] at hz
    | some i =>
      have : i.zero = some z := by simpa [hi] using hz
      simp [zeroValue, typeInfo, hi, this]
  have e : (Instr.alloc ty true (.tuple #[])).run P w = .ok (.pointer (some ⟨w.heap.size, 0, none⟩)) (w.alloc (.cells cs.toArray ty)) := by
    unfold Instr.alloc
    rw [Sem.run_bind, hq]
    simp [newVar, newRow, hc]
  rw [e]
  exact hK _ _ (h _ _ (Lib.hid (H.out.alloc cs ty)))
theorem hp_load (hw : Region.wanted o (yielded ops a.tmps) = true) (ty : TypeId) (x : Operand) (ho : o.op = .load ty x) (b k : Nat) (hx : a.eval x = .pointer (some ⟨b, k, none⟩)) (i : Nat) {t : TypeId} {cs : List Value} (H : Hid (Hp S w0 w R)) (hi : R[i]? = some (rB b t cs))
    (vs : List Value) (d : TypeDesc) (hu : P.underlying ty = some d) (hd : d.isRow = true) (hz : (P.info? ty).map (·.size) = some vs.length) (hv : (cs.drop k).take vs.length = vs)
    (h : wpList P ops Q rest (a.put o.dst (.agg vs.toArray)) w) : wpList P ops Q (o :: rest) a w := by
  refine wpList_step fun K hK => ?_
  rw [if_pos hw]
  refine wp_load_mid ty x ho b k hx vs d (fun j v hj => ?_) hu hd hz (hK _ _ h)
  refine H.out.cell i hi (k + j) v ?_
  rw [← hv] at hj
  have hjl : j < vs.length := by
    have := (List.getElem?_eq_some_iff.1 hj).1
    simp at this; omega
  rw [List.getElem?_take_of_lt hjl, List.getElem?_drop] at hj
  exact hj
theorem hp_store (hgd : o.guard = none) (ty : TypeId) (x y : Operand) (ho : o.op = .store ty x y) (b k : Nat) (hx : a.eval x = .pointer (some ⟨b, k, none⟩)) (V : Value) (hy : a.eval y = V) (i : Nat) {t : TypeId} {cs : List Value} (H : Hid (Hp S w0 w R)) (hi : R[i]? = some (rB b t cs))
    (vs : List Value) (hV : V.cells = vs.toArray) (hz : (P.info? ty).map (·.size) = some vs.length) (hk : k + vs.length ≤ cs.length) (h1 : vs.all (·.oneCell') = true) (cs' : List Value) (hs : spl cs k vs = cs')
    (h : ∀ w', Hid (Hp S w0 w' (R.set i (rB b t cs'))) → wpList P ops Q rest (a.put o.dst undef) w') : wpList P ops Q (o :: rest) a w := by
  refine wpList_plain hgd fun K hK => ?_
  have hb := H.out.blk i hi
  have ht : w.there b k vs.length := fun j hj => by
    refine ⟨?_, hb.free _⟩
    rw [hb.cell (k + j) (cs[k + j]'(by omega)) (by simp [show k + j < cs.length by omega])]
    rfl
  have e : (storeVar ty ⟨b, k, none⟩ V).run P w = .ok () (w.setCells b k vs) := by
    have := run_storeCells_cells (P := P) b k vs 0 w (fun j hj => by simpa using (ht j hj).1) (fun j hj => by simpa using (ht j hj).2) (fun v hv => List.all_eq_true.1 h1 v hv)
    simp only [Nat.add_zero] at this
    cases hq : P.info? ty with
    | none => simp [hq] at hz
    | some q =>
      have hs : vs.length = q.size := by simp [hq] at hz; omega
      simp [storeVar, sizeOf, typeInfo, hq, hV, hs, this]
  unfold Oper.wp execOp
  simp only [ho, hx, hy, Instr.storeAt, Instr.sureAddr, Sem.run_bind, Sem.run_pure, Result.andThen_ok, e]
  refine hK _ _ (h _ (Lib.hid ?_))
  refine H.out.step i hi _ (off_setCells vs k w) (by simp [rB]) ?_ ?_
  · rw [← hs]
    exact blk_setCells vs k cs w hb
  · simp only [rB, List.mem_singleton, size_setCells]
    rintro q rfl
    exact ⟨.inl rfl, hb.lt⟩
end
/-- what is to be known of a type: how many cells, whether a row of cells, its zero -/
structure TyI (P : Program) (ty : TypeId) (n : Nat) (row : Bool) (z : List Value) : Prop where
  size : (P.info? ty).map (·.size) = some n
  isRow : (P.underlying ty).map (fun d => d.isRow) = some row
  zero : ((P.info? ty).bind (·.zero)).map (·.cells.toList) = some z
section
variable {P : Program} {ops : Array Oper} {rest : List Oper} {o : Oper} {a : Act} {w w0 : World} {Q : Exit → Act → World → Prop} {S : List Nat} {R : List Res} {ty n : Nat} {row : Bool} {z : List Value}
/-- where a thing stands in the list -/
theorem idx_of_mem {R : List Res} {r : Res} (h : r ∈ R) : ∃ i : Nat, R[i]? = some r := List.mem_iff_getElem?.1 h
theorem hpA_alloc (T : TyI P ty n row z) (H : Hid (Hp S w0 w R)) (ho : o.op = .alloc ty) (hgd : o.guard = none)
    (h : ∀ w' b, Hid (Hp S w0 w' (rB b ty z :: R)) → wpList P ops Q rest (a.put o.dst (.pointer (some ⟨b, 0, none⟩))) w') : wpList P ops Q (o :: rest) a w := by
  refine hp_alloc hgd ty ho z ?_ H h
  have := T.zero
  cases hq : (P.info? ty).bind (·.zero) with
  | none => simp [hq] at this
  | some v => exact ⟨v, rfl, by rw [hq] at this; simp at this; rw [← this]⟩
theorem hpA_box (ty : TypeId) (H : Hid (Hp S w0 w R)) {x : Operand} (ho : o.op = .box ty x) (hgd : o.guard = none) {V : Value} (hx : a.eval x = V) {cs : List Value} (hV : V.cells = cs.toArray)
    (h : ∀ w' b, Hid (Hp S w0 w' (rB b ty cs :: R)) → wpList P ops Q rest (a.put o.dst (.pointer (some ⟨b, 0, none⟩))) w') : wpList P ops Q (o :: rest) a w := hp_box hgd ty x ho V hx cs hV H h
theorem hpA_load (T : TyI P ty n true z) (H : Hid (Hp S w0 w R)) {x : Operand} (ho : o.op = .load ty x) {b k : Nat} (hx : a.eval x = .pointer (some ⟨b, k, none⟩)) (hw : Region.wanted o (yielded ops a.tmps) = true) {t : TypeId} {cs : List Value} (hm : rB b t cs ∈ R)
    {vs : List Value} (hv : (cs.drop k).take n = vs) (hn : vs.length = n)
    (h : wpList P ops Q rest (a.put o.dst (.agg vs.toArray)) w) : wpList P ops Q (o :: rest) a w := by
  obtain ⟨i, hi⟩ := idx_of_mem hm
  have hr := T.isRow
  cases hu : P.underlying ty with
  | none => simp [hu] at hr
  | some d => exact hp_load hw ty x ho b k hx i H hi vs d hu (by simpa [hu] using hr) (by rw [T.size, hn]) (by rw [hn]; exact hv) h
theorem hpA_load1 (T : TyI P ty 1 false z) (H : Hid (Hp S w0 w R)) {x : Operand} (ho : o.op = .load ty x) {b k : Nat} (hx : a.eval x = .pointer (some ⟨b, k, none⟩)) (hw : Region.wanted o (yielded ops a.tmps) = true) {t : TypeId} {cs : List Value} (hm : rB b t cs ∈ R)
    {v : Value} (hv : cs[k]? = some v)
    (h : wpList P ops Q rest (a.put o.dst v) w) : wpList P ops Q (o :: rest) a w := by
  obtain ⟨i, hi⟩ := idx_of_mem hm
  have hc := H.out.cell i hi k v hv
  have hr := T.isRow
  refine wpList_step fun K hK => ?_
  rw [if_pos hw]
  have e : (Instr.loadAt ty (.pointer (some ⟨b, k, none⟩))).run P w = .ok v w := by
    cases hu : P.underlying ty with
    | none => simp [hu] at hr
    | some d =>
      have hd : d.isRow = false := by simpa [hu] using hr
      have hagg : (isAgg ty).run P w = .ok false w := by
        unfold isAgg
        rw [Sem.run_bind, run_underlying hu w]
        cases d <;> simp_all
      simp only [Instr.loadAt, Instr.sureAddr, Sem.run_bind, Sem.run_pure, Result.andThen_ok]
      unfold loadVar
      rw [Sem.run_bind, hagg]
      simp [hc]
  unfold Oper.wp execOp
  simp only [ho, hx, Sem.run_bind, Sem.run_pure, Result.andThen_ok, e]
  exact hK _ _ h
/-- r' in the place of r -/
inductive Put (r r' : Res) : Nat → List Res → List Res → Prop
  | head (R : List Res) : Put r r' 0 (r :: R) (r' :: R)
  | tail (q : Res) {i : Nat} {R R' : List Res} : Put r r' i R R' → Put r r' (i + 1) (q :: R) (q :: R')
theorem Put.spec {r r' : Res} {i : Nat} {R R' : List Res} (h : Put r r' i R R') : R[i]? = some r ∧ R.set i r' = R' := by
  induction h with
  | head R => exact ⟨rfl, rfl⟩
  | tail q h ih => exact ⟨by simpa using ih.1, by simp [ih.2]⟩
theorem hpA_store (T : TyI P ty n row z) (H : Hid (Hp S w0 w R)) {x y : Operand} (ho : o.op = .store ty x y) (hgd : o.guard = none) {b k : Nat} (hx : a.eval x = .pointer (some ⟨b, k, none⟩)) {vs : List Value} (hy : a.eval y = .agg vs.toArray)
    (hn : vs.length = n) {t : TypeId} {cs : List Value} {r' : Res} {i : Nat} {R' : List Res} (hp : Put (rB b t cs) r' i R R') (hk : k + n ≤ cs.length) (h1 : vs.all (·.oneCell') = true) {cs' : List Value} (hs : spl cs k vs = cs') (hr : r' = rB b t cs')
    (h : ∀ w', Hid (Hp S w0 w' R') → wpList P ops Q rest (a.put o.dst undef) w') : wpList P ops Q (o :: rest) a w := by
  subst hr
  obtain ⟨hi, hR⟩ := hp.spec
  subst hR
  exact hp_store hgd ty x y ho b k hx _ hy i H hi vs (by simp [Value.cells]) (by rw [T.size, hn]) (by omega) h1 cs' hs h
theorem hpA_store1 (T : TyI P ty 1 false z) (H : Hid (Hp S w0 w R)) {x y : Operand} (ho : o.op = .store ty x y) (hgd : o.guard = none) {b k : Nat} (hx : a.eval x = .pointer (some ⟨b, k, none⟩)) {V : Value} (hy : a.eval y = V)
    (hV : V.cells = #[V]) {t : TypeId} {cs : List Value} {r' : Res} {i : Nat} {R' : List Res} (hp : Put (rB b t cs) r' i R R') (hk : k < cs.length) (h1 : V.oneCell' = true) {cs' : List Value} (hs : cs.set k V = cs') (hr : r' = rB b t cs')
    (h : ∀ w', Hid (Hp S w0 w' R') → wpList P ops Q rest (a.put o.dst undef) w') : wpList P ops Q (o :: rest) a w := by
  subst hr
  obtain ⟨hi, hR⟩ := hp.spec
  subst hR
  exact hp_store hgd ty x y ho b k hx V hy i H hi [V] hV (by rw [T.size]; rfl) (by simp; omega) (by simp [h1]) cs' (by rw [spl_cons, spl_nil]; exact hs) h
/-- what a result variable in memory holds -/
theorem hp_var (T : TyI P ty n true z) {t : TypeId} {cs : List Value} (b : Nat) (H : Hp S w0 w R) (hm : rB b t cs ∈ R) (hn : cs.length = n) : (loadVar ty ⟨b, 0, none⟩).run P w = .ok (.agg cs.toArray) w := by
  obtain ⟨i, hi⟩ := idx_of_mem hm
  have hr := T.isRow
  cases hu : P.underlying ty with
  | none => simp [hu] at hr
  | some d =>
    refine run_loadVar_mid w b 0 ty cs d (fun j v hj => ?_) hu (by simpa [hu] using hr) (by rw [T.size, hn])
    rw [Nat.zero_add]
    exact H.cell i hi j v hj
theorem hp_var1 (T : TyI P ty 1 false z) {t : TypeId} (b : Nat) (v : Value) (H : Hp S w0 w R) (hm : rB b t [v] ∈ R) : (loadVar ty ⟨b, 0, none⟩).run P w = .ok v w := by
  obtain ⟨i, hi⟩ := idx_of_mem hm
  have hc := H.cell i hi 0 v rfl
  have hr := T.isRow
  cases hu : P.underlying ty with
  | none => simp [hu] at hr
  | some d =>
    have hd : d.isRow = false := by simpa [hu] using hr
    have hagg : (isAgg ty).run P w = .ok false w := by
      unfold isAgg
      rw [Sem.run_bind, run_underlying hu w]
      cases d <;> simp_all
    unfold loadVar
    rw [Sem.run_bind, hagg]
    simp [hc]
end
theorem res_c {fn : Func} {p : Tmp} {ty : TypeId} (h : fn.results = #[.cell p ty]) (tmps : Array Value) {P : Program} (w : World) (a : Addr) (hp : tmps.getD p undef = .pointer (some a)) (V : Value) (hl : (loadVar ty a).run P w = .ok V w) :
    (results fn tmps).run P w = .ok V w := by
  have hp' : (tmps[p]?).getD undef = .pointer (some a) := by simpa using hp
  simp [results, h, hp', asAddr, hl, Result.andThen]
theorem res_ct {fn : Func} {p u : Tmp} {ty : TypeId} (h : fn.results = #[.cell p ty, .tmp u]) (tmps : Array Value) {P : Program} (w : World) (a : Addr) (hp : tmps.getD p undef = .pointer (some a)) (V U : Value) (hu : tmps.getD u undef = U) (hl : (loadVar ty a).run P w = .ok V w) :
    (results fn tmps).run P w = .ok (.tuple #[V, U]) w := by
  rw [results_cell_tmp h, hp, hu]
  simp [asAddr, hl, Result.andThen]
theorem res_cct {fn : Func} {p q u : Tmp} {ty t2 : TypeId} (h : fn.results = #[.cell p ty, .cell q t2, .tmp u]) (tmps : Array Value) {P : Program} (w : World) (a b : Addr) (hp : tmps.getD p undef = .pointer (some a)) (hq : tmps.getD q undef = .pointer (some b)) (V U X : Value) (hu : tmps.getD u undef = X) (hl : (loadVar ty a).run P w = .ok V w) (hl2 : (loadVar t2 b).run P w = .ok U w) :
    (results fn tmps).run P w = .ok (.tuple #[V, U, X]) w := by
  have hp' : (tmps[p]?).getD undef = .pointer (some a) := by simpa using hp
  have hq' : (tmps[q]?).getD undef = .pointer (some b) := by simpa using hq
  have hu' : (tmps[u]?).getD undef = X := by simpa using hu
  simp [results, h, hp', hq', hu', asAddr, hl, hl2, Result.andThen]
section
variable {P : Program} {fn : Func} {a : Act} {w w0 : World} {S : List Nat} {R : List Res} {ty n t2 n2 : Nat} {z z2 : List Value} {p q u : Tmp} {Post : Ending → World → Prop}
theorem hp_ret_c (T : TyI P ty n true z) (H : Hid (Hp S w0 w R)) (h : fn.results = #[.cell p ty]) (hd : a.defers = []) {b : Nat} (hp : a.tmps.getD p undef = .pointer (some ⟨b, 0, none⟩)) {t : TypeId} {cs : List Value} (hm : rB b t cs ∈ R) (hn : cs.length = n)
    (hQ : Post (.returned (.agg cs.toArray)) w) : bodyPost P fn Post .ret a w :=
  ⟨hd, _, res_c h a.tmps w _ hp _ (hp_var T b H.out hm hn), hQ⟩
theorem hp_ret_ct (T : TyI P ty n true z) (H : Hid (Hp S w0 w R)) (h : fn.results = #[.cell p ty, .tmp u]) (hd : a.defers = []) {b : Nat} (hp : a.tmps.getD p undef = .pointer (some ⟨b, 0, none⟩)) {U : Value} (hu : a.tmps.getD u undef = U) {t : TypeId} {cs : List Value} (hm : rB b t cs ∈ R) (hn : cs.length = n)
    (hQ : Post (.returned (.tuple #[.agg cs.toArray, U])) w) : bodyPost P fn Post .ret a w :=
  ⟨hd, _, res_ct h a.tmps w _ hp _ _ hu (hp_var T b H.out hm hn), hQ⟩
theorem hp_ret_cct (T : TyI P ty n true z) (T2 : TyI P t2 n2 true z2) (H : Hid (Hp S w0 w R)) (h : fn.results = #[.cell p ty, .cell q t2, .tmp u]) (hd : a.defers = []) {b b2 : Nat} (hp : a.tmps.getD p undef = .pointer (some ⟨b, 0, none⟩)) (hq : a.tmps.getD q undef = .pointer (some ⟨b2, 0, none⟩)) {U : Value} (hu : a.tmps.getD u undef = U) {t tt : TypeId} {cs ds : List Value} (hm : rB b t cs ∈ R) (hm2 : rB b2 tt ds ∈ R) (hn : cs.length = n) (hn2 : ds.length = n2)
    (hQ : Post (.returned (.tuple #[.agg cs.toArray, .agg ds.toArray, U])) w) : bodyPost P fn Post .ret a w :=
  ⟨hd, _, res_cct h a.tmps w _ _ hp hq _ _ _ hu (hp_var T b H.out hm hn) (hp_var T2 b2 H.out hm2 hn2), hQ⟩
end
theorem hpA_box1 {P : Program} {ops : Array Oper} {rest : List Oper} {o : Oper} {a : Act} {w w0 : World} {Q : Exit → Act → World → Prop} {S : List Nat} {R : List Res} (ty : TypeId) (H : Hid (Hp S w0 w R)) {x : Operand} (ho : o.op = .box ty x) (hgd : o.guard = none) {V : Value} (hx : a.eval x = V) (hV : V.cells = #[V])
    (h : ∀ w' b, Hid (Hp S w0 w' (rB b ty [V] :: R)) → wpList P ops Q rest (a.put o.dst (.pointer (some ⟨b, 0, none⟩))) w') : wpList P ops Q (o :: rest) a w := hp_box hgd ty x ho V hx [V] hV H h
/-- a slice literal -/
theorem hpA_bslice_K {P : Program} {o : Oper} {a : Act} {w w0 : World} {K : Act → World → Prop} {Q : Exit → Act → World → Prop} {S : List Nat} {R : List Res} {ty e sz : Nat} {row : Bool} {z : List Value} (hu : P.underlying ty = some (.slice e)) (T : TyI P e sz row z) (H : Hid (Hp S w0 w R))
    {n : Nat} {ps : Array (Nat × Operand)} (ho : o.op = .buildSlice ty n ps) (hn : n * sz ≤ 2 ^ 24) (hn0 : n * sz ≠ 0) {cs : List Value}
    (hf : Instr.fill (fun i => some (i * sz, sz)) ((Array.range (n * sz)).map (z.toArray[· % z.toArray.size]!)) (ps.map fun (p : Nat × Operand) => (p.1, a.eval p.2)).toList = some cs.toArray)
    (h : ∀ w' b, Hid (Hp S w0 w' (rB b e cs :: R)) → K (a.put o.dst (.slice (some ⟨b, 0, none⟩) n n)) w') : Oper.wp P o a w K Q := by
  have hs : (sizeOf e).run P w = .ok sz w := by
    have := T.size
    cases hq : P.info? e with
    | none => simp [hq] at this
    | some i => simp [hq] at this; simp [sizeOf, typeInfo, hq, this]
  have hz : (zeroValue e).run P w = .ok ((P.info? e).bind (·.zero)).get! w ∧ (((P.info? e).bind (·.zero)).get!).cells = z.toArray := by
    have := T.zero
    cases hi : P.info? e with
    | none => simp [hi] at this
    | some i =>
      cases hj : i.zero with
      | none => simp [hi, hj] at this
      | some v =>
        simp [hi, hj] at this
        refine ⟨by simp [zeroValue, typeInfo, hi, hj], by simp [hj, ← this]⟩
  generalize ((P.info? e).bind (·.zero)).get! = zv at hz
  obtain ⟨hz, hzc⟩ := hz
  have e1 : (Instr.buildSlice ty n (ps.map fun (p : Nat × Operand) => (p.1, a.eval p.2))).run P w = .ok (.slice (some ⟨w.heap.size, 0, none⟩) n n) (w.alloc (.cells cs.toArray e)) := by
    unfold Instr.buildSlice
    rw [Sem.run_bind, run_underlying hu w]
    simp only [Result.andThen_ok]
    rw [Sem.run_bind, hs]
    simp only [Result.andThen_ok]
    rw [if_neg (by omega), if_neg hn0]
    simp only [Sem.run_bind, Sem.run_pure, Result.andThen_ok, hz, hzc]
    rw [hf]
    simp [newRow]
  unfold Oper.wp execOp
  simp only [ho, Sem.run_bind, Sem.run_pure, Result.andThen_ok]
  rw [e1]
  exact h _ _ (Lib.hid (H.out.alloc cs e))
theorem hpA_bslice {P : Program} {ops : Array Oper} {rest : List Oper} {o : Oper} {a : Act} {w w0 : World} {Q : Exit → Act → World → Prop} {S : List Nat} {R : List Res} {ty e sz : Nat} {row : Bool} {z : List Value} (hu : P.underlying ty = some (.slice e)) (T : TyI P e sz row z) (H : Hid (Hp S w0 w R))
    {n : Nat} {ps : Array (Nat × Operand)} (ho : o.op = .buildSlice ty n ps) (hgd : o.guard = none) (hn : n * sz ≤ 2 ^ 24) (hn0 : n * sz ≠ 0) {cs : List Value}
    (hf : Instr.fill (fun i => some (i * sz, sz)) ((Array.range (n * sz)).map (z.toArray[· % z.toArray.size]!)) (ps.map fun (p : Nat × Operand) => (p.1, a.eval p.2)).toList = some cs.toArray)
    (h : ∀ w' b, Hid (Hp S w0 w' (rB b e cs :: R)) → wpList P ops Q rest (a.put o.dst (.slice (some ⟨b, 0, none⟩) n n)) w') : wpList P ops Q (o :: rest) a w :=
  wpList_plain hgd fun K hK => hpA_bslice_K hu T H ho hn hn0 hf (fun w' b h' => hK _ _ (h w' b h'))
/-- a guard: does this operation touch memory? -/
def isMem : Op → Bool
  | .box .. | .alloc .. | .load .. | .store .. | .buildSlice .. => true
  | _ => false
theorem g_mem {P : Program} {ops : Array Oper} {rest : List Oper} {o : Oper} {a : Act} {w : World} {Q : Exit → Act → World → Prop} (_ : isMem o.op = true) (h : wpList P ops Q (o :: rest) a w) : wpList P ops Q (o :: rest) a w := h
section
variable {P : Program} {ops : Array Oper} {rest : List Oper} {o : Oper} {a : Act} {w w0 : World} {Q : Exit → Act → World → Prop} {S : List Nat} {R : List Res} {ty n : Nat} {row : Bool} {z : List Value}
theorem hpN_box (ty d : Nat) (H : Hid (Hp S w0 w R)) (hd : o.dst = some d) {x : Operand} (ho : o.op = .box ty x) (hgd : o.guard = none) {V : Value} (hx : a.eval x = V) {cs : List Value} (hV : V.cells = cs.toArray)
    (h : ∀ w' b, Hid (Hp S w0 w' (rB b ty cs :: R)) → wpList P ops Q rest (a.put o.dst (.pointer (some ⟨b, 0, none⟩))) w') : wpList P ops Q (o :: rest) a w := hp_box hgd ty x ho V hx cs hV H h
theorem hpN_box1 (ty d : Nat) (H : Hid (Hp S w0 w R)) (hd : o.dst = some d) {x : Operand} (ho : o.op = .box ty x) (hgd : o.guard = none) {V : Value} (hx : a.eval x = V) (hV : V.cells = #[V])
    (h : ∀ w' b, Hid (Hp S w0 w' (rB b ty [V] :: R)) → wpList P ops Q rest (a.put o.dst (.pointer (some ⟨b, 0, none⟩))) w') : wpList P ops Q (o :: rest) a w := hp_box hgd ty x ho V hx [V] hV H h
theorem hpN_alloc (T : TyI P ty n row z) (d : Nat) (H : Hid (Hp S w0 w R)) (hd : o.dst = some d) (ho : o.op = .alloc ty) (hgd : o.guard = none)
    (h : ∀ w' b, Hid (Hp S w0 w' (rB b ty z :: R)) → wpList P ops Q rest (a.put o.dst (.pointer (some ⟨b, 0, none⟩))) w') : wpList P ops Q (o :: rest) a w := hpA_alloc T H ho hgd h
theorem hpN_bslice {e sz : Nat} (hu : P.underlying ty = some (.slice e)) (T : TyI P e sz row z) (d : Nat) (H : Hid (Hp S w0 w R)) (hd : o.dst = some d)
    {n : Nat} {ps : Array (Nat × Operand)} (ho : o.op = .buildSlice ty n ps) (hw : Region.wanted o (yielded ops a.tmps) = true) (hn : n * sz ≤ 2 ^ 24) (hn0 : n * sz ≠ 0) {cs : List Value}
    (hf : Instr.fill (fun i => some (i * sz, sz)) ((Array.range (n * sz)).map (z.toArray[· % z.toArray.size]!)) (ps.map fun (p : Nat × Operand) => (p.1, a.eval p.2)).toList = some cs.toArray)
    (h : ∀ w' b, Hid (Hp S w0 w' (rB b e cs :: R)) → wpList P ops Q rest (a.put o.dst (.slice (some ⟨b, 0, none⟩) n n)) w') : wpList P ops Q (o :: rest) a w := by
  cases o with
  | mk dst op type pos after guard =>
    refine wpList_step fun K hK => ?_
    rw [if_pos hw]
    exact hpA_bslice_K hu T H ho hn hn0 hf (fun w' b h' => hK _ _ (h w' b h'))
/-! regions that draw: a condition on worlds that stays, whatever is allocated -/
theorem Hp.pack (H : Hid (Hp S w0 w R)) : ∃ Sx : World → Prop, Sx w ∧ (∀ w', Sx w' → Hp S w0 w' R) ∧ (∀ w', Sx w' → Sx w'.drew) ∧ (∀ w' w'', Sx w' → Off [] w' w'' → Sx w'') :=
  ⟨fun w' => Hp S w0 w' R, H.out, fun _ h => h, fun _ h => h.drew, fun _ _ h ho => h.quiet ho⟩
theorem Hp.useCell {goal : Prop} {Sx : World → Prop} (hSH : ∀ w', Sx w' → Hp S w0 w' R) (b k : Nat) {t : TypeId} {cs : List Value} (hm : rB b t cs ∈ R) {v : Value} (hk : cs[k]? = some v) (h : (∀ w', Sx w' → w'.cell? ⟨b, k, none⟩ = some v) → goal) : goal := by
  obtain ⟨i, hi⟩ := idx_of_mem hm
  exact h fun w' hw' => (hSH w' hw').cell i hi k v hk
theorem Hp.useRow {goal : Prop} {Sx : World → Prop} (T : TyI P ty n true z) (hSH : ∀ w', Sx w' → Hp S w0 w' R) (b k : Nat) {t : TypeId} {cs : List Value} (hm : rB b t cs ∈ R) {vs : List Value} (hv : (cs.drop k).take n = vs) (hn : vs.length = n)
    (h : (∀ w', Sx w' → (Instr.loadAt ty (.pointer (some ⟨b, k, none⟩))).run P w' = .ok (.agg vs.toArray) w') → goal) : goal := by
  obtain ⟨i, hi⟩ := idx_of_mem hm
  have hr := T.isRow
  refine h fun w' hw' => ?_
  cases hu : P.underlying ty with
  | none => simp [hu] at hr
  | some d =>
    refine run_loadAt_mid w' b k ty vs d (fun j v hj => ?_) hu (by simpa [hu] using hr) (by rw [T.size, hn])
    refine (hSH w' hw').cell i hi (k + j) v ?_
    rw [← hv] at hj
    have hjl : j < n := by
      have := (List.getElem?_eq_some_iff.1 hj).1
      simp at this; omega
    rw [List.getElem?_take_of_lt hjl, List.getElem?_drop] at hj
    exact hj
theorem g_region (id : Nat) {ops : Array Oper} (h : (Code.region id ops true).wp P Q a w) : (Code.region id ops true).wp P Q a w := h
end
theorem cells_row (cs : Array Value) : (Value.agg cs).cells = cs.toList.toArray := by simp [Value.cells]
end Go.Proofs.Ythflkhalipkdgaa.Mem
