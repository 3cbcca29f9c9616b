/- Slices of structs in memory as things of a list: read ones, growing ones; copy and clear of rows. -/
import Derived.Test.YthflkhalipkdgaaProg
import Derived.Below
import Derived.WalkKit
import Derived.KernelRfl
import Derived.RowKit3
import Derived.Deep.LoopGhost
import Derived.Deep.QuietTactic
import Derived.BigQuiet
import Derived.WideLaws
import Derived.Deep.DeepCutAuto
import Derived.Deep.CutBlock
import Derived.Lib.Hide
import Derived.Laws.BitsLemmas
import Derived.Laws.Bits64
import Derived.Laws.BitsAllLaws
import Derived.IntWalk
import Derived.Outline
import Derived.WalkSpells
import Derived.Test.YthflkhalipkdgaaMem
import Derived.Test.YthflkhalipkdgaaHp2
import Derived.Test.YthflkhalipkdgaaMem2
import Derived.Test.YthflkhalipkdgaaMem3
import Derived.Shelf.Spec.SlicesInsertGrow
namespace Go.Proofs.Ythflkhalipkdgaa.Mem
set_option maxRecDepth 20000
set_option linter.unusedVariables false
set_option linter.unusedSimpArgs false
open Go.RowKit

section
variable {P : Program}
theorem run_copy_k (w : World) (dT sT ty elem : TypeId) (size b o dLen dCap : Nat) (a : Addr) (sLen sCap : Nat) (cs : List Value)
    (hu : P.underlying dT = some (.slice elem)) (hs : (P.info? elem).map (·.size) = some size) (hn : cs.length = Nat.min sLen dLen * size)
    (hsrc : ∀ j v, cs[j]? = some v → w.cell? (a.add j) = some v) (hc : ∀ j, j < cs.length → (w.cell? ⟨b, o + j, none⟩).isSome = true) (hf : ∀ j, j < cs.length → w.frozen? ⟨b, o + j, none⟩ = false) (h1 : ∀ v ∈ cs, v.oneCell' = true) :
    (Builtin.copy_ #[dT, sT] ty #[.slice (some ⟨b, o, none⟩) dLen dCap, .slice (some a) sLen sCap]).run P w = .ok (goInt (Nat.min sLen dLen)) (w.setCells b o cs) := by
  have hl := run_loadCells_list (P := P) w a cs hsrc
  have hst := run_storeCells_cells (P := P) b o cs 0 w (by simpa using hc) (by simpa using hf) h1
  cases hq : P.info? elem with
  | none => simp [hq] at hs
  | some i =>
    have hi : i.size = size := by simpa [hq] using hs
    simp only [Nat.add_zero] at hst
    simp [Builtin.copy_, run_underlying hu, Builtin.lenOf, Builtin.firstCells, sizeOf, typeInfo, hq, hi, ← hn, hl, hst]
theorem run_clear_k {n : Nat} (w : World) (t e ty : TypeId) (z : Value) (ht : P.underlying t = some (.slice e)) (hv : ∀ w, (zeroValue e).run P w = .ok z w) (h1 : ∀ v ∈ (Builtin.zeroCells z.cells n).toList, v.oneCell' = true) (b o c : Nat) (hn : 0 < n)
    (hc : ∀ j, j < (Builtin.zeroCells z.cells n).toList.length → (w.cell? ⟨b, o + j, none⟩).isSome = true) (hf : ∀ j, j < (Builtin.zeroCells z.cells n).toList.length → w.frozen? ⟨b, o + j, none⟩ = false) :
    (Builtin.clear_ #[t] ty #[.slice (some ⟨b, o, none⟩) n c]).run P w = .ok (.tuple #[]) (w.setCells b o (Builtin.zeroCells z.cells n).toList) := by
  have hst := run_storeCells_cells (P := P) b o (Builtin.zeroCells z.cells n).toList 0 w (by simpa using hc) (by simpa using hf) h1
  simp only [Nat.add_zero] at hst
  obtain ⟨m, rfl⟩ : ∃ m, n = m + 1 := ⟨n - 1, by omega⟩
  simp [Builtin.clear_, run_underlying ht, hv, hst]
end
/-- what is to be known of a slice's type: its element, how many cells, how many bytes -/
structure ElI (P : Program) (t e k by_ : Nat) : Prop where
  und : P.underlying t = some (.slice e)
  info : ∃ i z, P.info? e = some i ∧ i.zero = some z ∧ i.size = k ∧ i.bytes = by_ ∧ z.cells.size = k
  pos : 0 < k
/-- rows are of so many cells each, of one cell's values -/
def Wf (k : Nat) (rows : List (List Value)) : Prop := ∀ r ∈ rows, r.length = k ∧ ∀ u ∈ r, u.oneCell' = true
theorem Wf.len {k : Nat} {rows : List (List Value)} (h : Wf k rows) : ∀ r ∈ rows, r.length = k := fun r hr => (h r hr).1
theorem Wf.one {k : Nat} {rows : List (List Value)} (h : Wf k rows) : ∀ r ∈ rows, ∀ u ∈ r, u.oneCell' = true := fun r hr => (h r hr).2
theorem Wf.nil (k : Nat) : Wf k [] := by intro r hr; cases hr
theorem Wf.app {k : Nat} {a b : List (List Value)} (ha : Wf k a) (hb : Wf k b) : Wf k (a ++ b) := by
  intro r hr
  rcases List.mem_append.1 hr with h | h
  · exact ha r h
  · exact hb r h
theorem Wf.sub {k : Nat} {a b : List (List Value)} (hb : Wf k b) (h : ∀ r ∈ a, r ∈ b) : Wf k a := fun r hr => hb r (h r hr)
def footA (a : Option Addr) : List Nat := (a.map (·.block)).toList
def footR (a : Option Addr) : List (List Value) → List Nat
  | [] => []
  | _ :: _ => footA a
theorem own_foot (a : Option Addr) (n c : Nat) : (Value.slice a n c).ownBlock.toList = footA a := by cases a <;> rfl
/-- a slice that is read -/
def rS (a : Option Addr) (c k : Nat) (rows : List (List Value)) : Res := ⟨footR a rows, fun w => RowsAt w (.slice a rows.length c) k rows ∧ Wf k rows, fun w w' h hr => by
  refine ⟨?_, hr.2⟩
  rcases hr.1 with h0 | ⟨x, c', he, hc⟩
  · exact .inl h0
  · refine .inr ⟨x, c', he, fun i hi j u hu => ?_⟩
    have h1 := hc i hi j u hu
    injection he with e1 _ _
    have hb : w'.heap[x.block]? = w.heap[x.block]? := h x.block (by
      rw [e1]
      cases rows with
      | nil => simp at hi
      | cons r rs => simp [footR, footA])
    have h2 : (((x.add (i * k)).add j)).block = x.block := by rw [add_block, add_block]
    unfold World.cell? at h1 ⊢
    rw [h2] at h1 ⊢
    rw [hb]
    exact h1, true⟩
/-- a slice of the call's own, that grows -/
def rA (a : Option Addr) (c e k : Nat) (rows : List (List Value)) : Res := ⟨footA a, fun w => w.ownsRow 0 e k (.slice a rows.length c) rows.length rows.flatten ∧ Wf k rows, fun w w' h hr => by
  refine ⟨⟨hr.1.1, ?_⟩, hr.2⟩
  rcases hr.1.2 with h0 | ⟨g, cap, cur, he, h1, h2, h3⟩
  · exact .inl h0
  · refine .inr ⟨g, cap, cur, he, h1, ?_, h3⟩
    injection he with e1 _ _
    rw [h g (by rw [e1]; simp [footA])]
    exact h2, false⟩
/-- where a slice that is handed out lies: in new memory, or in that of one that came in -/
def From (w : World) (Rs : List Res) (foot : List Nat) : Prop := ∀ q ∈ foot, w.heap.size ≤ q ∨ ∃ r ∈ Rs, r.ro = true ∧ q ∈ r.foot
theorem From.new {w : World} {Rs : List Res} {foot : List Nat} (h : ∀ q ∈ foot, w.heap.size ≤ q) : From w Rs foot := fun q hq => .inl (h q hq)
theorem From.none (w : World) (Rs : List Res) (c k : Nat) (rows : List (List Value)) : From w Rs (rS none c k rows).foot := by
  intro q hq
  cases rows <;> simp [rS, footR, footA] at hq
theorem From.same {w : World} {r : Res} (hr : r.ro = true) (Rs : List Res) (h : r ∈ Rs) : From w Rs r.foot := fun q hq => .inr ⟨r, h, hr, hq⟩
theorem From.emp (w : World) (Rs : List Res) : From w Rs [] := fun q hq => by cases hq
theorem rows_slice {w : World} {v : Value} {k : Nat} {rows : List (List Value)} (h : RowsAt w v k rows) : ∃ a c, v = .slice a rows.length c := by
  rcases h with ⟨rfl, rfl⟩ | ⟨x, c, rfl, _⟩
  · exact ⟨none, 0, rfl⟩
  · exact ⟨_, _, rfl⟩
section
variable {P : Program} {ops : Array Oper} {rest : List Oper} {o : Oper} {act : Act} {w w0 w' : World} {Q : Exit → Act → World → Prop} {S : List Nat} {R : List Res} {ty n k c e by_ t : Nat} {row : Bool} {z : List Value} {a : Option Addr} {rows news : List (List Value)}
theorem rS_lt (h : (rS a c k rows).holds w) (hk : 0 < k) : ∀ q ∈ (rS a c k rows).foot, q < w.heap.size := by
  intro q hq
  cases rows with
  | nil => cases hq
  | cons r rs =>
    rcases h.1 with ⟨_, h0⟩ | ⟨x, c', he, hc⟩
    · cases h0
    · injection he with e1 _ _
      subst e1
      obtain rfl : q = x.block := by simpa [rS, footR, footA] using hq
      have hl := h.2.len r (by simp)
      have h1 := hc 0 (by simp) 0 (r[0]'(by omega)) (by simp)
      have h2 := lt_of_cell h1
      rwa [add_block, add_block] at h2
theorem rA_lt (h : (rA a c e k rows).holds w) : ∀ q ∈ (rA a c e k rows).foot, q < w.heap.size := by
  intro q hq
  have := owns_lt h.1
  rw [own_foot] at this
  exact this q hq
/-- a slice that came in, or that the world held when the call began -/
theorem hp_old (H : Hid (Hp [] w0 w R)) (h : (rS a c k rows).holds w0) (hk : 0 < k) : Hid (Hp [] w0 w (rS a c k rows :: R)) := by
  have hl := rS_lt h hk
  refine Lib.hid (H.out.share _ (Off.refl [] w) ((rS a c k rows).stable w0 w (fun q hq => H.out.off.block q (hl q hq) (by simp)) h) rfl fun q hq => ?_)
  have := hl q hq
  have := H.out.off.size
  exact ⟨by omega, .inr (.inl ⟨by omega, by simp⟩)⟩
/-- a slice that a call handed out -/
theorem hp_got (H : Hid (Hp S w0 w R)) (ho : Off [] w w') {Rs : List Res} (hs : (rS a c k rows).holds w') (hk : 0 < k) (hf : From w Rs (rS a c k rows).foot) (hR : ∀ r ∈ Rs, r ∈ R) : Hid (Hp S w0 w' (rS a c k rows :: R)) := by
  refine Lib.hid (H.out.share _ ho hs rfl fun q hq => ⟨rS_lt hs hk q hq, ?_⟩)
  rcases hf q hq with h | ⟨r, hr, h1, h2⟩
  · exact .inl h
  · exact .inr (.inr ⟨r, hR r hr, h1, h2⟩)
/-- how what this call hands out stands to what came in -/
theorem hp_from (H : Hid (Hp [] w0 w R)) (hm : rA a c e k rows ∈ R) (Rs : List Res) : (rS a c k rows).holds w ∧ From w0 Rs (rS a c k rows).foot := by
  have h := H.out.holds _ hm
  refine ⟨⟨rows_owns h.1 rfl h.2.len, h.2⟩, fun q hq => .inl ?_⟩
  have hq' : q ∈ (rA a c e k rows).foot := by
    cases rows with
    | nil => cases hq
    | cons r rs => exact hq
  have := H.out.newf _ hm rfl q hq'
  simpa using this
theorem hp_held (H : Hid (Hp S w0 w R)) (hm : rS a c k rows ∈ R) : (rS a c k rows).holds w := H.out.holds _ hm
/-- an empty one to grow -/
theorem hp_nil (H : Hid (Hp S w0 w R)) (e k : Nat) : Hid (Hp S w0 w (rA none 0 e k [] :: R)) :=
  Lib.hid (H.out.push _ (Off.refl [] w) ⟨World.ownsRow_nil _ _ _ _, Wf.nil k⟩ (by intro q hq; cases hq))
/-- what grew is only read from now on -/
theorem hp_read (H : Hid (Hp S w0 w R)) (i : Nat) (hi : R[i]? = some (rA a c e k rows)) : Hid (Hp S w0 w (R.set i (rS a c k rows))) := by
  have h := H.out.at i hi
  refine Lib.hid (H.out.step i hi (rS a c k rows) (Off.refl [] w) (by simp) ⟨rows_owns h.1 rfl h.2.len, h.2⟩ fun q hq => ?_)
  have hq' : q ∈ (rA a c e k rows).foot := by
    cases rows with
    | nil => cases hq
    | cons r rs => exact hq
  exact ⟨.inl hq', rA_lt h q hq'⟩
/-- a block with one row, as a slice -/
theorem hp_single (H : Hid (Hp S w0 w R)) {b : Nat} {cs : List Value} (hm : rB b e cs ∈ R) (hk : cs.length = k) (h1 : ∀ u ∈ cs, u.oneCell' = true) : (rS (some ⟨b, 0, none⟩) 1 k [cs]).holds w := by
  have hb : Blk w b cs.toArray e := H.out.holds _ hm
  refine ⟨.inr ⟨⟨b, 0, none⟩, 1, rfl, fun i hi j u hu => ?_⟩, fun r hr => ?_⟩
  · obtain rfl : i = 0 := by simpa using hi
    have := rows_one (cs := cs) hb j u hu
    simpa [Addr.add] using this
  · obtain rfl : r = cs := by simpa using hr
    exact ⟨hk, h1⟩
/-- append -/
theorem hp_append (E : ElI P t e k by_) (H : Hid (Hp S w0 w R)) {s x : Operand} (ho : o.op = .call { callee := .builtin .append, args := #[s, x], argTypes := #[t, t] }) (hgd : o.guard = none) (i : Nat) (hi : R[i]? = some (rA a c e k rows))
    (hs : act.eval s = .slice a n c) (hn : n = rows.length) {a2 : Option Addr} {n2 c2 : Nat} (hx : act.eval x = .slice a2 n2 c2) (hn2 : n2 = news.length) (hv : (rS a2 c2 k news).holds w) (hb : rows.length + news.length ≤ 1048576) (hby : by_ ≤ 65536)
    (h : ∀ w' a' c', Hid (Hp S w0 w' (R.set i (rA a' c' e k (rows ++ news)))) → wpList P ops Q rest (act.put o.dst (.slice a' (rows ++ news).length c')) w') : wpList P ops Q (o :: rest) act w := by
  subst hn
  subst hn2
  obtain ⟨j, z, h1, h2, h3, h4, h5⟩ := E.info
  have hr := H.out.at i hi
  have hmul : (rows.length + news.length) * by_ ≤ 1048576 * 65536 := Nat.mul_le_mul hb hby
  refine wpList_append_rows w hgd s x t ho 0 e j z k by_ E.und h1 h2 h3 h4 h5 E.pos _ rows.length rows.flatten hs hr.1 _ news hx hv.1 hv.2.len hv.2.one (by unfold maxLen; omega) (by omega) (Nat.zero_le _) fun v' w' hown hgr hgoes => ?_
  obtain ⟨a', c', rfl⟩ := own_form hown
  have hl : rows.length + news.length = (rows ++ news).length := by simp
  rw [hl] at hown hgoes ⊢
  refine h w' a' c' (Lib.hid (H.out.step i hi (rA a' c' e k (rows ++ news)) (off_grown hgr) (by intro q hq; rwa [own_foot] at hq) ⟨by simpa using hown, hr.2.app hv.2⟩ fun q hq => ⟨?_, ?_⟩))
  · rcases hgoes with h6 | ⟨g, h6, h7⟩
    · left
      have : q ∈ (Value.slice a' (rows ++ news).length c').ownBlock.toList := by rw [own_foot]; exact hq
      rw [h6, own_foot] at this
      exact this
    · right
      have : q ∈ (Value.slice a' (rows ++ news).length c').ownBlock.toList := by rw [own_foot]; exact hq
      rw [h6] at this
      obtain rfl : q = g := by simpa using this
      exact h7
  · have := owns_lt hown
    rw [own_foot] at this
    exact this q hq
/-- the cells of one row -/
theorem hp_row (H : Hid (Hp S w0 w R)) {x : Addr} (hm : rS (some x) c k rows ∈ R) {i : Nat} {r : List Value} (hi : rows[i]? = some r) : CellsAt w (x.add (i * k)) r ∧ r.length = k := by
  have h := H.out.holds _ hm
  obtain ⟨hlt, rfl⟩ := List.getElem?_eq_some_iff.1 hi
  rcases h.1 with ⟨_, h0⟩ | ⟨y, c', he, hc⟩
  · rw [h0] at hlt
    simp at hlt
  · injection he with e1 _ _
    injection e1 with e1
    subst e1
    exact ⟨hc i hlt, h.2.len _ (List.getElem_mem hlt)⟩
theorem run_loadVar_at (p : Addr) (cs : List Value) (T : TyI P ty k true z) (hk : cs.length = k) (h : CellsAt w p cs) : (loadVar ty p).run P w = .ok (.agg cs.toArray) w := by
  have hl : (loadCells p cs.length).run P w = .ok cs.toArray w := run_loadCells_list (P := P) w p cs h
  have hr := T.isRow
  have hz := T.size
  cases hu : P.underlying ty with
  | none => simp [hu] at hr
  | some d =>
    cases hq : P.info? ty with
    | none => simp [hq] at hz
    | some i =>
      have hs : i.size = cs.length := by rw [hk]; simpa [hq] using hz
      have hd : d.isRow = true := by simpa [hu] using hr
      have hagg : (isAgg ty).run P w = .ok true w := by
        unfold isAgg
        rw [Sem.run_bind, run_underlying hu w]
        cases d <;> simp_all
      simp [loadVar, Sem.run_bind, hagg, sizeOf, typeInfo, hq, hs, hl]
theorem run_loadVar_at1 (p : Addr) (v : Value) (T : TyI P ty 1 false z) (h : w.cell? p = some v) : (loadVar ty p).run P w = .ok v w := by
  have hr := T.isRow
  cases hu : P.underlying ty with
  | none => simp [hu] at hr
  | some d =>
    have hd : d.isRow = false := by simpa [hu] using hr
    have hagg : (isAgg ty).run P w = .ok false w := by
      unfold isAgg
      rw [Sem.run_bind, run_underlying hu w]
      cases d <;> simp_all
    unfold loadVar
    rw [Sem.run_bind, hagg]
    simp [h]
/-- an element of a slice is read -/
theorem hpS_load (T : TyI P ty k true z) (H : Hid (Hp S w0 w R)) {x : Operand} (ho : o.op = .load ty x) {p : Addr} (hx : act.eval x = .pointer (some p)) (hw : Region.wanted o (yielded ops act.tmps) = true) {y : Addr} (hm : rS (some y) c k rows ∈ R) {i : Nat} {r : List Value} (hi : rows[i]? = some r) (hp : p = y.add (i * k))
    (h : wpList P ops Q rest (act.put o.dst (.agg r.toArray)) w) : wpList P ops Q (o :: rest) act w := by
  subst hp
  have hr := hp_row H hm hi
  refine wpList_step fun K hK => ?_
  rw [if_pos hw]
  unfold Oper.wp execOp
  simp only [ho, hx, Instr.loadAt, Instr.sureAddr, Sem.run_bind, Sem.run_pure, Result.andThen_ok, run_loadVar_at (P := P) _ r T hr.2 hr.1]
  exact hK _ _ h
/-- a cell of an element of a slice is read -/
theorem hpS_load1 (j : Nat) (T : TyI P ty 1 false z) (H : Hid (Hp S w0 w R)) {x : Operand} (ho : o.op = .load ty x) {p : Addr} (hx : act.eval x = .pointer (some p)) (hw : Region.wanted o (yielded ops act.tmps) = true) {y : Addr} (hm : rS (some y) c k rows ∈ R) {i : Nat} {r : List Value} (hi : rows[i]? = some r) {v : Value} (hj : r[j]? = some v) (hp : p = (y.add (i * k)).add j)
    (h : wpList P ops Q rest (act.put o.dst v) w) : wpList P ops Q (o :: rest) act w := by
  subst hp
  have hr := (hp_row H hm hi).1 j v hj
  refine wpList_step fun K hK => ?_
  rw [if_pos hw]
  unfold Oper.wp execOp
  simp only [ho, hx, Instr.loadAt, Instr.sureAddr, Sem.run_bind, Sem.run_pure, Result.andThen_ok, run_loadVar_at1 (P := P) _ v T hr]
  exact hK _ _ h
/-- a part of an element of a slice is read -/
theorem hpS_loadk (j : Nat) {m : Nat} (T : TyI P ty m true z) (H : Hid (Hp S w0 w R)) {x : Operand} (ho : o.op = .load ty x) {p : Addr} (hx : act.eval x = .pointer (some p)) (hw : Region.wanted o (yielded ops act.tmps) = true) {y : Addr} (hm : rS (some y) c k rows ∈ R) {i : Nat} {r : List Value} (hi : rows[i]? = some r) {vs : List Value} (hv : (r.drop j).take m = vs) (hl : vs.length = m) (hp : p = (y.add (i * k)).add j)
    (h : wpList P ops Q rest (act.put o.dst (.agg vs.toArray)) w) : wpList P ops Q (o :: rest) act w := by
  subst hp
  have hr := hp_row H hm hi
  have hc : CellsAt w ((y.add (i * k)).add j) vs := by
    intro q u hu
    rw [Deep.add_add]
    refine hr.1 (j + q) u ?_
    rw [← hv, List.getElem?_take] at hu
    split at hu
    · rwa [List.getElem?_drop] at hu
    · cases hu
  refine wpList_step fun K hK => ?_
  rw [if_pos hw]
  unfold Oper.wp execOp
  simp only [ho, hx, Instr.loadAt, Instr.sureAddr, Sem.run_bind, Sem.run_pure, Result.andThen_ok, run_loadVar_at (P := P) _ vs T hl hc]
  exact hK _ _ h
theorem some_of_row (h : (rS a c k rows).holds w) {i : Nat} (hi : i < rows.length) : ∃ x, a = some x := by
  rcases h.1 with ⟨_, h0⟩ | ⟨y, c', he, _⟩
  · rw [h0] at hi
    simp at hi
  · injection he with e1 _ _
    exact ⟨y, e1⟩
end
end Go.Proofs.Ythflkhalipkdgaa.Mem
