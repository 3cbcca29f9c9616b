/- Sl Sl2 Reg RegH RegK RegS -/
import Derived.Test.YtnanihffljpdbaaProg
import Derived.Below
import Derived.WalkKit
import Derived.KernelRfl
import Derived.RowKit3
import Derived.Deep.LoopGhost
import Derived.Deep.QuietTactic
import Derived.BigQuiet
import Derived.WideLaws
import Derived.Deep.DeepCutAuto
import Derived.Deep.CutBlock
import Derived.Lib.Hide
import Derived.Laws.BitsLemmas
import Derived.Laws.Bits64
import Derived.Laws.BitsAllLaws
import Derived.IntWalk
import Derived.Outline
import Derived.WalkSpells
import Derived.Test.YtnanihffljpdbaaGA
import Derived.Shelf.Spec.SlicesInsertGrow
import Derived.Test.YtnanihffljpdbaaGI
/- Slices of structs in memory as things of a list: read ones, growing ones; copy and clear of rows. -/
namespace Go.Proofs.Ytnanihffljpdbaa.Mem
set_option linter.unusedVariables false
set_option linter.unusedSimpArgs false
open Go.RowKit

section
variable {P : Program}
theorem run_copy_k (w : World) (dT sT ty elem : TypeId) (size b o dLen dCap : Nat) (a : Addr) (sLen sCap : Nat) (cs : List Value)
    (hu : P.underlying dT = some (.slice elem)) (hs : (P.info? elem).map (·.size) = some size) (hn : cs.length = Nat.min sLen dLen * size)
    (hsrc : ∀ j v, cs[j]? = some v → w.cell? (a.add j) = some v) (hc : ∀ j, j < cs.length → (w.cell? ⟨b, o + j, none⟩).isSome = true) (hf : ∀ j, j < cs.length → w.frozen? ⟨b, o + j, none⟩ = false) (h1 : ∀ v ∈ cs, v.oneCell' = true) :
    (Builtin.copy_ #[dT, sT] ty #[.slice (some ⟨b, o, none⟩) dLen dCap, .slice (some a) sLen sCap]).run P w = .ok (goInt (Nat.min sLen dLen)) (w.setCells b o cs) := by
  have hl := run_loadCells_list (P := P) w a cs hsrc
  have hst := run_storeCells_cells (P := P) b o cs 0 w (by simpa using hc) (by simpa using hf) h1
  cases hq : P.info? elem with
  | none => simp [hq] at hs
  | some i =>
    have hi : i.size = size := by simpa [hq] using hs
    simp only [Nat.add_zero] at hst
    simp [Builtin.copy_, run_underlying hu, Builtin.lenOf, Builtin.firstCells, sizeOf, typeInfo, hq, hi, ← hn, hl, hst]
theorem run_clear_k {n : Nat} (w : World) (t e ty : TypeId) (z : Value) (ht : P.underlying t = some (.slice e)) (hv : ∀ w, (zeroValue e).run P w = .ok z w) (h1 : ∀ v ∈ (Builtin.zeroCells z.cells n).toList, v.oneCell' = true) (b o c : Nat) (hn : 0 < n)
    (hc : ∀ j, j < (Builtin.zeroCells z.cells n).toList.length → (w.cell? ⟨b, o + j, none⟩).isSome = true) (hf : ∀ j, j < (Builtin.zeroCells z.cells n).toList.length → w.frozen? ⟨b, o + j, none⟩ = false) :
    (Builtin.clear_ #[t] ty #[.slice (some ⟨b, o, none⟩) n c]).run P w = .ok (.tuple #[]) (w.setCells b o (Builtin.zeroCells z.cells n).toList) := by
  have hst := run_storeCells_cells (P := P) b o (Builtin.zeroCells z.cells n).toList 0 w (by simpa using hc) (by simpa using hf) h1
  simp only [Nat.add_zero] at hst
  obtain ⟨m, rfl⟩ : ∃ m, n = m + 1 := ⟨n - 1, by omega⟩
  simp [Builtin.clear_, run_underlying ht, hv, hst]
end
/-- what is to be known of a slice's type: its element, how many cells, how many bytes -/
structure ElI (P : Program) (t e k by_ : Nat) : Prop where
  und : P.underlying t = some (.slice e)
  info : ∃ i z, P.info? e = some i ∧ i.zero = some z ∧ i.size = k ∧ i.bytes = by_ ∧ z.cells.size = k
  pos : 0 < k
/-- rows are of so many cells each, of one cell's values -/
def Wf (k : Nat) (rows : List (List Value)) : Prop := ∀ r ∈ rows, r.length = k ∧ ∀ u ∈ r, u.oneCell' = true
theorem Wf.len {k : Nat} {rows : List (List Value)} (h : Wf k rows) : ∀ r ∈ rows, r.length = k := fun r hr => (h r hr).1
theorem Wf.one {k : Nat} {rows : List (List Value)} (h : Wf k rows) : ∀ r ∈ rows, ∀ u ∈ r, u.oneCell' = true := fun r hr => (h r hr).2
theorem Wf.nil (k : Nat) : Wf k [] := by intro r hr; cases hr
theorem Wf.app {k : Nat} {a b : List (List Value)} (ha : Wf k a) (hb : Wf k b) : Wf k (a ++ b) := by
  intro r hr
  rcases List.mem_append.1 hr with h | h
  · exact ha r h
  · exact hb r h
theorem Wf.sub {k : Nat} {a b : List (List Value)} (hb : Wf k b) (h : ∀ r ∈ a, r ∈ b) : Wf k a := fun r hr => hb r (h r hr)
def footA (a : Option Addr) : List Nat := (a.map (·.block)).toList
def footR (a : Option Addr) : List (List Value) → List Nat
  | [] => []
  | _ :: _ => footA a
theorem own_foot (a : Option Addr) (n c : Nat) : (Value.slice a n c).ownBlock.toList = footA a := by cases a <;> rfl
/-- a slice that is read -/
def rS (a : Option Addr) (c k : Nat) (rows : List (List Value)) : Res := ⟨footR a rows, fun w => RowsAt w (.slice a rows.length c) k rows ∧ Wf k rows, fun w w' h hr => by
  refine ⟨?_, hr.2⟩
  rcases hr.1 with h0 | ⟨x, c', he, hc⟩
  · exact .inl h0
  · refine .inr ⟨x, c', he, fun i hi j u hu => ?_⟩
    have h1 := hc i hi j u hu
    injection he with e1 _ _
    have hb : w'.heap[x.block]? = w.heap[x.block]? := h x.block (by
      rw [e1]
      cases rows with
      | nil => simp at hi
      | cons r rs => simp [footR, footA])
    have h2 : (((x.add (i * k)).add j)).block = x.block := by rw [add_block, add_block]
    unfold World.cell? at h1 ⊢
    rw [h2] at h1 ⊢
    rw [hb]
    exact h1, true⟩
/-- a slice of the call's own, that grows -/
def rA (a : Option Addr) (c e k : Nat) (rows : List (List Value)) : Res := ⟨footA a, fun w => w.ownsRow 0 e k (.slice a rows.length c) rows.length rows.flatten ∧ Wf k rows, fun w w' h hr => by
  refine ⟨⟨hr.1.1, ?_⟩, hr.2⟩
  rcases hr.1.2 with h0 | ⟨g, cap, cur, he, h1, h2, h3⟩
  · exact .inl h0
  · refine .inr ⟨g, cap, cur, he, h1, ?_, h3⟩
    injection he with e1 _ _
    rw [h g (by rw [e1]; simp [footA])]
    exact h2, false⟩
/-- where a slice that is handed out lies: in new memory, or in that of one that came in -/
def From (w : World) (Rs : List Res) (foot : List Nat) : Prop := ∀ q ∈ foot, w.heap.size ≤ q ∨ ∃ r ∈ Rs, r.ro = true ∧ q ∈ r.foot
theorem From.new {w : World} {Rs : List Res} {foot : List Nat} (h : ∀ q ∈ foot, w.heap.size ≤ q) : From w Rs foot := fun q hq => .inl (h q hq)
theorem From.none (w : World) (Rs : List Res) (c k : Nat) (rows : List (List Value)) : From w Rs (rS none c k rows).foot := by
  intro q hq
  cases rows <;> simp [rS, footR, footA] at hq
theorem From.same {w : World} {r : Res} (hr : r.ro = true) (Rs : List Res) (h : r ∈ Rs) : From w Rs r.foot := fun q hq => .inr ⟨r, h, hr, hq⟩
theorem From.emp (w : World) (Rs : List Res) : From w Rs [] := fun q hq => by cases hq
theorem rows_slice {w : World} {v : Value} {k : Nat} {rows : List (List Value)} (h : RowsAt w v k rows) : ∃ a c, v = .slice a rows.length c := by
  rcases h with ⟨rfl, rfl⟩ | ⟨x, c, rfl, _⟩
  · exact ⟨none, 0, rfl⟩
  · exact ⟨_, _, rfl⟩
section
variable {P : Program} {ops : Array Oper} {rest : List Oper} {o : Oper} {act : Act} {w w0 w' : World} {Q : Exit → Act → World → Prop} {S : List Nat} {R : List Res} {ty n k c e by_ t : Nat} {row : Bool} {z : List Value} {a : Option Addr} {rows news : List (List Value)}
theorem rS_lt (h : (rS a c k rows).holds w) (hk : 0 < k) : ∀ q ∈ (rS a c k rows).foot, q < w.heap.size := by
  intro q hq
  cases rows with
  | nil => cases hq
  | cons r rs =>
    rcases h.1 with ⟨_, h0⟩ | ⟨x, c', he, hc⟩
    · cases h0
    · injection he with e1 _ _
      subst e1
      obtain rfl : q = x.block := by simpa [rS, footR, footA] using hq
      have hl := h.2.len r (by simp)
      have h1 := hc 0 (by simp) 0 (r[0]'(by omega)) (by simp)
      have h2 := lt_of_cell h1
      rwa [add_block, add_block] at h2
theorem rA_lt (h : (rA a c e k rows).holds w) : ∀ q ∈ (rA a c e k rows).foot, q < w.heap.size := by
  intro q hq
  have := owns_lt h.1
  rw [own_foot] at this
  exact this q hq
/-- a slice that came in, or that the world held when the call began -/
theorem hp_old (H : Hid (Hp [] w0 w R)) (h : (rS a c k rows).holds w0) (hk : 0 < k) : Hid (Hp [] w0 w (rS a c k rows :: R)) := by
  have hl := rS_lt h hk
  refine Lib.hid (H.out.share _ (Off.refl [] w) ((rS a c k rows).stable w0 w (fun q hq => H.out.off.block q (hl q hq) (by simp)) h) rfl fun q hq => ?_)
  have := hl q hq
  have := H.out.off.size
  exact ⟨by omega, .inr (.inl ⟨by omega, by simp⟩)⟩
/-- a slice that a call handed out -/
theorem hp_got (H : Hid (Hp S w0 w R)) (ho : Off [] w w') {Rs : List Res} (hs : (rS a c k rows).holds w') (hk : 0 < k) (hf : From w Rs (rS a c k rows).foot) (hR : ∀ r ∈ Rs, r ∈ R) : Hid (Hp S w0 w' (rS a c k rows :: R)) := by
  refine Lib.hid (H.out.share _ ho hs rfl fun q hq => ⟨rS_lt hs hk q hq, ?_⟩)
  rcases hf q hq with h | ⟨r, hr, h1, h2⟩
  · exact .inl h
  · exact .inr (.inr ⟨r, hR r hr, h1, h2⟩)
/-- how what this call hands out stands to what came in -/
theorem hp_from (H : Hid (Hp [] w0 w R)) (hm : rA a c e k rows ∈ R) (Rs : List Res) : (rS a c k rows).holds w ∧ From w0 Rs (rS a c k rows).foot := by
  have h := H.out.holds _ hm
  refine ⟨⟨rows_owns h.1 rfl h.2.len, h.2⟩, fun q hq => .inl ?_⟩
  have hq' : q ∈ (rA a c e k rows).foot := by
    cases rows with
    | nil => cases hq
    | cons r rs => exact hq
  have := H.out.newf _ hm rfl q hq'
  simpa using this
theorem hp_held (H : Hid (Hp S w0 w R)) (hm : rS a c k rows ∈ R) : (rS a c k rows).holds w := H.out.holds _ hm
/-- an empty one to grow -/
theorem hp_nil (H : Hid (Hp S w0 w R)) (e k : Nat) : Hid (Hp S w0 w (rA none 0 e k [] :: R)) :=
  Lib.hid (H.out.push _ (Off.refl [] w) ⟨World.ownsRow_nil _ _ _ _, Wf.nil k⟩ (by intro q hq; cases hq))
/-- what grew is only read from now on -/
theorem hp_read (H : Hid (Hp S w0 w R)) (i : Nat) (hi : R[i]? = some (rA a c e k rows)) : Hid (Hp S w0 w (R.set i (rS a c k rows))) := by
  have h := H.out.at i hi
  refine Lib.hid (H.out.step i hi (rS a c k rows) (Off.refl [] w) (by simp) ⟨rows_owns h.1 rfl h.2.len, h.2⟩ fun q hq => ?_)
  have hq' : q ∈ (rA a c e k rows).foot := by
    cases rows with
    | nil => cases hq
    | cons r rs => exact hq
  exact ⟨.inl hq', rA_lt h q hq'⟩
/-- a block with one row, as a slice -/
theorem hp_single (H : Hid (Hp S w0 w R)) {b : Nat} {cs : List Value} (hm : rB b e cs ∈ R) (hk : cs.length = k) (h1 : ∀ u ∈ cs, u.oneCell' = true) : (rS (some ⟨b, 0, none⟩) 1 k [cs]).holds w := by
  have hb : Blk w b cs.toArray e := H.out.holds _ hm
  refine ⟨.inr ⟨⟨b, 0, none⟩, 1, rfl, fun i hi j u hu => ?_⟩, fun r hr => ?_⟩
  · obtain rfl : i = 0 := by simpa using hi
    have := rows_one (cs := cs) hb j u hu
    simpa [Addr.add] using this
  · obtain rfl : r = cs := by simpa using hr
    exact ⟨hk, h1⟩
/-- append -/
theorem hp_append (E : ElI P t e k by_) (H : Hid (Hp S w0 w R)) {s x : Operand} (ho : o.op = .call { callee := .builtin .append, args := #[s, x], argTypes := #[t, t] }) (hgd : o.guard = none) (i : Nat) (hi : R[i]? = some (rA a c e k rows))
    (hs : act.eval s = .slice a n c) (hn : n = rows.length) {a2 : Option Addr} {n2 c2 : Nat} (hx : act.eval x = .slice a2 n2 c2) (hn2 : n2 = news.length) (hv : (rS a2 c2 k news).holds w) (hb : rows.length + news.length ≤ 1048576) (hby : by_ ≤ 65536)
    (h : ∀ w' a' c', Hid (Hp S w0 w' (R.set i (rA a' c' e k (rows ++ news)))) → wpList P ops Q rest (act.put o.dst (.slice a' (rows ++ news).length c')) w') : wpList P ops Q (o :: rest) act w := by
  subst hn
  subst hn2
  obtain ⟨j, z, h1, h2, h3, h4, h5⟩ := E.info
  have hr := H.out.at i hi
  have hmul : (rows.length + news.length) * by_ ≤ 1048576 * 65536 := Nat.mul_le_mul hb hby
  refine wpList_append_rows w hgd s x t ho 0 e j z k by_ E.und h1 h2 h3 h4 h5 E.pos _ rows.length rows.flatten hs hr.1 _ news hx hv.1 hv.2.len hv.2.one (by unfold maxLen; omega) (by omega) (Nat.zero_le _) fun v' w' hown hgr hgoes => ?_
  obtain ⟨a', c', rfl⟩ := own_form hown
  have hl : rows.length + news.length = (rows ++ news).length := by simp
  rw [hl] at hown hgoes ⊢
  refine h w' a' c' (Lib.hid (H.out.step i hi (rA a' c' e k (rows ++ news)) (off_grown hgr) (by intro q hq; rwa [own_foot] at hq) ⟨by simpa using hown, hr.2.app hv.2⟩ fun q hq => ⟨?_, ?_⟩))
  · rcases hgoes with h6 | ⟨g, h6, h7⟩
    · left
      have : q ∈ (Value.slice a' (rows ++ news).length c').ownBlock.toList := by rw [own_foot]; exact hq
      rw [h6, own_foot] at this
      exact this
    · right
      have : q ∈ (Value.slice a' (rows ++ news).length c').ownBlock.toList := by rw [own_foot]; exact hq
      rw [h6] at this
      obtain rfl : q = g := by simpa using this
      exact h7
  · have := owns_lt hown
    rw [own_foot] at this
    exact this q hq
/-- the cells of one row -/
theorem hp_row (H : Hid (Hp S w0 w R)) {x : Addr} (hm : rS (some x) c k rows ∈ R) {i : Nat} {r : List Value} (hi : rows[i]? = some r) : CellsAt w (x.add (i * k)) r ∧ r.length = k := by
  have h := H.out.holds _ hm
  obtain ⟨hlt, rfl⟩ := List.getElem?_eq_some_iff.1 hi
  rcases h.1 with ⟨_, h0⟩ | ⟨y, c', he, hc⟩
  · rw [h0] at hlt
    simp at hlt
  · injection he with e1 _ _
    injection e1 with e1
    subst e1
    exact ⟨hc i hlt, h.2.len _ (List.getElem_mem hlt)⟩
theorem run_loadVar_at (p : Addr) (cs : List Value) (T : TyI P ty k true z) (hk : cs.length = k) (h : CellsAt w p cs) : (loadVar ty p).run P w = .ok (.agg cs.toArray) w := by
  have hl : (loadCells p cs.length).run P w = .ok cs.toArray w := run_loadCells_list (P := P) w p cs h
  have hr := T.isRow
  have hz := T.size
  cases hu : P.underlying ty with
  | none => simp [hu] at hr
  | some d =>
    cases hq : P.info? ty with
    | none => simp [hq] at hz
    | some i =>
      have hs : i.size = cs.length := by rw [hk]; simpa [hq] using hz
      have hd : d.isRow = true := by simpa [hu] using hr
      have hagg : (isAgg ty).run P w = .ok true w := by
        unfold isAgg
        rw [Sem.run_bind, run_underlying hu w]
        cases d <;> simp_all
      simp [loadVar, Sem.run_bind, hagg, sizeOf, typeInfo, hq, hs, hl]
theorem run_loadVar_at1 (p : Addr) (v : Value) (T : TyI P ty 1 false z) (h : w.cell? p = some v) : (loadVar ty p).run P w = .ok v w := by
  have hr := T.isRow
  cases hu : P.underlying ty with
  | none => simp [hu] at hr
  | some d =>
    have hd : d.isRow = false := by simpa [hu] using hr
    have hagg : (isAgg ty).run P w = .ok false w := by
      unfold isAgg
      rw [Sem.run_bind, run_underlying hu w]
      cases d <;> simp_all
    unfold loadVar
    rw [Sem.run_bind, hagg]
    simp [h]
/-- an element of a slice is read -/
theorem hpS_load (T : TyI P ty k true z) (H : Hid (Hp S w0 w R)) {x : Operand} (ho : o.op = .load ty x) {p : Addr} (hx : act.eval x = .pointer (some p)) (hw : Region.wanted o (yielded ops act.tmps) = true) {y : Addr} (hm : rS (some y) c k rows ∈ R) {i : Nat} {r : List Value} (hi : rows[i]? = some r) (hp : p = y.add (i * k))
    (h : wpList P ops Q rest (act.put o.dst (.agg r.toArray)) w) : wpList P ops Q (o :: rest) act w := by
  subst hp
  have hr := hp_row H hm hi
  refine wpList_step fun K hK => ?_
  rw [if_pos hw]
  unfold Oper.wp execOp
  simp only [ho, hx, Instr.loadAt, Instr.sureAddr, Sem.run_bind, Sem.run_pure, Result.andThen_ok, run_loadVar_at (P := P) _ r T hr.2 hr.1]
  exact hK _ _ h
/-- a cell of an element of a slice is read -/
theorem hpS_load1 (j : Nat) (T : TyI P ty 1 false z) (H : Hid (Hp S w0 w R)) {x : Operand} (ho : o.op = .load ty x) {p : Addr} (hx : act.eval x = .pointer (some p)) (hw : Region.wanted o (yielded ops act.tmps) = true) {y : Addr} (hm : rS (some y) c k rows ∈ R) {i : Nat} {r : List Value} (hi : rows[i]? = some r) {v : Value} (hj : r[j]? = some v) (hp : p = (y.add (i * k)).add j)
    (h : wpList P ops Q rest (act.put o.dst v) w) : wpList P ops Q (o :: rest) act w := by
  subst hp
  have hr := (hp_row H hm hi).1 j v hj
  refine wpList_step fun K hK => ?_
  rw [if_pos hw]
  unfold Oper.wp execOp
  simp only [ho, hx, Instr.loadAt, Instr.sureAddr, Sem.run_bind, Sem.run_pure, Result.andThen_ok, run_loadVar_at1 (P := P) _ v T hr]
  exact hK _ _ h
/-- a part of an element of a slice is read -/
theorem hpS_loadk (j : Nat) {m : Nat} (T : TyI P ty m true z) (H : Hid (Hp S w0 w R)) {x : Operand} (ho : o.op = .load ty x) {p : Addr} (hx : act.eval x = .pointer (some p)) (hw : Region.wanted o (yielded ops act.tmps) = true) {y : Addr} (hm : rS (some y) c k rows ∈ R) {i : Nat} {r : List Value} (hi : rows[i]? = some r) {vs : List Value} (hv : (r.drop j).take m = vs) (hl : vs.length = m) (hp : p = (y.add (i * k)).add j)
    (h : wpList P ops Q rest (act.put o.dst (.agg vs.toArray)) w) : wpList P ops Q (o :: rest) act w := by
  subst hp
  have hr := hp_row H hm hi
  have hc : CellsAt w ((y.add (i * k)).add j) vs := by
    intro q u hu
    rw [Deep.add_add]
    refine hr.1 (j + q) u ?_
    rw [← hv, List.getElem?_take] at hu
    split at hu
    · rwa [List.getElem?_drop] at hu
    · cases hu
  refine wpList_step fun K hK => ?_
  rw [if_pos hw]
  unfold Oper.wp execOp
  simp only [ho, hx, Instr.loadAt, Instr.sureAddr, Sem.run_bind, Sem.run_pure, Result.andThen_ok, run_loadVar_at (P := P) _ vs T hl hc]
  exact hK _ _ h
theorem some_of_row (h : (rS a c k rows).holds w) {i : Nat} (hi : i < rows.length) : ∃ x, a = some x := by
  rcases h.1 with ⟨_, h0⟩ | ⟨y, c', he, _⟩
  · rw [h0] at hi
    simp at hi
  · injection he with e1 _ _
    exact ⟨y, e1⟩
end
end Go.Proofs.Ytnanihffljpdbaa.Mem

/- Slices of structs: more steps; lists that are written in the middle. -/
namespace Go.Proofs.Ytnanihffljpdbaa.Mem
set_option linter.unusedVariables false
set_option linter.unusedSimpArgs false
open Go.RowKit

theorem ElI.of {P : Program} {t e k by_ : Nat} (h1 : P.underlying t = some (.slice e)) (h2 : ((P.info? e).bind fun i => i.zero.map fun z => (i.size, i.bytes, z.cells.size)) = some (k, by_, k)) (h3 : 0 < k) : ElI P t e k by_ := by
  refine ⟨h1, ?_, h3⟩
  cases hi : P.info? e with
  | none => simp [hi] at h2
  | some i =>
    cases hz : i.zero with
    | none => simp [hi, hz] at h2
    | some z =>
      simp [hi, hz] at h2
      exact ⟨i, z, rfl, hz, h2.1, h2.2.1, h2.2.2⟩
section
variable {P : Program} {ops : Array Oper} {rest : List Oper} {o : Oper} {act : Act} {w w0 w' : World} {Q : Exit → Act → World → Prop} {S : List Nat} {R : List Res} {ty n k c e by_ t : Nat} {row : Bool} {z : List Value} {a : Option Addr} {rows news : List (List Value)}
theorem run_equalIn_func_nil {P : Program} (w : World) (d : Nat) (t : TypeId) {xs ys : Array TypeId} {b : Bool} (h : P.underlying t = some (.func xs ys b)) (f : Fn) (u v : Array Value) : (Op.equalIn (d + 1) t (.func f u v) .nilFunc).run P w = .ok false w := by
  simp [Op.equalIn, run_underlying h]
theorem run_equalIn_nil_nil {P : Program} (w : World) (d : Nat) (t : TypeId) {xs ys : Array TypeId} {b : Bool} (h : P.underlying t = some (.func xs ys b)) : (Op.equalIn (d + 1) t .nilFunc .nilFunc).run P w = .ok true w := by
  simp [Op.equalIn, run_underlying h]
theorem eql_fn_nil {P : Program} (w : World) (t : TypeId) {xs ys : Array TypeId} {b : Bool} (h : P.underlying t = some (.func xs ys b)) (f : Fn) (u v : Array Value) : (binOp .eql t (.func f u v) .nilFunc).run P w = .ok (.bool false) w := by
  simp only [binOp]
  simp [Op.equal, Op.maxDepth, run_equalIn_func_nil w 9999 t h]
theorem eql_nilnil_fn {P : Program} (w : World) (t : TypeId) {xs ys : Array TypeId} {b : Bool} (h : P.underlying t = some (.func xs ys b)) : (binOp .eql t .nilFunc .nilFunc).run P w = .ok (.bool true) w := by
  simp only [binOp]
  simp [Op.equal, Op.maxDepth, run_equalIn_nil_nil w 9999 t h]
theorem zero_cells_length (cs : Array Value) (n : Nat) : (Builtin.zeroCells cs n).toList.length = n * cs.size := by
  simp [Builtin.zeroCells, Nat.mul_comm]
/-- an empty slice literal -/
theorem hp_bslice0 (E : ElI P t e k by_) (H : Hid (Hp S w0 w R)) (ho : o.op = .buildSlice t 0 #[]) (hw : Region.wanted o (yielded ops act.tmps) = true)
    (h : ∀ w' b, Hid (Hp S w0 w' (rA (some ⟨b, 0, none⟩) 0 e k [] :: R)) → wpList P ops Q rest (act.put o.dst (.slice (some ⟨b, 0, none⟩) 0 0)) w') : wpList P ops Q (o :: rest) act w := by
  obtain ⟨j, z, h1, h2, h3, h4, h5⟩ := E.info
  refine wpList_step fun K hK => ?_
  rw [if_pos hw]
  have e1 : (Instr.buildSlice t 0 #[]).run P w = .ok (.slice (some ⟨w.heap.size, 0, none⟩) 0 0) (w.alloc (.cells #[] e)) := by
    unfold Instr.buildSlice
    rw [Sem.run_bind, run_underlying E.und w]
    simp [sizeOf, typeInfo, h1, Instr.fill, newRow]
    congr 2
    exact Array.eq_empty_of_size_eq_zero (by simp)
  unfold Oper.wp execOp
  simp only [ho, Sem.run_bind, Sem.run_pure, Result.andThen_ok, List.map_toArray, List.map_nil]
  rw [e1]
  refine hK _ _ (h _ w.heap.size (Lib.hid (H.out.push _ ((Off.refl _ _).alloc _) ⟨own_made w _ rfl e k, Wf.nil k⟩ ?_)))
  intro q hq
  obtain rfl : q = w.heap.size := by simpa [rA, footA] using hq
  exact ⟨Nat.le_refl _, by show w.heap.size < (w.heap.push _).size; rw [Array.size_push]; omega⟩
theorem hp_gotA (H : Hid (Hp S w0 w R)) (ho : Off [] w w') (hs : (rA a c e k rows).holds w') (hf : ∀ q ∈ footA a, w.heap.size ≤ q) : Hid (Hp S w0 w' (rA a c e k rows :: R)) :=
  Lib.hid (H.out.push _ ho hs fun q hq => ⟨hf q hq, rA_lt hs q hq⟩)
theorem hp_giveA (H : Hid (Hp [] w0 w R)) (hm : rA a c e k rows ∈ R) : (rA a c e k rows).holds w ∧ (∀ q ∈ footA a, w0.heap.size ≤ q) ∧ Off [] w0 w :=
  ⟨H.out.holds _ hm, fun q hq => by simpa using H.out.newf _ hm rfl q hq, H.out.off⟩
end
theorem blk_shape {w : World} {b : Nat} {cs : Array Value} {t : TypeId} (h : Blk w b cs t) : w.shape? b = some (t, cs.size) := by
  unfold Blk at h
  simp [World.shape?, h]
/-! a list that is written in the middle -/
theorem spl_eq : ∀ (cs : List Value) (k : Nat) (vs : List Value), k + vs.length ≤ cs.length → spl cs k vs = cs.take k ++ vs ++ cs.drop (k + vs.length)
  | [], k, vs, h => by
    have : vs = [] := by cases vs with | nil => rfl | cons => simp at h
    subst this
    simp [spl_nil]
  | x :: cs, 0, [], _ => by simp [spl_nil]
  | x :: cs, 0, v :: vs, h => by
    rw [spl, spl_eq cs 0 vs (by simp at h ⊢; omega)]
    simp [Nat.add_comm]
  | x :: cs, k + 1, vs, h => by
    rw [spl, spl_eq cs k vs (by simp at h; omega)]
    simp [Nat.add_right_comm]
theorem take_flatten {k : Nat} : ∀ {rows : List (List Value)} (_ : ∀ r ∈ rows, r.length = k) (i : Nat), rows.flatten.take (i * k) = (rows.take i).flatten
  | [], _, i => by simp
  | r :: rows, h, 0 => by simp
  | r :: rows, h, i + 1 => by
    have hr : r.length = k := h r (by simp)
    rw [List.flatten_cons, List.take_succ_cons, List.flatten_cons, List.take_append, hr]
    rw [List.take_of_length_le (by rw [hr, Nat.succ_mul]; omega), show (i + 1) * k - k = i * k by rw [Nat.succ_mul]; omega, take_flatten (fun x hx => h x (by simp [hx])) i]
theorem drop_flatten {k : Nat} : ∀ {rows : List (List Value)} (_ : ∀ r ∈ rows, r.length = k) (i : Nat), rows.flatten.drop (i * k) = (rows.drop i).flatten
  | [], _, i => by simp
  | r :: rows, h, 0 => by simp
  | r :: rows, h, i + 1 => by
    have hr : r.length = k := h r (by simp)
    rw [List.flatten_cons, List.drop_succ_cons, List.drop_append, hr, List.drop_of_length_le (by rw [hr, Nat.succ_mul]; omega), show (i + 1) * k - k = i * k by rw [Nat.succ_mul]; omega, drop_flatten (fun x hx => h x (by simp [hx])) i, List.nil_append]
/-- a row goes in between -/
def putIn (rows : List (List Value)) (i : Nat) (p : List Value) : List (List Value) := rows.take i ++ p :: rows.drop i
theorem putIn_length {rows : List (List Value)} {i : Nat} {p : List Value} (h : i ≤ rows.length) : (putIn rows i p).length = rows.length + 1 := by
  simp [putIn]; omega
theorem Wf.putIn {k : Nat} {rows : List (List Value)} (h : Wf k rows) {p : List Value} (hp : p.length = k ∧ ∀ u ∈ p, u.oneCell' = true) (i : Nat) : Wf k (putIn rows i p) := by
  intro r hr
  rcases List.mem_append.1 hr with h1 | h1
  · exact h r (List.mem_of_mem_take h1)
  · rcases List.mem_cons.1 h1 with rfl | h1
    · exact hp
    · exact h r (List.mem_of_mem_drop h1)
theorem shift_list {cur p : List Value} {rows : List (List Value)} {k i : Nat} (hl : ∀ r ∈ rows, r.length = k) (hp : p.length = k) (hi : i ≤ rows.length) (hc : (rows.length + 1) * k ≤ cur.length) (ht : cur.take (rows.length * k) = rows.flatten) :
    (spl (spl cur ((i + 1) * k) (rows.drop i).flatten) (i * k) p).take ((rows.length + 1) * k) = (putIn rows i p).flatten := by
  have hdl : (rows.drop i).flatten.length = (rows.length - i) * k := by rw [flatten_len k _ (fun r hr => hl r (List.mem_of_mem_drop hr)), List.length_drop]
  have e1 : (i + 1) * k + (rows.length - i) * k = (rows.length + 1) * k := by rw [← Nat.add_mul]; congr 1; omega
  have e2 : (i + 1) * k = i * k + k := Nat.succ_mul i k
  have e3 : i * k ≤ rows.length * k := Nat.mul_le_mul_right k hi
  have e4 : (rows.length + 1) * k = rows.length * k + k := Nat.succ_mul _ k
  have h1 := spl_eq cur ((i + 1) * k) (rows.drop i).flatten (by rw [hdl]; omega)
  have hl1 : (spl cur ((i + 1) * k) (rows.drop i).flatten).length = cur.length := spl_length _ _ _
  rw [spl_eq _ _ p (by rw [hl1, hp]; omega), h1, hdl, hp, e1]
  have f1 : (cur.take ((i + 1) * k) ++ (rows.drop i).flatten ++ cur.drop ((rows.length + 1) * k)).take (i * k) = (rows.take i).flatten := by
    rw [List.append_assoc, List.take_append_of_le_length (by rw [List.length_take]; omega), List.take_take, Nat.min_eq_left (by omega), ← take_flatten hl, ← ht, List.take_take, Nat.min_eq_left e3]
  have f2 : (cur.take ((i + 1) * k) ++ (rows.drop i).flatten ++ cur.drop ((rows.length + 1) * k)).drop (i * k + k) = (rows.drop i).flatten ++ cur.drop ((rows.length + 1) * k) := by
    rw [List.append_assoc, List.drop_append, List.drop_of_length_le (by rw [List.length_take]; omega), List.length_take, Nat.min_eq_left (by omega), e2, Nat.sub_self]
    simp
  rw [f1, f2]
  have hl2 : ((rows.take i).flatten ++ p ++ (rows.drop i).flatten).length = (rows.length + 1) * k := by
    rw [List.length_append, List.length_append, hdl, hp, flatten_len k _ (fun r hr => hl r (List.mem_of_mem_take hr)), List.length_take, Nat.min_eq_left hi, ← e1]
    omega
  rw [← List.append_assoc, List.take_append_of_le_length (by rw [hl2]; exact Nat.le_refl _), List.take_of_length_le (by rw [hl2]; exact Nat.le_refl _)]
  simp [putIn]
theorem spl_at (A B D : List Value) (h : D.length ≤ B.length) : (spl (A ++ B) A.length D).take (A.length + D.length) = A ++ D := by
  rw [spl_eq _ _ _ (by rw [List.length_append]; omega), List.take_append_of_le_length (Nat.le_refl _), List.take_length, List.take_append_of_le_length (by rw [List.length_append]; exact Nat.le_refl _), ← List.length_append, List.take_length]
theorem grow_list {Z p : List Value} {rows : List (List Value)} {k i : Nat} (hl : ∀ r ∈ rows, r.length = k) (hp : p.length = k) (hi : i ≤ rows.length) (hc : (rows.length + 1 - i) * k ≤ Z.length) :
    (spl (spl ((rows.take i).flatten ++ Z) (i * k) p) ((i + 1) * k) (rows.drop i).flatten).take ((rows.length + 1) * k) = (putIn rows i p).flatten := by
  have hdl : (rows.drop i).flatten.length = (rows.length - i) * k := by rw [flatten_len k _ (fun r hr => hl r (List.mem_of_mem_drop hr)), List.length_drop]
  have htl : (rows.take i).flatten.length = i * k := by rw [flatten_len k _ (fun r hr => hl r (List.mem_of_mem_take hr)), List.length_take, Nat.min_eq_left hi]
  have e1 : (i + 1) * k + (rows.length - i) * k = (rows.length + 1) * k := by rw [← Nat.add_mul]; congr 1; omega
  have e2 : (i + 1) * k = i * k + k := Nat.succ_mul i k
  have e5 : (rows.length + 1 - i) * k = k + (rows.length - i) * k := by rw [show rows.length + 1 - i = (rows.length - i) + 1 by omega, Nat.succ_mul]; omega
  have h1 : spl ((rows.take i).flatten ++ Z) (i * k) p = (rows.take i).flatten ++ p ++ Z.drop k := by
    rw [spl_eq _ _ p (by rw [List.length_append, htl, hp]; omega), List.take_append_of_le_length (by omega), List.take_of_length_le (by omega), hp, List.drop_append, List.drop_of_length_le (by omega), htl, List.nil_append]
    congr 2
    omega
  have hpl : ((rows.take i).flatten ++ p).length = i * k + k := by rw [List.length_append, htl, hp]
  rw [h1, e2, ← hpl, show (rows.length + 1) * k = ((rows.take i).flatten ++ p).length + (rows.drop i).flatten.length by rw [hpl, hdl]; omega, spl_at _ _ _ (by rw [List.length_drop, hdl]; omega)]
  simp [putIn]
section
variable {P : Program}
theorem step_append_runI {ops : Array Oper} {o : Oper} {a : Act} {w : World} {K : Act → World → Prop} {Q : Exit → Act → World → Prop} {E : Prop}
    (hg : o.guard = none) (d x : Operand) (dT sT : TypeId) (hop : o.op = Op.call { callee := Callee.builtin Builtin.append, args := #[d, x], argTypes := #[dT, sT] })
    (v u : Value) (hd : a.eval d = v) (hx : a.eval x = u) {v' : Value} {w' : World} (hr : (Builtin.append_ #[dT, sT] o.type #[v, u]).run P w = .ok v' w') (hK : K (a.put o.dst v') w') :
    if Region.wanted o (yielded ops a.tmps) = true then Oper.wp P o a w K Q else E := by
  have hw : Region.wanted o (yielded ops a.tmps) = true := by simp [Region.wanted, hg]
  rw [if_pos hw]
  unfold Oper.wp
  simp [execOp, hop, resolve, invoke, builtin, hd, hx, hr, Result.andThen]
  exact hK
theorem wpList_clear_runI {w : World} {ops : Array Oper} {rest : List Oper} {o : Oper} {a : Act} {Q : Exit → Act → World → Prop} (hgd : o.guard = none) (x : Operand) (t : TypeId)
    (ho : o.op = .call { callee := .builtin .clear, args := #[x], argTypes := #[t] }) (u : Value) (hx : a.eval x = u) {v' : Value} {w' : World}
    (hr : (Builtin.clear_ #[t] o.type #[u]).run P w = .ok v' w') (h : wpList P ops Q rest (a.put o.dst v') w') : wpList P ops Q (o :: rest) a w := by
  refine wpList_plain hgd fun K hK => ?_
  unfold Oper.wp execOp
  simp only [ho, resolve, invoke, builtin, Sem.run_bind, Sem.run_pure, Result.andThen_ok, List.map_toArray, List.map_cons, List.map_nil, hx, hr]
  exact hK _ _ h
end
theorem off_setRow {w : World} {g : Nat} (cs : Array Value) : Off [g] w (w.setRow g cs) := ⟨rfl, rfl, rfl, by simp, fun k _ hk => setRow_other w g k cs (by simpa using hk)⟩
theorem hp_startA {w : World} {a : Option Addr} {c e k : Nat} {rows : List (List Value)} (h : (rA a c e k rows).holds w) : Hid (Hp (footA a) w w [rA a c e k rows]) :=
  Lib.hid ⟨Off.refl _ _, by simpa using h, by intro r hr; obtain rfl : r = _ := by simpa using hr
                                              exact rA_lt h, by intro r hr _ q hq; obtain rfl : r = _ := by simpa using hr
                                                                exact .inl hq, by simp⟩
theorem hp_oldS {S : List Nat} {w0 w : World} {R : List Res} {a : Option Addr} {c k : Nat} {rows : List (List Value)} (H : Hid (Hp S w0 w R)) (h : (rS a c k rows).holds w) (hw : w.heap.size ≤ w0.heap.size) (hk : 0 < k) (hS : ∀ q ∈ (rS a c k rows).foot, q ∉ S) : Hid (Hp S w0 w (rS a c k rows :: R)) := by
  have hl := rS_lt h hk
  refine Lib.hid (H.out.share _ (Off.refl [] w) h rfl fun q hq => ?_)
  have := hl q hq
  exact ⟨this, .inr (.inl ⟨by omega, hS q hq⟩)⟩
theorem single_of_blk {w : World} {g e k : Nat} {p : List Value} (hg : Blk w g p.toArray e) (hp : p.length = k ∧ ∀ u ∈ p, u.oneCell' = true) : (rS (some ⟨g, 0, none⟩) 1 k [p]).holds w := by
  refine ⟨.inr ⟨⟨g, 0, none⟩, 1, rfl, fun i hi j u hu => ?_⟩, fun r hr => ?_⟩
  · obtain rfl : i = 0 := by simpa using hi
    have := rows_one (cs := p) hg j u hu
    simpa [Addr.add] using this
  · obtain rfl : r = p := by simpa using hr
    exact hp
theorem rA_of_blk {w : World} {N G n e k : Nat} {cs : Array Value} {rows : List (List Value)} (hb : Blk w N cs e) (hn : rows.length = n) (h1 : n ≤ G) (h2 : G ≤ maxLen) (h3 : cs.size = G * k) (h4 : cs.toList.take (n * k) = rows.flatten) (hwf : Wf k rows) : (rA (some ⟨N, 0, none⟩) G e k rows).holds w := by
  subst hn
  exact ⟨⟨flatten_len k rows hwf.len, .inr ⟨N, G, cs, rfl, Nat.zero_le _, hb, h1, h2, h3, h4⟩⟩, hwf⟩
/-- a row goes out -/
def cutAt (rows : List (List Value)) (i : Nat) : List (List Value) := rows.take i ++ rows.drop (i + 1)
theorem Wf.cutAt {k : Nat} {rows : List (List Value)} (h : Wf k rows) (i : Nat) : Wf k (cutAt rows i) :=
  Wf.app (h.sub fun _ hr => List.mem_of_mem_take hr) (h.sub fun _ hr => List.mem_of_mem_drop hr)
theorem cutAt_length {rows : List (List Value)} {i : Nat} (h : i < rows.length) : (cutAt rows i).length = rows.length - 1 := by
  simp [cutAt]; omega
theorem cut_list {cur Z : List Value} {rows : List (List Value)} {k i : Nat} (hl : ∀ r ∈ rows, r.length = k) (hi : i < rows.length) (hc : rows.length * k ≤ cur.length) (ht : cur.take (rows.length * k) = rows.flatten) (hz : Z.length = k) :
    (spl (spl cur (i * k) (rows.drop (i + 1)).flatten) ((rows.length - 1) * k) Z).take ((rows.length - 1) * k) = (cutAt rows i).flatten := by
  have hdl : (rows.drop (i + 1)).flatten.length = (rows.length - (i + 1)) * k := by rw [flatten_len k _ (fun r hr => hl r (List.mem_of_mem_drop hr)), List.length_drop]
  have e1 : i * k + (rows.length - (i + 1)) * k = (rows.length - 1) * k := by rw [← Nat.add_mul]; congr 1; omega
  have e2 : (rows.length - 1) * k + k = rows.length * k := by rw [← Nat.succ_mul]; congr 1; omega
  have hl1 : (spl cur (i * k) (rows.drop (i + 1)).flatten).length = cur.length := spl_length _ _ _
  rw [spl_eq _ _ Z (by rw [hl1, hz]; omega), List.append_assoc, List.take_append_of_le_length (by rw [List.length_take, hl1]; omega), List.take_take, Nat.min_self]
  rw [spl_eq _ _ _ (by rw [hdl]; omega)]
  have hal : (cur.take (i * k)).length = i * k := by rw [List.length_take]; omega
  have hl2 : (cur.take (i * k) ++ (rows.drop (i + 1)).flatten).length = (rows.length - 1) * k := by rw [List.length_append, hal, hdl, e1]
  rw [List.take_append_of_le_length (by rw [hl2]; exact Nat.le_refl _), List.take_of_length_le (by rw [hl2]; exact Nat.le_refl _)]
  have hil : i * k ≤ rows.length * k := Nat.mul_le_mul_right k (by omega)
  rw [cutAt, List.flatten_append, ← take_flatten hl, ← ht, List.take_take, Nat.min_eq_left hil]
theorem set_list {cur r : List Value} {rows : List (List Value)} {k i : Nat} (hl : ∀ r ∈ rows, r.length = k) (hi : i < rows.length) (hr : r.length = k) (hc : rows.length * k ≤ cur.length) (ht : cur.take (rows.length * k) = rows.flatten) :
    (spl cur (i * k) r).take (rows.length * k) = (rows.set i r).flatten := by
  have hil : i * k ≤ rows.length * k := Nat.mul_le_mul_right k (by omega)
  have e2 : i * k + k + (rows.length - (i + 1)) * k = rows.length * k := by rw [← Nat.succ_mul, ← Nat.add_mul]; congr 1; omega
  rw [spl_eq _ _ _ (by omega), hr, List.take_append, List.length_append, List.length_take, Nat.min_eq_left (by omega), hr, List.take_of_length_le (by rw [List.length_append, List.length_take]; omega)]
  have hd : (cur.drop (i * k + k)).take (rows.length * k - (i * k + k)) = (rows.drop (i + 1)).flatten := by
    rw [← drop_flatten hl, ← ht, ← Nat.succ_mul, List.drop_take]
  rw [hd, List.set_eq_take_append_cons_drop, if_pos hi, List.flatten_append, List.flatten_cons, ← take_flatten hl, ← ht, List.take_take, Nat.min_eq_left hil, List.append_assoc]
section
variable {P : Program} {ops : Array Oper} {rest : List Oper} {o : Oper} {act : Act} {w w0 : World} {Q : Exit → Act → World → Prop} {S : List Nat} {R : List Res} {ty k c e : Nat} {row : Bool} {z : List Value} {rows : List (List Value)}
/-- an element of a slice of the call's own is written -/
theorem hp_rowstore (T : TyI P ty k row z) (H : Hid (Hp S w0 w R)) {x y : Operand} (ho : o.op = .store ty x y) (hgd : o.guard = none) {p : Addr} (hx : act.eval x = .pointer (some p)) {b i j : Nat} (hp : p = (⟨b, 0, none⟩ : Addr).add (i * k)) {r : List Value} {V : Value} (hy : act.eval y = V) (hV : V.cells = r.toArray) (hr : r.length = k ∧ ∀ u ∈ r, u.oneCell' = true) (hj : R[j]? = some (rA (some ⟨b, 0, none⟩) c e k rows)) (hi : i < rows.length)
    (h : ∀ w', Hid (Hp S w0 w' (R.set j (rA (some ⟨b, 0, none⟩) c e k (rows.set i r)))) → wpList P ops Q rest (act.put o.dst undef) w') : wpList P ops Q (o :: rest) act w := by
  subst hp
  have hA := H.out.at j hj
  obtain ⟨hrl, ⟨_, h0⟩ | ⟨g, cap, cur, he, _, hcur, hnc, hcm, hcz, htk⟩⟩ := hA.1
  · omega
  injection he with e1 _ e3
  injection e1 with e1
  injection e1 with e1 _ _
  subst e1
  subst e3
  have hb : Blk w b cur e := hcur
  have hnk : rows.length * k ≤ cur.size := by rw [hcz]; exact Nat.mul_le_mul_right _ hnc
  have hik : i * k + k ≤ rows.length * k := by rw [← Nat.succ_mul]; exact Nat.mul_le_mul_right _ hi
  refine wpList_plain hgd fun K hK => ?_
  have est : (storeVar ty ⟨b, i * k, none⟩ V).run P w = .ok () (w.setCells b (i * k) r) := by
    have := run_storeCells_cells (P := P) b (i * k) r 0 w (fun j hj => by rw [hb.cell _ (cur[i * k + 0 + j]'(by rw [hr.1] at hj; omega)) (by simp [show i * k + 0 + j < cur.size by rw [hr.1] at hj; omega])]; rfl) (fun j hj => hb.free _) hr.2
    simp only [Nat.add_zero] at this
    have hT := T.size
    cases hq : P.info? ty with
    | none => simp [hq] at hT
    | some q =>
      have hs : r.length = q.size := by simp [hq] at hT; omega
      simp [storeVar, sizeOf, typeInfo, hq, hV, hs, this]
  have ea : (⟨b, 0, none⟩ : Addr).add (i * k) = ⟨b, i * k, none⟩ := by rw [Addr.add_lit, Nat.zero_add]
  unfold Oper.wp execOp
  simp only [ho, hx, hy, ea, Instr.storeAt, Instr.sureAddr, Sem.run_bind, Sem.run_pure, Result.andThen_ok, est]
  have hB2 := blk_setCells r (i * k) cur.toList w (b := b) (t := e) (show Blk w b cur.toList.toArray e from hb)
  refine hK _ _ (h _ (Lib.hid (H.out.step j hj _ (off_setCells r (i * k) w) (by simp [rA, footA]) ?_ ?_)))
  · have hwf : Wf k (rows.set i r) := by
      intro q hq
      rcases List.mem_or_eq_of_mem_set hq with h1 | rfl
      · exact hA.2 q h1
      · exact hr
    exact rA_of_blk hB2 (by simp) hnc hcm (by simp [spl_length, hcz]) (by simpa using set_list hA.2.len hi hr.1 (by rw [Array.length_toList (xs := cur)]; exact hnk) htk) hwf
  · intro q hq
    refine ⟨.inl hq, ?_⟩
    rw [size_setCells]
    exact rA_lt hA q hq
end
/-- a block whose cells are whatever they are -/
def rX (b : Nat) (t : TypeId) (n : Nat) : Res := ⟨[b], fun w => ∃ cs : List Value, cs.length = n ∧ Blk w b cs.toArray t, fun _ _ h hb => by
  obtain ⟨cs, h1, h2⟩ := hb
  refine ⟨cs, h1, ?_⟩
  unfold Blk at *
  rw [h b (by simp)]
  exact h2, false⟩
section
variable {S : List Nat} {w0 w w' : World} {R : List Res} {a : Option Addr} {c e k b n : Nat} {rows : List (List Value)}
theorem hp_loose (H : Hid (Hp S w0 w R)) (i : Nat) {t : TypeId} {cs : List Value} (hi : R[i]? = some (rB b t cs)) : Hid (Hp S w0 w (R.set i (rX b t cs.length))) := by
  have hb := H.out.blk i hi
  refine Lib.hid (H.out.step i hi (rX b t cs.length) (Off.refl [] w) (by simp) ⟨cs, rfl, hb⟩ (fun q hq => ⟨.inl hq, ?_⟩))
  obtain rfl : q = b := by simpa [rX] using hq
  exact hb.lt
theorem hp_fill2 (H : Hid (Hp S w0 w R)) (i : Nat) {t : TypeId} (hi : R[i]? = some (rX b t 2)) (x y : Value) : Hid (Hp S w0 ((w.setCell ⟨b, 0, none⟩ x).setCell ⟨b, 1, none⟩ y) (R.set i (rB b t [x, y]))) := by
  obtain ⟨cs, h1, h2⟩ := H.out.at i hi
  match cs, h1 with
  | [u, v], _ =>
    have hb := blk_setCells [x, y] 0 [u, v] w h2
    have ho := off_setCells (b := b) [x, y] 0 w
    refine Lib.hid (H.out.step i hi (rB b t [x, y]) ho (by simp [rX]) hb (fun q hq => ⟨.inl hq, ?_⟩))
    obtain rfl : q = b := by simpa [rB] using hq
    exact hb.lt
theorem rX_cells (h : (rX b e 2).holds w) : ∃ u v, w.cell? ⟨b, 0, none⟩ = some u ∧ w.cell? ⟨b, 1, none⟩ = some v ∧ w.frozen? ⟨b, 0, none⟩ = false ∧ w.frozen? ⟨b, 1, none⟩ = false := by
  obtain ⟨cs, h1, h2⟩ := h
  match cs, h1 with
  | [u, v], _ => exact ⟨u, v, h2.cell 0 u rfl, h2.cell 1 v rfl, h2.free 0, h2.free 1⟩
/-- a condition that stays in a region that draws, where a call writes what is new, too -/
theorem Hp.pack3 (H : Hid (Hp S w0 w R)) : ∃ Sx : World → Prop, Keeps Sx w ∧ (∀ w', Keeps Sx w' → Hp S w0 w' R) ∧ (∀ w', Keeps Sx w' → Keeps Sx w'.drew) ∧ (∀ w' w'', Keeps Sx w' → Off [] w' w'' → Keeps Sx w'') ∧
    (∀ w', Keeps Sx w' → w.heap.size ≤ w'.heap.size) ∧ (∀ w' w'' F, Keeps Sx w' → Off F w' w'' → (∀ q ∈ F, w.heap.size ≤ q) → Keeps Sx w'') ∧
    (∀ w' w'' b t n, Keeps Sx w' → rX b t n ∈ R → Off [b] w' w'' → (rX b t n).holds w'' → Keeps Sx w'') := by
  refine ⟨fun w' => Hp S w0 w' R ∧ w.heap.size ≤ w'.heap.size, ⟨H.out, Nat.le_refl _⟩, fun _ h => h.1, fun _ h => ⟨Hp.drew h.1, h.2⟩, fun _ _ h ho => ⟨Hp.quiet h.1 ho, Nat.le_trans h.2 ho.size⟩, fun _ h => h.2, fun w' w'' F h ho hF => ⟨?_, Nat.le_trans h.2 ho.size⟩, fun w' w'' b t n h hm ho hh => ⟨?_, Nat.le_trans h.2 ho.size⟩⟩
  · have hlt : ∀ r ∈ R, ∀ q ∈ r.foot, q ∉ F := fun r hr q hq hqF => by
      have := H.out.lt r hr q hq
      have := hF q hqF
      omega
    refine ⟨h.1.off.trans ho (fun i hi hiF => ?_), fun r hr => r.stable w' w'' (fun q hq => ho.block q (h.1.lt r hr q hq) (hlt r hr q hq)) (h.1.holds r hr), fun r hr q hq => Nat.lt_of_lt_of_le (h.1.lt r hr q hq) ho.size, h.1.newf, h.1.sep⟩
    have := hF i hiF
    have := H.out.off.size
    omega
  · obtain ⟨i, hi⟩ := idx_of_mem hm
    have hil : i < R.length := (List.getElem?_eq_some_iff.1 hi).1
    have := h.1.step i hi (rX b t n) ho (by simp [rX]) hh (fun q hq => ⟨.inl hq, Nat.lt_of_lt_of_le (h.1.lt _ hm q hq) ho.size⟩)
    rwa [show R.set i (rX b t n) = R from by rw [← (List.getElem?_eq_some_iff.1 hi).2]; exact List.set_getElem_self hil] at this
theorem rA_keep (h : (rA a c e k rows).holds w) (ho : Off [] w w') : (rA a c e k rows).holds w' :=
  (rA a c e k rows).stable w w' (fun q hq => ho.block q (rA_lt h q hq) (by simp)) h
theorem rX_set2 {t : TypeId} (h : (rX b t 2).holds w) (x y : Value) : (rX b t 2).holds ((w.setCell ⟨b, 0, none⟩ x).setCell ⟨b, 1, none⟩ y) ∧ Off [b] w ((w.setCell ⟨b, 0, none⟩ x).setCell ⟨b, 1, none⟩ y) := by
  obtain ⟨cs, h1, h2⟩ := h
  exact ⟨⟨spl cs 0 [x, y], by rw [spl_length, h1], blk_setCells [x, y] 0 cs w h2⟩, off_setCells (b := b) [x, y] 0 w⟩
end
theorem size_alloc_lt (w : World) (o : Obj) : ¬ (w.alloc o).heap.size ≤ w.heap.size := by
  show ¬ (w.heap.push _).size ≤ w.heap.size
  rw [Array.size_push]
  omega
theorem rA_new {a : Option Addr} {c e k : Nat} {rows : List (List Value)} {w : World} (h : (rA a c e k rows).holds w) : w.heap.size ∉ footA a := fun hq => absurd (rA_lt h _ hq) (Nat.lt_irrefl _)
theorem fresh_new {F : List Nat} {w : World} {o : Obj} (h : ∀ q ∈ F, (w.alloc o).heap.size ≤ q) : w.heap.size ∉ F := fun hq => absurd (h _ hq) (size_alloc_lt _ _)
/-- a thing in memory that is newer than all others -/
theorem hp_add {S : List Nat} {w0 wS w : World} {R : List Res} (HS : Hid (Hp S w0 wS R)) (H : Hp S w0 w R) {r : Res} (hr : r.holds w) (hl : ∀ q ∈ r.foot, q < w.heap.size) (hn : ∀ q ∈ r.foot, wS.heap.size ≤ q) : Hid (Hp S w0 w (r :: R)) := by
  refine Lib.hid ⟨H.off, fun p hp => ?_, fun p hp k hk => ?_, fun p hp hpo k hk => ?_, List.pairwise_cons.2 ⟨fun p hp _ k hk hk' => ?_, H.sep⟩⟩
  · rcases List.mem_cons.1 hp with rfl | hp
    · exact hr
    · exact H.holds p hp
  · rcases List.mem_cons.1 hp with rfl | hp
    · exact hl k hk
    · exact H.lt p hp k hk
  · rcases List.mem_cons.1 hp with rfl | hp
    · exact .inr (Nat.le_trans HS.out.off.size (hn k hk))
    · exact H.newf p hp hpo k hk
  · have := HS.out.lt p hp k hk'
    have := hn k hk
    omega
section
variable {P : Program} {ops : Array Oper} {rest : List Oper} {o : Oper} {act : Act} {w : World} {Q : Exit → Act → World → Prop} {ty t : TypeId}
theorem hp_neq_struct {x y : Operand} (ho : o.op = .binOp .neq ty x y t) (hw : Region.wanted o (yielded ops act.tmps) = true) {X Y : Array Value} (hx : act.eval x = .agg X) (hy : act.eval y = .agg Y) (hg : P.eqGuardType P.depth ty = false) {b : Bool} (he : ∀ w, (Op.equalIn 10000 ty (.agg X) (.agg Y)).run P w = .ok b w)
    (h : wpList P ops Q rest (act.put o.dst (.bool (!b))) w) : wpList P ops Q (o :: rest) act w := by
  refine wpList_step fun K hK => ?_
  rw [if_pos hw]
  unfold Oper.wp execOp
  simp only [ho, hx, hy, Sem.run_bind, Sem.run_pure, Result.andThen_ok]
  have e1 : (eqGuard .neq ty x y (.agg X) (.agg Y)).run P w = .ok () w := run_eqGuard_agg w .neq _ x y X Y hg
  have e2 : (binOp .neq ty (.agg X) (.agg Y)).run P w = .ok (.bool (!b)) w := by
    refine (run_neq_struct w _ X Y).trans ?_
    rw [he]
    rfl
  rw [e1]
  simp only [Result.andThen_ok, e2]
  exact hK _ _ h
theorem hp_eql_struct {x y : Operand} (ho : o.op = .binOp .eql ty x y t) (hw : Region.wanted o (yielded ops act.tmps) = true) {X Y : Array Value} (hx : act.eval x = .agg X) (hy : act.eval y = .agg Y) (hg : P.eqGuardType P.depth ty = false) {b : Bool} (he : ∀ w, (Op.equalIn 10000 ty (.agg X) (.agg Y)).run P w = .ok b w)
    (h : wpList P ops Q rest (act.put o.dst (.bool b)) w) : wpList P ops Q (o :: rest) act w := by
  refine wpList_step fun K hK => ?_
  rw [if_pos hw]
  unfold Oper.wp execOp
  simp only [ho, hx, hy, Sem.run_bind, Sem.run_pure, Result.andThen_ok]
  have e1 : (eqGuard .eql ty x y (.agg X) (.agg Y)).run P w = .ok () w := run_eqGuard_agg w .eql _ x y X Y hg
  have e2 : (binOp .eql ty (.agg X) (.agg Y)).run P w = .ok (.bool b) w := by
    refine (run_eql_struct w _ X Y).trans ?_
    rw [he]
    rfl
  rw [e1]
  simp only [Result.andThen_ok, e2]
  exact hK _ _ h
theorem if_chainB {α : Type} {c : Prop} [Decidable c] {A B : α} (h : c → A = B) : (if c then A else B) = B := by
  split
  · exact h ‹_›
  · rfl
end
end Go.Proofs.Ytnanihffljpdbaa.Mem

/- A region, drawn or not, by what each operation leaves in its slot and what the memory is by then: each operation once. -/
namespace Go.Proofs.Ytnanihffljpdbaa.Reg
set_option linter.unusedVariables false
set_option linter.unusedSimpArgs false
open Go.RowKit Go.Proofs.Ytnanihffljpdbaa.Inv

/-- ancestors by binding edges: A i are all of them -/
def ancOk (A : List (List Nat)) (ops : Array Oper) : Bool := (List.range ops.size).all fun i => ((ops[i]?).map fun o =>
  (o.after.all fun e => !Region.binds .any e || ((A.getD i []).contains e.on && (A.getD e.on []).all fun j => (A.getD i []).contains j)) &&
  ((A.getD i []).all fun j => o.after.any fun e => Region.binds .any e && (e.on == j || (A.getD e.on []).contains j))).getD true
def anc (A : List (List Nat)) (i j : Nat) : Bool := (A.getD i []).contains j
def upd (L : Nat → Bool) (i j : Nat) : Bool := bif Nat.beq j i then true else L j
/-- what is known when operation i comes up: L tells who has been -/
structure Stg {X : Type} (ops : Array Oper) (An : Nat → Nat → Bool) (a0 : Act) (val : X → Nat → Value) (L : Nat → Bool) (x : X) (a : Act) (i : Nat) : Prop where
  slot : ∀ j, L j = true → slotv ops a j = val x j
  old : ∀ t, (∀ j, dstAt ops j = some t → L j = false) → a.eval (.tmp t) = a0.eval (.tmp t)
  anc : ∀ j, An i j = true → L j = true
  des : ∀ k, An k i = true → L k = false
  down : ∀ k j, L k = true → An k j = true → L j = true
  self : L i = false
  lt : ∀ j, L j = true → j < ops.size
section
variable {P : Program} {ops : Array Oper} {Q : Exit → Act → World → Prop} {X : Type}
theorem guard_some {o : Oper} {y : Nat → Option Bool} (h : Region.wanted o y = false) : o.guard.isSome = true := by
  cases hg : o.guard with
  | some _ => rfl
  | none => simp [Region.wanted, hg] at h
theorem dst_lt {N : Nat} {a0 : Act} (hN : a0.tmps.size = N) (hsz' : (ops.all fun o => match o.dst with | some d => decide (d < N) | none => true) = true) {j d : Nat} {o : Oper} (ho : ops[j]? = some o) (hd : o.dst = some d) : d < a0.tmps.size := by
  have := Array.all_eq_true_iff_forall_mem.1 hsz' o (Array.mem_of_getElem? ho)
  rw [hd] at this
  simpa [hN] using this
theorem fr_put {a0 a : Act} {i : Nat} {o : Oper} {v : Value} (ho : ops[i]? = some o) (hfr : Fr ops a0 a) : Fr ops a0 (a.put o.dst v) := by
  have hi : i < ops.size := (Array.getElem?_eq_some_iff.1 ho).1
  have hdi : dstAt ops i = o.dst := by simp [dstAt, ho]
  exact ⟨by rw [put_defers]; exact hfr.defers, by rw [put_size]; exact hfr.size, fun t ht => by
    rw [put_getD _ _ _ _ (by rw [← hdi]; exact ht i hi)]
    exact hfr.rest t ht⟩
/-- what goes on behind an operation -/
def Goes (ops : Array Oper) (val : X → Nat → Value) (St : (Nat → Bool) → X → World → Prop) (L : Nat → Bool) (x : X) (a : Act) (i : Nat) (o : Oper) (K : Act → World → Prop) : Prop :=
  ∀ v x' w', (∀ j, L j = true → val x' j = val x j) → (match o.dst with | some _ => v | none => undef) = val x' i → St (upd L i) x' w' → K (a.put o.dst v) w'
/-- slots as they are told, others as they were -/
def Told (ops : Array Oper) (a0 : Act) (val : X → Nat → Value) (L : Nat → Bool) (x : X) (a : Act) : Prop :=
  Fr ops a0 a ∧ (∀ j, L j = true → slotv ops a j = val x j) ∧ (∀ t, (∀ j, dstAt ops j = some t → L j = false) → a.eval (.tmp t) = a0.eval (.tmp t))
theorem told_put {a0 a : Act} {val : X → Nat → Value} {L : Nat → Bool} {x x' : X} {i : Nat} {o : Oper} {v : Value} {N : Nat} (hN : a0.tmps.size = N) (hsz' : (ops.all fun o => match o.dst with | some d => decide (d < N) | none => true) = true) (hdd : distinctDst ops = true) (hLs : ∀ j, L j = true → j < ops.size)
    (ho : ops[i]? = some o) (h : Told ops a0 val L x a) (hv : ∀ j, L j = true → val x' j = val x j) (hi : (match o.dst with | some _ => v | none => undef) = val x' i) (hs : L i = false) : Told ops a0 val (upd L i) x' (a.put o.dst v) := by
  obtain ⟨hfr, h1, h2⟩ := h
  have hi1 : i < ops.size := (Array.getElem?_eq_some_iff.1 ho).1
  refine ⟨fr_put ho hfr, fun j hj => ?_, fun t ht => ?_⟩
  · by_cases hji : j = i
    · subst hji
      cases hd : o.dst with
      | none =>
        rw [show (none : Option Tmp) = o.dst from hd.symm, slot_none ho hd]
        rw [hd] at hi
        exact hi
      | some d =>
        rw [show (some d : Option Tmp) = o.dst from hd.symm, slot_self ho hd (by rw [hfr.size]; exact dst_lt hN hsz' ho hd)]
        rw [hd] at hi
        exact hi
    · have hj' : L j = true := by
        unfold upd at hj
        have hne : Nat.beq j i = false := by
          cases hb : Nat.beq j i with
          | false => rfl
          | true => exact absurd (Nat.eq_of_beq_eq_true hb) hji
        rw [hne] at hj
        exact hj
      rw [slot_other ho hi1 (hLs j hj') hji hdd, h1 j hj', hv j hj']
  · have hne : o.dst ≠ some t := fun e => by
      have := ht i (by simp [dstAt, ho, e])
      simp [upd] at this
    show (a.put o.dst v).tmps.getD t undef = a0.tmps.getD t undef
    rw [put_getD _ _ _ _ hne]
    refine h2 t fun j hj => ?_
    have := ht j hj
    unfold upd at this
    cases hb : Nat.beq j i with
    | true => rw [hb] at this; cases this
    | false => rw [hb] at this; exact this
theorem wp_region_st {id : Nat} {a0 : Act} {w : World} (hm : P.follows .mixedOrders = true) (hb : backward ops) (A : List (List Nat)) (hA : ancOk A ops = true) (hdd : distinctDst ops = true)
    (N : Nat) (hN : a0.tmps.size = N) (hsz' : (ops.all fun o => match o.dst with | some d => decide (d < N) | none => true) = true)
    (val : X → Nat → Value) (St : (Nat → Bool) → X → World → Prop) (x0 : X) (hS0 : St (fun _ => false) x0 w.drew)
    (hSt : ∀ L L' x w, (∀ j, j < ops.size → L j = L' j) → St L x w → St L' x w)
    (step : ∀ i o, ops[i]? = some o → ∀ L x a w', Stg ops (anc A) a0 val L x a i → St L x w' → Region.wanted o (yielded ops a.tmps) = true → ∀ Q' : Exit → Act → World → Prop, Goes ops val St L x a i o (Q' .normal) → wpList P ops Q' [o] a w')
    (skip : ∀ i o, ops[i]? = some o → o.guard.isSome = true → ∀ L x a, Stg ops (anc A) a0 val L x a i → Region.wanted o (yielded ops a.tmps) = false → val x i = undef ∧ ∀ w', St L x w' → St (upd L i) x w')
    (fin : ∀ x a w', Fr ops a0 a → (∀ j, j < ops.size → slotv ops a j = val x j) → St (fun _ => true) x w' → Q .normal a w') : (Code.region id ops true).wp P Q a0 w := by
  have hgetF : ∀ j, (Array.replicate ops.size false).getD j false = false := fun j => by
    simp only [Array.getD_eq_getD_getElem?, Array.getElem?_replicate]
    split <;> rfl
  refine wp_region_inv hm hb (fun listed a w => listed.size = ops.size ∧ (∀ k j, listed.getD k false = true → anc A k j = true → listed.getD j false = true) ∧ ∃ x, Told ops a0 val (fun j => listed.getD j false) x a ∧ St (fun j => listed.getD j false) x w) ⟨by simp, fun k j hk => (by rw [hgetF] at hk; cases hk), x0, ⟨⟨rfl, rfl, fun _ _ => rfl⟩, fun j hj => (by simp only [hgetF] at hj; cases hj), fun _ _ => rfl⟩, ?_⟩ (fun listed i a w hz hI hi => ?_) (fun listed a w hl hI => ?_)
  · exact hSt _ _ _ _ (fun j _ => (hgetF j).symm) hS0
  · obtain ⟨hls, hdown, x, ht, hst⟩ := hI
    have hi1 : i < ops.size := by simpa using (List.mem_filter.1 hi).1
    have hi0 : listed.getD i false = false := by
      have hi2 := (List.mem_filter.1 hi).2
      have hil : i < listed.size := by omega
      simp only [Array.getD, hil, dite_true, Bool.and_eq_true, Bool.not_eq_true'] at hi2
      simp only [Array.getD, hil, dite_true]
      exact hi2.1
    obtain ⟨o, ho⟩ : ∃ o, ops[i]? = some o := ⟨ops[i], by simp [hi1]⟩
    have hA1 := List.all_eq_true.1 hA i (by simpa using hi1)
    rw [ho] at hA1
    simp only [Option.map_some, Option.getD_some, Bool.and_eq_true] at hA1
    have hanc : ∀ j, anc A i j = true → listed.getD j false = true := fun j hj => by
      have h3 := List.all_eq_true.1 hA1.2 j (List.contains_iff_mem.1 hj)
      rw [← Array.any_toList, List.any_eq_true] at h3
      obtain ⟨e, he, h4⟩ := h3
      rw [Array.mem_toList_iff] at he
      simp only [Bool.and_eq_true, Bool.or_eq_true, beq_iff_eq] at h4
      have h5 := ready_dep ho hi he h4.1
      rcases h4.2 with h6 | h6
      · rw [← h6]; exact h5
      · exact hdown _ _ h5 h6
    have hLs : ∀ j, listed.getD j false = true → j < ops.size := fun j hj => by
      rcases Nat.lt_or_ge j ops.size with h | h
      · exact h
      · rw [Array.getD_eq_getD_getElem?, Array.getElem?_eq_none (by omega)] at hj
        cases hj
    have hup : (fun j => (listed.setIfInBounds i true).getD j false) = upd (fun j => listed.getD j false) i := by
      funext j
      rw [set_getD _ _ _ (by omega)]
      unfold upd
      by_cases hji : i = j
      · subst hji
        rw [if_pos rfl, Nat.beq_refl]
        rfl
      · rw [if_neg hji]
        cases hb : Nat.beq j i with
        | true => exact absurd (Nat.eq_of_beq_eq_true hb).symm hji
        | false => rfl
    have hdes : ∀ k, anc A k i = true → listed.getD k false = false := fun k hk => by
      cases hc : listed.getD k false with
      | false => rfl
      | true =>
        have := hdown k i hc hk
        rw [hi0] at this
        cases this
    have hstg : Stg ops (anc A) a0 val (fun j => listed.getD j false) x a i := ⟨ht.2.1, ht.2.2, hanc, hdes, hdown, hi0, hLs⟩
    have hdown' : ∀ k j, (listed.setIfInBounds i true).getD k false = true → anc A k j = true → (listed.setIfInBounds i true).getD j false = true := fun k j hk hkj => by
      rw [set_getD _ _ _ (by omega)] at hk ⊢
      split
      · rfl
      · split at hk
        · rename_i h;  subst h; exact hanc j hkj
        · exact hdown k j hk hkj
    unfold wpOp
    rw [ho]
    by_cases hwant : Region.wanted o (yielded ops a.tmps) = true
    · simp only [hwant, if_true]
      refine of_list hwant (step i o ho _ x a w hstg hst hwant (swap Q _) fun v x' w' hv hvi hs' => ⟨by simpa using hls, hdown', x', ?_, ?_⟩)
      · rw [hup]
        exact told_put hN hsz' hdd hLs ho ht hv hvi hi0
      · rw [hup]
        exact hs'
    · have hwant' : Region.wanted o (yielded ops a.tmps) = false := by simpa using hwant
      simp only [hwant', Bool.false_eq_true, if_false]
      obtain ⟨h1, h2⟩ := skip i o ho (guard_some hwant') _ x a hstg hwant'
      refine ⟨by simpa using hls, hdown', x, ?_, ?_⟩
      · rw [hup]
        exact told_put hN hsz' hdd hLs ho ht (fun _ _ => rfl) (by rw [h1]; split <;> rfl) hi0
      · rw [hup]
        exact h2 w hst
  · obtain ⟨hls, hdown, x, ht, hst⟩ := hI
    exact fin x a w ht.1 (fun j hj => ht.2.1 j (hl j hj)) (hSt _ _ _ _ (fun j hj => hl j hj) hst)
/-- the order of the text -/
def before (i j : Nat) : Bool := Nat.blt j i
theorem before_false {i j : Nat} : before i j = false ↔ i ≤ j := by
  unfold before
  rw [← Bool.not_eq_true, Nat.blt_eq]
  omega
theorem before_true {i j : Nat} : before i j = true ↔ j < i := by unfold before; rw [Nat.blt_eq]
theorem wp_region_sq {id : Nat} {a0 : Act} {w : World} (hdd : distinctDst ops = true)
    (N : Nat) (hN : a0.tmps.size = N) (hsz' : (ops.all fun o => match o.dst with | some d => decide (d < N) | none => true) = true)
    (val : X → Nat → Value) (St : (Nat → Bool) → X → World → Prop) (x0 : X) (hS0 : St (fun _ => false) x0 w)
    (hSt : ∀ L L' x w, (∀ j, j < ops.size → L j = L' j) → St L x w → St L' x w)
    (step : ∀ i o, ops[i]? = some o → ∀ L x a w', Stg ops before a0 val L x a i → St L x w' → Region.wanted o (yielded ops a.tmps) = true → ∀ Q' : Exit → Act → World → Prop, Goes ops val St L x a i o (Q' .normal) → wpList P ops Q' [o] a w')
    (skip : ∀ i o, ops[i]? = some o → o.guard.isSome = true → ∀ L x a, Stg ops before a0 val L x a i → Region.wanted o (yielded ops a.tmps) = false → val x i = undef ∧ ∀ w', St L x w' → St (upd L i) x w')
    (fin : ∀ x a w', Fr ops a0 a → (∀ j, j < ops.size → slotv ops a j = val x j) → St (fun _ => true) x w' → Q .normal a w') : (Code.region id ops false).wp P Q a0 w := by
  refine wp_region ?_
  have key : ∀ n k x a w, n + k = ops.size → Told ops a0 val (before k) x a → St (before k) x w → wpOps P ops Q (List.range' k n) a w := by
    intro n
    induction n with
    | zero =>
      intro k x a w hk ht hst
      exact fin x a w ht.1 (fun j hj => ht.2.1 j (by simp [before]; omega)) (hSt _ _ _ _ (fun j hj => by simp [before]; omega) hst)
    | succ n ih =>
      intro k x a w hk ht hst
      have hi1 : k < ops.size := by omega
      obtain ⟨o, ho⟩ : ∃ o, ops[k]? = some o := ⟨ops[k], by simp [hi1]⟩
      have hup : upd (before k) k = before (k + 1) := by
        funext j
        unfold upd before
        cases hb : Nat.beq j k with
        | true => have := Nat.eq_of_beq_eq_true hb; subst this; simp
        | false =>
          have h1 : j ≠ k := fun e => by rw [e, Nat.beq_refl] at hb; cases hb
          simp only [cond_false]
          rw [Bool.eq_iff_iff, Nat.blt_eq, Nat.blt_eq]
          omega
      have hLs : ∀ j, before k j = true → j < ops.size := fun j hj => by simp [before] at hj; omega
      have hself : before k k = false := before_false.2 (Nat.le_refl _)
      have hstg : Stg ops before a0 val (before k) x a k := ⟨ht.2.1, ht.2.2, fun j hj => hj, fun i hi => by
        rw [before_true] at hi
        rw [before_false]
        omega, fun i j hi hj => by
        rw [before_true] at hi hj ⊢
        omega, hself, hLs⟩
      rw [List.range'_succ]
      unfold wpOps
      rw [ho]
      by_cases hwant : Region.wanted o (yielded ops a.tmps) = true
      · simp only [hwant, if_true]
        refine of_list hwant (step k o ho _ x a w hstg hst hwant (swap Q _) fun v x' w' hv hvi hs' => ih (k + 1) x' _ _ (by omega) ?_ ?_)
        · rw [← hup]
          exact told_put hN hsz' hdd hLs ho ht hv hvi hself
        · rw [← hup]
          exact hs'
      · have hwant' : Region.wanted o (yielded ops a.tmps) = false := by simpa using hwant
        simp only [hwant', Bool.false_eq_true, if_false]
        obtain ⟨h1, h2⟩ := skip k o ho (guard_some hwant') _ x a hstg hwant'
        refine ih (k + 1) x _ _ (by omega) ?_ ?_
        · rw [← hup]
          exact told_put hN hsz' hdd hLs ho ht (fun _ _ => rfl) (by rw [h1]; split <;> rfl) hself
        · rw [← hup]
          exact h2 w hst
  rw [List.range_eq_range']
  refine key ops.size 0 x0 a0 w (by omega) ⟨⟨rfl, rfl, fun _ _ => rfl⟩, fun j hj => ?_, fun _ _ => rfl⟩ ?_
  · simp [before] at hj
  · exact hSt _ _ _ _ (fun j _ => (before_false.2 (Nat.zero_le _)).symm) hS0
end
end Go.Proofs.Ytnanihffljpdbaa.Reg

/- Regions by Reg, over Hp: helpers for the printed walks (sym.py). -/
namespace Go.Proofs.Ytnanihffljpdbaa.Reg
set_option linter.unusedVariables false
set_option linter.unusedSimpArgs false
open Go.RowKit Go.Proofs.Ytnanihffljpdbaa.Inv Go.Proofs.Ytnanihffljpdbaa.Mem
def nth : List Value → Nat → Value
  | [], _ => undef
  | v :: _, 0 => v
  | _ :: l, n + 1 => nth l n
theorem ix_nil {n : Nat} {C : Nat → Prop} : ∀ i, n ≤ i → i < n → C i := fun i h1 h2 => absurd h1 (by omega)
theorem ix_cons {C : Nat → Prop} {k n : Nat} (h0 : C k) (h : ∀ i, k + 1 ≤ i → i < n → C i) : ∀ i, k ≤ i → i < n → C i := fun i h1 h2 => by
  rcases Nat.lt_or_ge k i with h3 | h3
  · exact h i h3 h2
  · obtain rfl : i = k := by omega
    exact h0
theorem strEq (x y : ByteArray) : (x = y) ↔ x.toList = y.toList := ⟨fun h => by rw [h], fun h => by rw [ByteArray.toList_eq, ByteArray.toList_eq] at h; exact ByteArray.ext (Array.toList_inj.1 h)⟩
theorem bl {a b : Bool} (h : (a && b) = true) : a = true := by revert h; cases a <;> simp
theorem br {a b : Bool} (h : (a && b) = true) : b = true := by revert h; cases a <;> simp
theorem bn {a : Bool} (h : (!a) = true) : a = false := by revert h; cases a <;> simp
theorem bt {a : Bool} (h : (!a) = false) : a = true := by revert h; cases a <;> simp
theorem ol {a b : Bool} (h : (a || b) = false) : a = false := by revert h; cases a <;> simp
theorem orr {a b : Bool} (h : (a || b) = false) : b = false := by revert h; cases a <;> simp
theorem af1 {a b : Bool} (h : (a && b) = false) (k : a = true) : b = false := by revert h k; cases a <;> simp
theorem af2 {a b : Bool} (h : (a && b) = false) (k : b = true) : a = false := by revert h k; cases a <;> cases b <;> simp
theorem ot1 {a b : Bool} (h : (a || b) = true) (k : a = false) : b = true := by revert h k; cases a <;> simp
theorem ot2 {a b : Bool} (h : (a || b) = true) (k : b = false) : a = true := by revert h k; cases a <;> cases b <;> simp
theorem eqq_t {α : Type} [BEq α] {a b : α} (h : (a == b) = true) : (a != b) = false := by simp [bne, h]
theorem eqq_f {α : Type} [BEq α] {a b : α} (h : (a == b) = false) : (a != b) = true := by simp [bne, h]
theorem neq_t {α : Type} [BEq α] {a b : α} (h : (a != b) = true) : (a == b) = false := by simpa [bne] using h
theorem neq_f {α : Type} [BEq α] {a b : α} (h : (a != b) = false) : (a == b) = true := by simpa [bne] using h
theorem if_chainR {α : Type} {c : Prop} [Decidable c] {A B : α} (h : c → A = B) : (if c then A else B) = B := by
  split
  · exact h ‹_›
  · rfl
theorem bj {a b : Bool} (h1 : a = true) (h2 : b = true) : (a && b) = true := by rw [h1, h2]; rfl
theorem bk {a : Bool} (h : a = false) : (!a) = true := by rw [h]; rfl
theorem cT {G : Bool} {v V : Value} (h : v = bif G then V else undef) (hG : G = true) : v = V := by rw [h, hG]; rfl
theorem cF {G : Bool} {V : Value} (hG : G = false) : (bif G then V else undef) = undef := by rw [hG]; rfl
theorem cI {G : Bool} {V : Value} (hG : G = true) : V = (bif G then V else undef) := by rw [hG]; rfl
/-- a region of a function's code -/
def findR : Code → Nat → Option Code
  | .region i o d, k => bif Nat.beq i k then some (.region i o d) else none
  | .seq a b, k => match findR a k with | some c => some c | none => findR b k
  | .cond _ a b, k => match findR a k with | some c => some c | none => findR b k
  | .block _ a, k => findR a k
  | .loop a, k => findR a k
  | .scope a, k => findR a k
  | _, _ => none
def regAt (f : Func) (k : Nat) : Code := match f.body with
  | some c => (match findR c k with | some r => r | none => .skip)
  | none => .skip
/-- one goal an operation -/
def Al (C : Nat → Oper → Prop) : Nat → List Oper → Prop
  | _, [] => True
  | k, o :: l => C k o ∧ Al C (k + 1) l
theorem al_nil {C : Nat → Oper → Prop} {k : Nat} : Al C k [] := trivial
theorem al_cons {C : Nat → Oper → Prop} {k : Nat} {o : Oper} {l : List Oper} (h : C k o) (t : Al C (k + 1) l) : Al C k (o :: l) := ⟨h, t⟩
theorem al_get {C : Nat → Oper → Prop} : ∀ (l : List Oper) (k i : Nat) (o : Oper), Al C k l → l[i]? = some o → C (k + i) o
  | [], _, _, _, _, h => by simp at h
  | _ :: l, k, 0, o, hA, h => by
    simp at h
    subst h
    exact hA.1
  | _ :: l, k, i + 1, o, hA, h => by
    have := al_get l (k + 1) i o hA.2 (by simpa using h)
    rwa [show k + 1 + i = k + (i + 1) by omega] at this
section
variable {P : Program} {ops : Array Oper} {Q Q' : Exit → Act → World → Prop} {X : Type} {An : Nat → Nat → Bool} {a0 a : Act} {val : X → Nat → Value} {L : Nat → Bool} {x : X} {i : Nat} {St : (Nat → Bool) → X → World → Prop} {o : Oper} {w w0 : World} {S : List Nat} {R : List Res}
theorem steps {n : Nat} (hn : ops.size = n) {C : Nat → Oper → Prop} (h : ∀ i, 0 ≤ i → i < n → ∀ o, ops[i]? = some o → C i o) : ∀ i o, ops[i]? = some o → C i o := fun i o ho =>
  h i (Nat.zero_le _) (by rw [← hn]; exact (Array.getElem?_eq_some_iff.1 ho).1) o ho
theorem steps_al {C : Nat → Oper → Prop} (h : Al C 0 ops.toList) : ∀ i o, ops[i]? = some o → C i o := fun i o ho => by
  have := al_get ops.toList 0 i o h (by simpa using ho)
  rwa [Nat.zero_add] at this
theorem gt_of {t : Tmp} {V : Value} (h : a.eval (.tmp t) = V) : (a.tmps[t]?).getD undef = V := by rw [← Array.getD_eq_getD_getElem?]; exact h
theorem Stg.free (hs : Stg ops An a0 val L x a i) (t : Tmp) (hc : (ops.all fun o => o.dst != some t) = true) : a.eval (.tmp t) = a0.eval (.tmp t) :=
  hs.old t fun j e => by
    unfold dstAt at e
    cases ho : ops[j]? with
    | none => simp [ho] at e
    | some o =>
      have := Array.all_eq_true_iff_forall_mem.1 hc o (Array.mem_of_getElem? ho)
      simp only [ho, Option.bind_some] at e
      rw [e] at this
      simp at this
theorem skips {C : Nat → Oper → Prop} (gl : List Nat) (hg : ((List.range ops.size).all fun i => gl.contains i || ((ops[i]?).map (·.guard.isNone)).getD true) = true) (h : ∀ i ∈ gl, ∀ o, ops[i]? = some o → C i o) : ∀ i o, ops[i]? = some o → o.guard.isSome = true → C i o := fun i o ho hs => by
  refine h i ?_ o ho
  have := List.all_eq_true.1 hg i (by simpa using (Array.getElem?_eq_some_iff.1 ho).1)
  rw [ho] at this
  simp only [Option.map_some, Option.getD_some, Bool.or_eq_true, Option.isNone_iff_eq_none] at this
  rcases this with h1 | h1
  · exact List.contains_iff_mem.1 h1
  · rw [h1] at hs; cases hs
theorem Stg.agree (hs : Stg ops An a0 val L x a i) {n : Nat} (hn : ops.size = n) {x' : X} (h : ∀ j, 0 ≤ j → j < n → L j = true → val x' j = val x j) : ∀ j, L j = true → val x' j = val x j := fun j hj => h j (Nat.zero_le _) (by rw [← hn]; exact hs.lt j hj) hj
theorem no {b : Bool} {C : Prop} (h : b = false) (h1 : b = true) : C := by rw [h] at h1; cases h1
/-- a slot that operation k is going to write -/
theorem Stg.yet (hs : Stg ops An a0 val L x a i) (t : Tmp) (k : Nat) (hk : L k = false) (hc : ((List.range ops.size).all fun j => j == k || dstAt ops j != some t) = true) : a.eval (.tmp t) = a0.eval (.tmp t) :=
  hs.old t fun j e => by
    have hj : j < ops.size := by
      unfold dstAt at e
      cases ho : ops[j]? with
      | none => simp [ho] at e
      | some o => exact (Array.getElem?_eq_some_iff.1 ho).1
    have := List.all_eq_true.1 hc j (by simpa using hj)
    rw [e] at this
    simp at this
    rw [this]
    exact hk
theorem fr_keep (hfr : Fr ops a0 a) (W : List Nat) (hW : (ops.all fun o => match o.dst with | some d => W.contains d | none => true) = true) : ∀ t, W.contains t = false → a.eval (.tmp t) = a0.eval (.tmp t) := fun t ht => by
  refine hfr.rest t fun j hj e => ?_
  unfold dstAt at e
  cases ho : ops[j]? with
  | none => simp [ho] at e
  | some o =>
    have := Array.all_eq_true_iff_forall_mem.1 hW o (Array.mem_of_getElem? ho)
    simp only [ho, Option.bind_some] at e
    rw [e] at this
    simp only at this
    rw [ht] at this
    cases this
theorem want_none (hg : o.guard = none) (y : Nat → Option Bool) : Region.wanted o y = true := by simp [Region.wanted, hg]
theorem yield_undef {tmps : Array Value} {j d : Nat} (hd : dstAt ops j = some d) (he : tmps.getD d undef = undef) : yielded ops tmps j = none := by
  unfold dstAt at hd
  rw [Array.getD_eq_getD_getElem?] at he
  unfold yielded
  rw [hd]
  simp only [Option.bind_some]
  cases hx : tmps[d]? with
  | none => rfl
  | some v =>
    rw [hx] at he
    simp only [Option.getD_some] at he
    rw [he]
    rfl
theorem want_g {tmps : Array Value} {j d : Nat} {G B b : Bool} (hg : o.guard = some (j, b)) (hd : dstAt ops j = some d) (he : tmps.getD d undef = bif G then .bool B else undef) : Region.wanted o (yielded ops tmps) = (G && (B == b)) := by
  cases G with
  | false =>
    rw [Region.wanted, hg]
    simp only [yield_undef hd he]
    rfl
  | true =>
    rw [Region.wanted, hg]
    simp only [yield_of hd he]
    cases B <;> cases b <;> rfl
theorem want_gt {tmps : Array Value} {j d : Nat} {G B : Bool} (hg : o.guard = some (j, true)) (hd : dstAt ops j = some d) (he : tmps.getD d undef = bif G then .bool B else undef) : Region.wanted o (yielded ops tmps) = (G && B) := by
  rw [want_g hg hd he]; cases B <;> rfl
theorem want_gf {tmps : Array Value} {j d : Nat} {G B : Bool} (hg : o.guard = some (j, false)) (hd : dstAt ops j = some d) (he : tmps.getD d undef = bif G then .bool B else undef) : Region.wanted o (yielded ops tmps) = (G && !B) := by
  rw [want_g hg hd he]; cases B <;> rfl
theorem want_t {tmps : Array Value} {j d : Nat} {B : Bool} (hg : o.guard = some (j, true)) (hd : dstAt ops j = some d) (he : tmps.getD d undef = .bool B) : Region.wanted o (yielded ops tmps) = B := by
  rw [want_gt (G := true) hg hd he]; rfl
theorem want_f {tmps : Array Value} {j d : Nat} {B : Bool} (hg : o.guard = some (j, false)) (hd : dstAt ops j = some d) (he : tmps.getD d undef = .bool B) : Region.wanted o (yielded ops tmps) = !B := by
  rw [want_gf (G := true) hg hd he]; rfl
/-- an operation that leaves the world alone -/
theorem op_val (hwant : Region.wanted o (yielded ops a.tmps) = true) (hN : Goes ops val St L x a i o (Q' .normal)) (hst : St (upd L i) x w) (V : Value) (he : (execOp a.eval o).run P w = .ok (.value V) w) (hv : (match o.dst with | some _ => V | none => undef) = val x i) : wpList P ops Q' [o] a w := by
  refine wpList_step fun K hK => ?_
  rw [if_pos hwant]
  exact wp_val V he (hK _ _ (hN V x w (fun _ _ => rfl) hv hst))
theorem op_call (hwant : Region.wanted o (yielded ops a.tmps) = true) (hN : Goes ops val St L x a i o (Q' .normal)) (f : FuncId) (args : Array Value) (he : (execOp a.eval o).run P w = .ok (.enter f args) w) {post : Ending → World → Prop} (hc : Calls P f args w post)
    (h : ∀ e w', post e w' → ∃ v x', e = .returned v ∧ (∀ j, L j = true → val x' j = val x j) ∧ (match o.dst with | some _ => v | none => undef) = val x' i ∧ St (upd L i) x' w') : wpList P ops Q' [o] a w := by
  refine wpList_step fun K hK => ?_
  rw [if_pos hwant]
  refine wp_call f args he hc fun e w' hp => ?_
  obtain ⟨v, x', rfl, h1, h2, h3⟩ := h e w' hp
  exact ⟨v, rfl, hK _ _ (hN v x' w' h1 h2 h3)⟩
theorem exec_pick {c p q : Operand} {B : Bool} {U V : Value} (ho : o.op = .pick c p q) (hc : a.eval c = .bool B) (hp : B = true → a.eval p = U) (hq : B = false → a.eval q = V) : (execOp a.eval o).run P w = .ok (.value (bif B then U else V)) w := by
  unfold execOp
  simp only [ho, hc]
  cases B with
  | true => simp [hp rfl, asBool]
  | false => simp [hq rfl, asBool]
theorem exec_or {c q : Operand} {B Y : Bool} (ho : o.op = .pick c (.const (.bool true)) q) (hc : a.eval c = .bool B) (hq : B = false → a.eval q = .bool Y) : (execOp a.eval o).run P w = .ok (.value (.bool (B || Y))) w := by
  rw [exec_pick ho hc (U := .bool true) (fun _ => rfl) hq]
  cases B <;> rfl
theorem exec_and {c p : Operand} {B Y : Bool} (ho : o.op = .pick c p (.const (.bool false))) (hc : a.eval c = .bool B) (hp : B = true → a.eval p = .bool Y) : (execOp a.eval o).run P w = .ok (.value (.bool (B && Y))) w := by
  rw [exec_pick ho hc (V := .bool false) hp (fun _ => rfl)]
  cases B <;> rfl
theorem exec_eql {p q : Operand} {t yt : TypeId} {U V : Array Value} {b : Bool} (ho : o.op = .binOp .eql t p q yt) (hp : a.eval p = .agg U) (hq : a.eval q = .agg V) (hk : P.eqGuardType P.depth t = false) (he : (Op.equalIn 10000 t (.agg U) (.agg V)).run P w = .ok b w) : (execOp a.eval o).run P w = .ok (.value (.bool b)) w := by
  unfold execOp
  simp only [ho, hp, hq, Sem.run_bind, Sem.run_pure, Result.andThen_ok, run_eqGuard_agg _ _ _ _ _ _ _ hk, run_eql_struct, he]
theorem exec_neq {p q : Operand} {t yt : TypeId} {U V : Array Value} {b : Bool} (ho : o.op = .binOp .neq t p q yt) (hp : a.eval p = .agg U) (hq : a.eval q = .agg V) (hk : P.eqGuardType P.depth t = false) (he : (Op.equalIn 10000 t (.agg U) (.agg V)).run P w = .ok b w) : (execOp a.eval o).run P w = .ok (.value (.bool (!b))) w := by
  unfold execOp
  simp only [ho, hp, hq, Sem.run_bind, Sem.run_pure, Result.andThen_ok, run_eqGuard_agg _ _ _ _ _ _ _ hk, run_neq_struct, he]
theorem exec_move {p : Operand} {V : Value} (ho : o.op = .move p) (hp : a.eval p = V) : (execOp a.eval o).run P w = .ok (.value V) w := by
  unfold execOp
  simp only [ho, hp]
  simp
theorem exec_assign {p : Operand} {V : Value} (ho : o.op = .assign p) (hp : a.eval p = V) : (execOp a.eval o).run P w = .ok (.value V) w := by
  unfold execOp
  simp only [ho, hp]
  simp
theorem Hp.perm {R' : List Res} (h : Hp S w0 w R) (hp : R.Perm R') : Hp S w0 w R' :=
  ⟨h.off, fun r hr => h.holds r (hp.mem_iff.2 hr), fun r hr => h.lt r (hp.mem_iff.2 hr), fun r hr => h.newf r (hp.mem_iff.2 hr), (hp.pairwise_iff (fun {r q} hrq hq k hk hk' => hrq (by rw [Bool.and_comm]; exact hq) k hk' hk)).1 h.sep⟩
theorem then_normal {K : Act → World → Prop} (h : K a w) : Exit.then K Q .normal a w := h
theorem then_ret {K : Act → World → Prop} (h : Q .ret a w) : Exit.then K Q .ret a w := h
theorem then_exit {K : Act → World → Prop} {id : Nat} (h : Q (.exit id) a w) : Exit.then K Q (.exit id) a w := h
theorem block_normal {id : Nat} (h : Q .normal a w) : Exit.inBlock id Q .normal a w := h
theorem block_ret {id : Nat} (h : Q .ret a w) : Exit.inBlock id Q .ret a w := h
theorem block_exit {id : Nat} (h : Q .normal a w) : Exit.inBlock id Q (.exit id) a w := by simp only [Exit.inBlock, if_true]; exact h
theorem block_other {id id' : Nat} (hne : id' ≠ id) (h : Q (.exit id') a w) : Exit.inBlock id Q (.exit id') a w := by simp only [Exit.inBlock, if_neg hne]; exact h
theorem calls_start {f : FuncId} {fn : Func} {c : Code} {args : Array Value} {R : Ending → World → Prop} (hf : P.funcs[f]? = some fn) (hb : fn.body = some c) (N : Nat) (hn : fn.ntmps = N) (hle : args.size ≤ N)
    (h : ∀ a : Act, a.tmps.size = N → a.defers = [] → (∀ i, i < args.size → a.eval (.tmp i) = args.getD i undef) → c.wp P (bodyPost P fn R) a w) : Calls P f args w R := by
  refine calls_of_wp hf hb (h _ ?_ rfl ?_)
  · simp [hn]; omega
  · intro i hi
    show (args ++ Array.replicate (fn.ntmps - args.size) undef).getD i undef = args.getD i undef
    simp [Array.getD_eq_getD_getElem?, Array.getElem?_append, hi]
theorem ret1 {fn : Func} {R : Ending → World → Prop} {t : Tmp} {v : Value} (h : fn.results = #[.tmp t]) (hd : a.defers = []) (hv : a.eval (.tmp t) = v) (hR : R (.returned v) w) : bodyPost P fn R .ret a w :=
  ⟨hd, v, by rw [results_tmp h]; exact congrArg (fun u => Result.ok u w) hv, hR⟩
theorem ret2 {fn : Func} {R : Ending → World → Prop} {t u : Tmp} {v z : Value} (h : fn.results = #[.tmp t, .tmp u]) (hd : a.defers = []) (hv : a.eval (.tmp t) = v) (hz : a.eval (.tmp u) = z) (hR : R (.returned (.tuple #[v, z])) w) : bodyPost P fn R .ret a w :=
  ⟨hd, .tuple #[v, z], by
    have h1 : a.tmps.getD t undef = v := hv
    have h2 : a.tmps.getD u undef = z := hz
    rw [results_tmp2 h, h1, h2], hR⟩
end
theorem mixedP : Try.prog.follows .mixedOrders = true := by kernel_rfl
end Go.Proofs.Ytnanihffljpdbaa.Reg

/- Blocks that came in, and are only read: loads. -/
namespace Go.Proofs.Ytnanihffljpdbaa.Mem
set_option linter.unusedVariables false
set_option linter.unusedSimpArgs false
open Go.RowKit
/-- a block that came in -/
def rK (b : Nat) (t : TypeId) (cs : List Value) : Res := (rB b t cs).still
section
variable {P : Program} {ops : Array Oper} {rest : List Oper} {o : Oper} {a : Act} {w w0 : World} {Q : Exit → Act → World → Prop} {S : List Nat} {R : List Res} {ty n b : Nat} {z : List Value} {t : TypeId} {cs : List Value}
theorem hp_oldK (H : Hid (Hp [] w0 w R)) (h : Blk w0 b cs.toArray t) : Hid (Hp [] w0 w (rK b t cs :: R)) := by
  have hl := h.lt
  refine Lib.hid (H.out.share _ (Off.refl [] w) (H.out.off.blk h (by simp)) rfl fun k hk => ?_)
  have hk' : k = b := by simpa [rK, Res.still, rB] using hk
  subst hk'
  exact ⟨Nat.lt_of_lt_of_le hl H.out.off.size, .inr (.inl ⟨hl, by simp⟩)⟩
theorem hpK_load (T : TyI P ty n true z) (H : Hid (Hp S w0 w R)) {x : Operand} (ho : o.op = .load ty x) {k : Nat} (hx : a.eval x = .pointer (some ⟨b, k, none⟩)) (hw : Region.wanted o (yielded ops a.tmps) = true) (hm : rK b t cs ∈ R)
    {vs : List Value} (hv : (cs.drop k).take n = vs) (hn : vs.length = n)
    (h : wpList P ops Q rest (a.put o.dst (.agg vs.toArray)) w) : wpList P ops Q (o :: rest) a w := by
  have hb : Blk w b cs.toArray t := H.out.holds _ hm
  have H2 : Hid (Hp [b] w w [rB b t cs]) := Lib.hid ⟨Off.refl _ _, fun r hr => (List.mem_singleton.1 hr) ▸ hb, by simpa [rB] using hb.lt, by simp [rB], by simp⟩
  exact hpA_load T H2 ho hx hw (List.mem_singleton.2 rfl) hv hn h
theorem hpK_load1 (T : TyI P ty 1 false z) (H : Hid (Hp S w0 w R)) {x : Operand} (ho : o.op = .load ty x) {k : Nat} (hx : a.eval x = .pointer (some ⟨b, k, none⟩)) (hw : Region.wanted o (yielded ops a.tmps) = true) (hm : rK b t cs ∈ R)
    {v : Value} (hv : cs[k]? = some v)
    (h : wpList P ops Q rest (a.put o.dst v) w) : wpList P ops Q (o :: rest) a w := by
  have hb : Blk w b cs.toArray t := H.out.holds _ hm
  have H2 : Hid (Hp [b] w w [rB b t cs]) := Lib.hid ⟨Off.refl _ _, fun r hr => (List.mem_singleton.1 hr) ▸ hb, by simpa [rB] using hb.lt, by simp [rB], by simp⟩
  exact hpA_load1 T H2 ho hx hw (List.mem_singleton.2 rfl) hv h
/-- a fact that goes with the memory -/
def rP (p : Prop) : Res := ⟨[], fun _ => p, fun _ _ _ h => h, true⟩
theorem hp_fact (H : Hid (Hp S w0 w R)) {p : Prop} (h : p) : Hid (Hp S w0 w (rP p :: R)) :=
  Lib.hid (H.out.share _ (Off.refl [] w) h rfl (fun k hk => by cases hk))
theorem hp_told (H : Hid (Hp S w0 w R)) {p : Prop} (h : rP p ∈ R) : p := H.out.holds _ h
theorem perm_front {α : Type} : ∀ (l : List α) (i : Nat) (r : α), l[i]? = some r → l.Perm (r :: l.eraseIdx i)
  | [], _, _, h => by simp at h
  | a :: l, 0, r, h => by
    simp at h
    subst h
    exact List.Perm.refl _
  | a :: l, i + 1, r, h => ((perm_front l i r (by simpa using h)).cons a).trans (List.Perm.swap r a _)
theorem hp_front (H : Hid (Hp S w0 w R)) (i : Nat) {r : Res} (hi : R[i]? = some r) : Hid (Hp S w0 w (r :: R.eraseIdx i)) := by
  exact Lib.hid (Reg.Hp.perm H.out (perm_front R i r hi))
theorem hp_take (H : Hid (Hp S w0 w R)) (n : Nat) : Hid (Hp S w0 w (R.take n)) := Lib.hid (H.out.sub (List.take_sublist _ _))
theorem from_trans {wc : World} {Rs Rt : List Res} {foot : List Nat} (h : From wc Rt foot) (ho : Off [] w0 wc) (hR : ∀ r ∈ Rt, From w0 Rs r.foot) : From w0 Rs foot := fun q hq => by
  rcases h q hq with h1 | ⟨r, hr, _, hq'⟩
  · exact .inl (Nat.le_trans ho.size h1)
  · exact hR r hr q hq'
end
end Go.Proofs.Ytnanihffljpdbaa.Mem

/- Slices of slices: what is cut, and what it holds. -/
namespace Go.Proofs.Ytnanihffljpdbaa.Mem
set_option linter.unusedVariables false
set_option linter.unusedSimpArgs false
open Go.RowKit
/-- the address of what is cut behind l elements -/
def cutA (a : Option Addr) (c l k : Nat) : Option Addr := if c = l then a else a.map (fun p => p.add (l * k))
section
variable {P : Program} {o : Oper} {act : Act} {w w0 : World} {S : List Nat} {R : List Res} {t e k by_ n c i : Nat} {a : Option Addr} {x y : Operand}
theorem run_size_of (E : ElI P t e k by_) (w : World) : (sizeOf e).run P w = .ok k w := by
  obtain ⟨j, z, h1, h2, h3, h4, h5⟩ := E.info
  simp [sizeOf, typeInfo, h1, h3]
theorem elem_of (E : ElI P t e k by_) : P.elem t = e := by simp [Program.elem, E.und]
theorem exec_cut_h (E : ElI P t e k by_) (ho : o.op = .slice t x none (some y) none) (hx : act.eval x = .slice a n c) (hy : act.eval y = .int .i64 ((i : Nat) : Int)) (hc : i ≤ c) : (execOp act.eval o).run P w = .ok (.value (.slice a i c)) w := by
  have hu : P.underlying t = some (.slice (P.elem t)) := by rw [elem_of E]; exact E.und
  unfold execOp
  simp only [ho, hx, hy, Option.map_some, Option.map_none, Sem.run_bind, Instr.sliceAt, run_underlying hu]
  simp only [Result.andThen, run_slice_h w t a n c hu .i64 (i : Int) (by omega) (by omega), elem_of E, run_size_of E, sliced]
  cases a <;> simp [Addr.add]
theorem exec_cut_l (E : ElI P t e k by_) (ho : o.op = .slice t x (some y) none none) (hx : act.eval x = .slice a n c) (hy : act.eval y = .int .i64 ((i : Nat) : Int)) (hn : i ≤ n) : (execOp act.eval o).run P w = .ok (.value (.slice (cutA a c i k) (n - i) (c - i))) w := by
  have hu : P.underlying t = some (.slice (P.elem t)) := by rw [elem_of E]; exact E.und
  unfold execOp
  simp only [ho, hx, hy, Option.map_some, Option.map_none, Sem.run_bind, Instr.sliceAt, run_underlying hu]
  simp only [Result.andThen, run_slice_l w t a n c hu .i64 (i : Int) (by omega) (by omega), elem_of E, run_size_of E, sliced]
  simp [cutA]
theorem exec_rem {p q : Operand} {ty yt : TypeId} {kd : IntKind} {u v : Int} (ho : o.op = .binOp .rem ty p q yt) (hp : act.eval p = .int kd u) (hq : act.eval q = .int kd v) (hv : v ≠ 0) : (execOp act.eval o).run P w = .ok (.value (.int kd (u.tmod v))) w := by
  unfold execOp
  simp [ho, hp, hq, binOp_rem, Op.intDiv, hv, eqGuard]
theorem rS_take {α : Type} {f : α → List Value} {l : List α} (h : (rS a c k (l.map f)).holds w) (i : Nat) (hi : i ≤ l.length) : (rS a c k ((l.take i).map f)).holds w := by
  refine ⟨?_, h.2.sub fun r hr => ?_⟩
  · rcases h.1 with ⟨h1, h2⟩ | ⟨z, c', he, hc⟩
    · left
      have h3 : l = [] := by simpa using h2
      subst h3
      simpa using h1
    · right
      injection he with e1 e2 e3
      refine ⟨z, c, by rw [e1], fun j hj => ?_⟩
      have hj' : j < i ∧ j < l.length := by simp at hj; omega
      have h4 := hc j (by simpa using hj'.2)
      simpa using h4
  · rw [List.map_take] at hr
    exact List.mem_of_mem_take hr
theorem rS_drop {α : Type} {f : α → List Value} {l : List α} (h : (rS a c k (l.map f)).holds w) (i : Nat) (hi : i ≤ l.length) (hl : l.length ≤ c) : (rS (cutA a c i k) (c - i) k ((l.drop i).map f)).holds w := by
  refine ⟨?_, h.2.sub fun r hr => ?_⟩
  · rcases h.1 with ⟨h1, h2⟩ | ⟨z, c', he, hc⟩
    · left
      have h3 : l = [] := by simpa using h2
      subst h3
      injection h1 with e1 e2 e3
      subst e1 e3
      simp [cutA]
    · right
      injection he with e1 e2 e3
      subst e1
      by_cases hci : c = i
      · refine ⟨z, c - i, by rw [cutA, if_pos hci], fun j hj => ?_⟩
        simp at hj
        omega
      · refine ⟨z.add (i * k), c - i, by rw [cutA, if_neg hci]; rfl, fun j hj => ?_⟩
        have hj' : i + j < l.length := by simp at hj; omega
        have h4 := hc (i + j) (by simpa using hj')
        rw [Deep.add_add, ← Nat.add_mul]
        simpa using h4
  · rw [List.map_drop] at hr
    exact List.mem_of_mem_drop hr
theorem rA_cap {rows : List (List Value)} (h : (rA a c e k rows).holds w) : rows.length ≤ c := by
  rcases h.1.2 with ⟨h1, h2⟩ | ⟨g, cp, cur, h1, _, _, h2, _⟩
  · omega
  · injection h1 with e1 e2 e3
    omega
theorem rA_at {rows : List (List Value)} (h : (rA a c e k rows).holds w) (h0 : 0 < rows.length) : ∃ b, a = some ⟨b, 0, none⟩ := by
  rcases h.1.2 with ⟨h1, h2⟩ | ⟨g, cp, cur, h1, _⟩
  · omega
  · injection h1 with e1 e2 e3
    exact ⟨g, e1⟩
theorem hp_elstore {ops : Array Oper} {rest : List Oper} {Q : Exit → Act → World → Prop} {ty : Nat} {row : Bool} {z : List Value} {rows : List (List Value)} {a0 : Addr} (T : TyI P ty k row z) (H : Hid (Hp S w0 w R)) (ho : o.op = .store ty x y) (hgd : o.guard = none) {p : Addr} (hx : act.eval x = .pointer (some p)) {i j : Nat} (hp : p = a0.add (i * k)) {r : List Value} {V : Value} (hy : act.eval y = V) (hV : V.cells = r.toArray) (hr : r.length = k ∧ ∀ u ∈ r, u.oneCell' = true) (hj : R[j]? = some (rA (some a0) c e k rows)) (hi : i < rows.length)
    (h : ∀ w', Hid (Hp S w0 w' (R.set j (rA (some a0) c e k (rows.set i r)))) → wpList P ops Q rest (act.put o.dst undef) w') : wpList P ops Q (o :: rest) act w := by
  obtain ⟨b, hb⟩ := rA_at (H.out.at j hj) (by omega)
  injection hb with hb
  subst hb
  exact hp_rowstore T H ho hgd hx hp hy hV hr hj hi h
end
end Go.Proofs.Ytnanihffljpdbaa.Mem
