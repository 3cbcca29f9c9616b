/- Slices of structs: more steps; lists that are written in the middle. -/
import Derived.Test.YthflkhalipkdgaaProg
import Derived.Below
import Derived.WalkKit
import Derived.KernelRfl
import Derived.RowKit3
import Derived.Deep.LoopGhost
import Derived.Deep.QuietTactic
import Derived.BigQuiet
import Derived.WideLaws
import Derived.Deep.DeepCutAuto
import Derived.Deep.CutBlock
import Derived.Lib.Hide
import Derived.Laws.BitsLemmas
import Derived.Laws.Bits64
import Derived.Laws.BitsAllLaws
import Derived.IntWalk
import Derived.Outline
import Derived.WalkSpells
import Derived.Test.YthflkhalipkdgaaMem
import Derived.Test.YthflkhalipkdgaaSl
namespace Go.Proofs.Ythflkhalipkdgaa.Mem
set_option maxRecDepth 20000
set_option linter.unusedVariables false
set_option linter.unusedSimpArgs false
open Go.RowKit

theorem ElI.of {P : Program} {t e k by_ : Nat} (h1 : P.underlying t = some (.slice e)) (h2 : ((P.info? e).bind fun i => i.zero.map fun z => (i.size, i.bytes, z.cells.size)) = some (k, by_, k)) (h3 : 0 < k) : ElI P t e k by_ := by
  refine ⟨h1, ?_, h3⟩
  cases hi : P.info? e with
  | none => simp [hi] at h2
  | some i =>
    cases hz : i.zero with
    | none => simp [hi, hz] at h2
    | some z =>
      simp [hi, hz] at h2
      exact ⟨i, z, rfl, hz, h2.1, h2.2.1, h2.2.2⟩
section
variable {P : Program} {ops : Array Oper} {rest : List Oper} {o : Oper} {act : Act} {w w0 w' : World} {Q : Exit → Act → World → Prop} {S : List Nat} {R : List Res} {ty n k c e by_ t : Nat} {row : Bool} {z : List Value} {a : Option Addr} {rows news : List (List Value)}
theorem run_equalIn_func_nil {P : Program} (w : World) (d : Nat) (t : TypeId) {xs ys : Array TypeId} {b : Bool} (h : P.underlying t = some (.func xs ys b)) (f : Fn) (u v : Array Value) : (Op.equalIn (d + 1) t (.func f u v) .nilFunc).run P w = .ok false w := by
  simp [Op.equalIn, run_underlying h]
theorem run_equalIn_nil_nil {P : Program} (w : World) (d : Nat) (t : TypeId) {xs ys : Array TypeId} {b : Bool} (h : P.underlying t = some (.func xs ys b)) : (Op.equalIn (d + 1) t .nilFunc .nilFunc).run P w = .ok true w := by
  simp [Op.equalIn, run_underlying h]
theorem eql_fn_nil {P : Program} (w : World) (t : TypeId) {xs ys : Array TypeId} {b : Bool} (h : P.underlying t = some (.func xs ys b)) (f : Fn) (u v : Array Value) : (binOp .eql t (.func f u v) .nilFunc).run P w = .ok (.bool false) w := by
  simp only [binOp]
  simp [Op.equal, Op.maxDepth, run_equalIn_func_nil w 9999 t h]
theorem eql_nilnil_fn {P : Program} (w : World) (t : TypeId) {xs ys : Array TypeId} {b : Bool} (h : P.underlying t = some (.func xs ys b)) : (binOp .eql t .nilFunc .nilFunc).run P w = .ok (.bool true) w := by
  simp only [binOp]
  simp [Op.equal, Op.maxDepth, run_equalIn_nil_nil w 9999 t h]
theorem zero_cells_length (cs : Array Value) (n : Nat) : (Builtin.zeroCells cs n).toList.length = n * cs.size := by
  simp [Builtin.zeroCells, Nat.mul_comm]
/-- an empty slice literal -/
theorem hp_bslice0 (E : ElI P t e k by_) (H : Hid (Hp S w0 w R)) (ho : o.op = .buildSlice t 0 #[]) (hw : Region.wanted o (yielded ops act.tmps) = true)
    (h : ∀ w' b, Hid (Hp S w0 w' (rA (some ⟨b, 0, none⟩) 0 e k [] :: R)) → wpList P ops Q rest (act.put o.dst (.slice (some ⟨b, 0, none⟩) 0 0)) w') : wpList P ops Q (o :: rest) act w := by
  obtain ⟨j, z, h1, h2, h3, h4, h5⟩ := E.info
  refine wpList_step fun K hK => ?_
  rw [if_pos hw]
  have e1 : (Instr.buildSlice t 0 #[]).run P w = .ok (.slice (some ⟨w.heap.size, 0, none⟩) 0 0) (w.alloc (.cells #[] e)) := by
    unfold Instr.buildSlice
    rw [Sem.run_bind, run_underlying E.und w]
    simp [sizeOf, typeInfo, h1, Instr.fill, newRow]
    congr 2
    exact Array.eq_empty_of_size_eq_zero (by simp)
  unfold Oper.wp execOp
  simp only [ho, Sem.run_bind, Sem.run_pure, Result.andThen_ok, List.map_toArray, List.map_nil]
  rw [e1]
  refine hK _ _ (h _ w.heap.size (Lib.hid (H.out.push _ ((Off.refl _ _).alloc _) ⟨own_made w _ rfl e k, Wf.nil k⟩ ?_)))
  intro q hq
  obtain rfl : q = w.heap.size := by simpa [rA, footA] using hq
  exact ⟨Nat.le_refl _, by show w.heap.size < (w.heap.push _).size; rw [Array.size_push]; omega⟩
theorem hp_gotA (H : Hid (Hp S w0 w R)) (ho : Off [] w w') (hs : (rA a c e k rows).holds w') (hf : ∀ q ∈ footA a, w.heap.size ≤ q) : Hid (Hp S w0 w' (rA a c e k rows :: R)) :=
  Lib.hid (H.out.push _ ho hs fun q hq => ⟨hf q hq, rA_lt hs q hq⟩)
theorem hp_giveA (H : Hid (Hp [] w0 w R)) (hm : rA a c e k rows ∈ R) : (rA a c e k rows).holds w ∧ (∀ q ∈ footA a, w0.heap.size ≤ q) ∧ Off [] w0 w :=
  ⟨H.out.holds _ hm, fun q hq => by simpa using H.out.newf _ hm rfl q hq, H.out.off⟩
end
theorem blk_shape {w : World} {b : Nat} {cs : Array Value} {t : TypeId} (h : Blk w b cs t) : w.shape? b = some (t, cs.size) := by
  unfold Blk at h
  simp [World.shape?, h]
/-! a list that is written in the middle -/
theorem spl_eq : ∀ (cs : List Value) (k : Nat) (vs : List Value), k + vs.length ≤ cs.length → spl cs k vs = cs.take k ++ vs ++ cs.drop (k + vs.length)
  | [], k, vs, h => by
    have : vs = [] := by cases vs with | nil => rfl | cons => simp at h
    subst this
    simp [spl_nil]
  | x :: cs, 0, [], _ => by simp [spl_nil]
  | x :: cs, 0, v :: vs, h => by
    rw [spl, spl_eq cs 0 vs (by simp at h ⊢; omega)]
    simp [Nat.add_comm]
  | x :: cs, k + 1, vs, h => by
    rw [spl, spl_eq cs k vs (by simp at h; omega)]
    simp [Nat.add_right_comm]
theorem take_flatten {k : Nat} : ∀ {rows : List (List Value)} (_ : ∀ r ∈ rows, r.length = k) (i : Nat), rows.flatten.take (i * k) = (rows.take i).flatten
  | [], _, i => by simp
  | r :: rows, h, 0 => by simp
  | r :: rows, h, i + 1 => by
    have hr : r.length = k := h r (by simp)
    rw [List.flatten_cons, List.take_succ_cons, List.flatten_cons, List.take_append, hr]
    rw [List.take_of_length_le (by rw [hr, Nat.succ_mul]; omega), show (i + 1) * k - k = i * k by rw [Nat.succ_mul]; omega, take_flatten (fun x hx => h x (by simp [hx])) i]
theorem drop_flatten {k : Nat} : ∀ {rows : List (List Value)} (_ : ∀ r ∈ rows, r.length = k) (i : Nat), rows.flatten.drop (i * k) = (rows.drop i).flatten
  | [], _, i => by simp
  | r :: rows, h, 0 => by simp
  | r :: rows, h, i + 1 => by
    have hr : r.length = k := h r (by simp)
    rw [List.flatten_cons, List.drop_succ_cons, List.drop_append, hr, List.drop_of_length_le (by rw [hr, Nat.succ_mul]; omega), show (i + 1) * k - k = i * k by rw [Nat.succ_mul]; omega, drop_flatten (fun x hx => h x (by simp [hx])) i, List.nil_append]
/-- a row goes in between -/
def putIn (rows : List (List Value)) (i : Nat) (p : List Value) : List (List Value) := rows.take i ++ p :: rows.drop i
theorem putIn_length {rows : List (List Value)} {i : Nat} {p : List Value} (h : i ≤ rows.length) : (putIn rows i p).length = rows.length + 1 := by
  simp [putIn]; omega
theorem Wf.putIn {k : Nat} {rows : List (List Value)} (h : Wf k rows) {p : List Value} (hp : p.length = k ∧ ∀ u ∈ p, u.oneCell' = true) (i : Nat) : Wf k (putIn rows i p) := by
  intro r hr
  rcases List.mem_append.1 hr with h1 | h1
  · exact h r (List.mem_of_mem_take h1)
  · rcases List.mem_cons.1 h1 with rfl | h1
    · exact hp
    · exact h r (List.mem_of_mem_drop h1)
theorem shift_list {cur p : List Value} {rows : List (List Value)} {k i : Nat} (hl : ∀ r ∈ rows, r.length = k) (hp : p.length = k) (hi : i ≤ rows.length) (hc : (rows.length + 1) * k ≤ cur.length) (ht : cur.take (rows.length * k) = rows.flatten) :
    (spl (spl cur ((i + 1) * k) (rows.drop i).flatten) (i * k) p).take ((rows.length + 1) * k) = (putIn rows i p).flatten := by
  have hdl : (rows.drop i).flatten.length = (rows.length - i) * k := by rw [flatten_len k _ (fun r hr => hl r (List.mem_of_mem_drop hr)), List.length_drop]
  have e1 : (i + 1) * k + (rows.length - i) * k = (rows.length + 1) * k := by rw [← Nat.add_mul]; congr 1; omega
  have e2 : (i + 1) * k = i * k + k := Nat.succ_mul i k
  have e3 : i * k ≤ rows.length * k := Nat.mul_le_mul_right k hi
  have e4 : (rows.length + 1) * k = rows.length * k + k := Nat.succ_mul _ k
  have h1 := spl_eq cur ((i + 1) * k) (rows.drop i).flatten (by rw [hdl]; omega)
  have hl1 : (spl cur ((i + 1) * k) (rows.drop i).flatten).length = cur.length := spl_length _ _ _
  rw [spl_eq _ _ p (by rw [hl1, hp]; omega), h1, hdl, hp, e1]
  have f1 : (cur.take ((i + 1) * k) ++ (rows.drop i).flatten ++ cur.drop ((rows.length + 1) * k)).take (i * k) = (rows.take i).flatten := by
    rw [List.append_assoc, List.take_append_of_le_length (by rw [List.length_take]; omega), List.take_take, Nat.min_eq_left (by omega), ← take_flatten hl, ← ht, List.take_take, Nat.min_eq_left e3]
  have f2 : (cur.take ((i + 1) * k) ++ (rows.drop i).flatten ++ cur.drop ((rows.length + 1) * k)).drop (i * k + k) = (rows.drop i).flatten ++ cur.drop ((rows.length + 1) * k) := by
    rw [List.append_assoc, List.drop_append, List.drop_of_length_le (by rw [List.length_take]; omega), List.length_take, Nat.min_eq_left (by omega), e2, Nat.sub_self]
    simp
  rw [f1, f2]
  have hl2 : ((rows.take i).flatten ++ p ++ (rows.drop i).flatten).length = (rows.length + 1) * k := by
    rw [List.length_append, List.length_append, hdl, hp, flatten_len k _ (fun r hr => hl r (List.mem_of_mem_take hr)), List.length_take, Nat.min_eq_left hi, ← e1]
    omega
  rw [← List.append_assoc, List.take_append_of_le_length (by rw [hl2]; exact Nat.le_refl _), List.take_of_length_le (by rw [hl2]; exact Nat.le_refl _)]
  simp [putIn]
theorem spl_at (A B D : List Value) (h : D.length ≤ B.length) : (spl (A ++ B) A.length D).take (A.length + D.length) = A ++ D := by
  rw [spl_eq _ _ _ (by rw [List.length_append]; omega), List.take_append_of_le_length (Nat.le_refl _), List.take_length, List.take_append_of_le_length (by rw [List.length_append]; exact Nat.le_refl _), ← List.length_append, List.take_length]
theorem grow_list {Z p : List Value} {rows : List (List Value)} {k i : Nat} (hl : ∀ r ∈ rows, r.length = k) (hp : p.length = k) (hi : i ≤ rows.length) (hc : (rows.length + 1 - i) * k ≤ Z.length) :
    (spl (spl ((rows.take i).flatten ++ Z) (i * k) p) ((i + 1) * k) (rows.drop i).flatten).take ((rows.length + 1) * k) = (putIn rows i p).flatten := by
  have hdl : (rows.drop i).flatten.length = (rows.length - i) * k := by rw [flatten_len k _ (fun r hr => hl r (List.mem_of_mem_drop hr)), List.length_drop]
  have htl : (rows.take i).flatten.length = i * k := by rw [flatten_len k _ (fun r hr => hl r (List.mem_of_mem_take hr)), List.length_take, Nat.min_eq_left hi]
  have e1 : (i + 1) * k + (rows.length - i) * k = (rows.length + 1) * k := by rw [← Nat.add_mul]; congr 1; omega
  have e2 : (i + 1) * k = i * k + k := Nat.succ_mul i k
  have e5 : (rows.length + 1 - i) * k = k + (rows.length - i) * k := by rw [show rows.length + 1 - i = (rows.length - i) + 1 by omega, Nat.succ_mul]; omega
  have h1 : spl ((rows.take i).flatten ++ Z) (i * k) p = (rows.take i).flatten ++ p ++ Z.drop k := by
    rw [spl_eq _ _ p (by rw [List.length_append, htl, hp]; omega), List.take_append_of_le_length (by omega), List.take_of_length_le (by omega), hp, List.drop_append, List.drop_of_length_le (by omega), htl, List.nil_append]
    congr 2
    omega
  have hpl : ((rows.take i).flatten ++ p).length = i * k + k := by rw [List.length_append, htl, hp]
  rw [h1, e2, ← hpl, show (rows.length + 1) * k = ((rows.take i).flatten ++ p).length + (rows.drop i).flatten.length by rw [hpl, hdl]; omega, spl_at _ _ _ (by rw [List.length_drop, hdl]; omega)]
  simp [putIn]
section
variable {P : Program}
theorem step_append_runI {ops : Array Oper} {o : Oper} {a : Act} {w : World} {K : Act → World → Prop} {Q : Exit → Act → World → Prop} {E : Prop}
    (hg : o.guard = none) (d x : Operand) (dT sT : TypeId) (hop : o.op = Op.call { callee := Callee.builtin Builtin.append, args := #[d, x], argTypes := #[dT, sT] })
    (v u : Value) (hd : a.eval d = v) (hx : a.eval x = u) {v' : Value} {w' : World} (hr : (Builtin.append_ #[dT, sT] o.type #[v, u]).run P w = .ok v' w') (hK : K (a.put o.dst v') w') :
    if Region.wanted o (yielded ops a.tmps) = true then Oper.wp P o a w K Q else E := by
  have hw : Region.wanted o (yielded ops a.tmps) = true := by simp [Region.wanted, hg]
  rw [if_pos hw]
  unfold Oper.wp
  simp [execOp, hop, resolve, invoke, builtin, hd, hx, hr, Result.andThen]
  exact hK
theorem wpList_clear_runI {w : World} {ops : Array Oper} {rest : List Oper} {o : Oper} {a : Act} {Q : Exit → Act → World → Prop} (hgd : o.guard = none) (x : Operand) (t : TypeId)
    (ho : o.op = .call { callee := .builtin .clear, args := #[x], argTypes := #[t] }) (u : Value) (hx : a.eval x = u) {v' : Value} {w' : World}
    (hr : (Builtin.clear_ #[t] o.type #[u]).run P w = .ok v' w') (h : wpList P ops Q rest (a.put o.dst v') w') : wpList P ops Q (o :: rest) a w := by
  refine wpList_plain hgd fun K hK => ?_
  unfold Oper.wp execOp
  simp only [ho, resolve, invoke, builtin, Sem.run_bind, Sem.run_pure, Result.andThen_ok, List.map_toArray, List.map_cons, List.map_nil, hx, hr]
  exact hK _ _ h
end
theorem off_setRow {w : World} {g : Nat} (cs : Array Value) : Off [g] w (w.setRow g cs) := ⟨rfl, rfl, rfl, by simp, fun k _ hk => setRow_other w g k cs (by simpa using hk)⟩
theorem hp_startA {w : World} {a : Option Addr} {c e k : Nat} {rows : List (List Value)} (h : (rA a c e k rows).holds w) : Hid (Hp (footA a) w w [rA a c e k rows]) :=
  Lib.hid ⟨Off.refl _ _, by simpa using h, by intro r hr; obtain rfl : r = _ := by simpa using hr
                                              exact rA_lt h, by intro r hr _ q hq; obtain rfl : r = _ := by simpa using hr
                                                                exact .inl hq, by simp⟩
theorem hp_oldS {S : List Nat} {w0 w : World} {R : List Res} {a : Option Addr} {c k : Nat} {rows : List (List Value)} (H : Hid (Hp S w0 w R)) (h : (rS a c k rows).holds w) (hw : w.heap.size ≤ w0.heap.size) (hk : 0 < k) (hS : ∀ q ∈ (rS a c k rows).foot, q ∉ S) : Hid (Hp S w0 w (rS a c k rows :: R)) := by
  have hl := rS_lt h hk
  refine Lib.hid (H.out.share _ (Off.refl [] w) h rfl fun q hq => ?_)
  have := hl q hq
  exact ⟨this, .inr (.inl ⟨by omega, hS q hq⟩)⟩
theorem single_of_blk {w : World} {g e k : Nat} {p : List Value} (hg : Blk w g p.toArray e) (hp : p.length = k ∧ ∀ u ∈ p, u.oneCell' = true) : (rS (some ⟨g, 0, none⟩) 1 k [p]).holds w := by
  refine ⟨.inr ⟨⟨g, 0, none⟩, 1, rfl, fun i hi j u hu => ?_⟩, fun r hr => ?_⟩
  · obtain rfl : i = 0 := by simpa using hi
    have := rows_one (cs := p) hg j u hu
    simpa [Addr.add] using this
  · obtain rfl : r = p := by simpa using hr
    exact hp
theorem rA_of_blk {w : World} {N G n e k : Nat} {cs : Array Value} {rows : List (List Value)} (hb : Blk w N cs e) (hn : rows.length = n) (h1 : n ≤ G) (h2 : G ≤ maxLen) (h3 : cs.size = G * k) (h4 : cs.toList.take (n * k) = rows.flatten) (hwf : Wf k rows) : (rA (some ⟨N, 0, none⟩) G e k rows).holds w := by
  subst hn
  exact ⟨⟨flatten_len k rows hwf.len, .inr ⟨N, G, cs, rfl, Nat.zero_le _, hb, h1, h2, h3, h4⟩⟩, hwf⟩
/-- a row goes out -/
def cutAt (rows : List (List Value)) (i : Nat) : List (List Value) := rows.take i ++ rows.drop (i + 1)
theorem Wf.cutAt {k : Nat} {rows : List (List Value)} (h : Wf k rows) (i : Nat) : Wf k (cutAt rows i) :=
  Wf.app (h.sub fun _ hr => List.mem_of_mem_take hr) (h.sub fun _ hr => List.mem_of_mem_drop hr)
theorem cutAt_length {rows : List (List Value)} {i : Nat} (h : i < rows.length) : (cutAt rows i).length = rows.length - 1 := by
  simp [cutAt]; omega
theorem cut_list {cur Z : List Value} {rows : List (List Value)} {k i : Nat} (hl : ∀ r ∈ rows, r.length = k) (hi : i < rows.length) (hc : rows.length * k ≤ cur.length) (ht : cur.take (rows.length * k) = rows.flatten) (hz : Z.length = k) :
    (spl (spl cur (i * k) (rows.drop (i + 1)).flatten) ((rows.length - 1) * k) Z).take ((rows.length - 1) * k) = (cutAt rows i).flatten := by
  have hdl : (rows.drop (i + 1)).flatten.length = (rows.length - (i + 1)) * k := by rw [flatten_len k _ (fun r hr => hl r (List.mem_of_mem_drop hr)), List.length_drop]
  have e1 : i * k + (rows.length - (i + 1)) * k = (rows.length - 1) * k := by rw [← Nat.add_mul]; congr 1; omega
  have e2 : (rows.length - 1) * k + k = rows.length * k := by rw [← Nat.succ_mul]; congr 1; omega
  have hl1 : (spl cur (i * k) (rows.drop (i + 1)).flatten).length = cur.length := spl_length _ _ _
  rw [spl_eq _ _ Z (by rw [hl1, hz]; omega), List.append_assoc, List.take_append_of_le_length (by rw [List.length_take, hl1]; omega), List.take_take, Nat.min_self]
  rw [spl_eq _ _ _ (by rw [hdl]; omega)]
  have hal : (cur.take (i * k)).length = i * k := by rw [List.length_take]; omega
  have hl2 : (cur.take (i * k) ++ (rows.drop (i + 1)).flatten).length = (rows.length - 1) * k := by rw [List.length_append, hal, hdl, e1]
  rw [List.take_append_of_le_length (by rw [hl2]; exact Nat.le_refl _), List.take_of_length_le (by rw [hl2]; exact Nat.le_refl _)]
  have hil : i * k ≤ rows.length * k := Nat.mul_le_mul_right k (by omega)
  rw [cutAt, List.flatten_append, ← take_flatten hl, ← ht, List.take_take, Nat.min_eq_left hil]
theorem set_list {cur r : List Value} {rows : List (List Value)} {k i : Nat} (hl : ∀ r ∈ rows, r.length = k) (hi : i < rows.length) (hr : r.length = k) (hc : rows.length * k ≤ cur.length) (ht : cur.take (rows.length * k) = rows.flatten) :
    (spl cur (i * k) r).take (rows.length * k) = (rows.set i r).flatten := by
  have hil : i * k ≤ rows.length * k := Nat.mul_le_mul_right k (by omega)
  have e2 : i * k + k + (rows.length - (i + 1)) * k = rows.length * k := by rw [← Nat.succ_mul, ← Nat.add_mul]; congr 1; omega
  rw [spl_eq _ _ _ (by omega), hr, List.take_append, List.length_append, List.length_take, Nat.min_eq_left (by omega), hr, List.take_of_length_le (by rw [List.length_append, List.length_take]; omega)]
  have hd : (cur.drop (i * k + k)).take (rows.length * k - (i * k + k)) = (rows.drop (i + 1)).flatten := by
    rw [← drop_flatten hl, ← ht, ← Nat.succ_mul, List.drop_take]
  rw [hd, List.set_eq_take_append_cons_drop, if_pos hi, List.flatten_append, List.flatten_cons, ← take_flatten hl, ← ht, List.take_take, Nat.min_eq_left hil, List.append_assoc]
section
variable {P : Program} {ops : Array Oper} {rest : List Oper} {o : Oper} {act : Act} {w w0 : World} {Q : Exit → Act → World → Prop} {S : List Nat} {R : List Res} {ty k c e : Nat} {row : Bool} {z : List Value} {rows : List (List Value)}
/-- an element of a slice of the call's own is written -/
theorem hp_rowstore (T : TyI P ty k row z) (H : Hid (Hp S w0 w R)) {x y : Operand} (ho : o.op = .store ty x y) (hgd : o.guard = none) {p : Addr} (hx : act.eval x = .pointer (some p)) {b i j : Nat} (hp : p = (⟨b, 0, none⟩ : Addr).add (i * k)) {r : List Value} {V : Value} (hy : act.eval y = V) (hV : V.cells = r.toArray) (hr : r.length = k ∧ ∀ u ∈ r, u.oneCell' = true) (hj : R[j]? = some (rA (some ⟨b, 0, none⟩) c e k rows)) (hi : i < rows.length)
    (h : ∀ w', Hid (Hp S w0 w' (R.set j (rA (some ⟨b, 0, none⟩) c e k (rows.set i r)))) → wpList P ops Q rest (act.put o.dst undef) w') : wpList P ops Q (o :: rest) act w := by
  subst hp
  have hA := H.out.at j hj
  obtain ⟨hrl, ⟨_, h0⟩ | ⟨g, cap, cur, he, _, hcur, hnc, hcm, hcz, htk⟩⟩ := hA.1
  · omega
  injection he with e1 _ e3
  injection e1 with e1
  injection e1 with e1 _ _
  subst e1
  subst e3
  have hb : Blk w b cur e := hcur
  have hnk : rows.length * k ≤ cur.size := by rw [hcz]; exact Nat.mul_le_mul_right _ hnc
  have hik : i * k + k ≤ rows.length * k := by rw [← Nat.succ_mul]; exact Nat.mul_le_mul_right _ hi
  refine wpList_plain hgd fun K hK => ?_
  have est : (storeVar ty ⟨b, i * k, none⟩ V).run P w = .ok () (w.setCells b (i * k) r) := by
    have := run_storeCells_cells (P := P) b (i * k) r 0 w (fun j hj => by rw [hb.cell _ (cur[i * k + 0 + j]'(by rw [hr.1] at hj; omega)) (by simp [show i * k + 0 + j < cur.size by rw [hr.1] at hj; omega])]; rfl) (fun j hj => hb.free _) hr.2
    simp only [Nat.add_zero] at this
    have hT := T.size
    cases hq : P.info? ty with
    | none => simp [hq] at hT
    | some q =>
      have hs : r.length = q.size := by simp [hq] at hT; omega
      simp [storeVar, sizeOf, typeInfo, hq, hV, hs, this]
  have ea : (⟨b, 0, none⟩ : Addr).add (i * k) = ⟨b, i * k, none⟩ := by rw [Addr.add_lit, Nat.zero_add]
  unfold Oper.wp execOp
  simp only [ho, hx, hy, ea, Instr.storeAt, Instr.sureAddr, Sem.run_bind, Sem.run_pure, Result.andThen_ok, est]
  have hB2 := blk_setCells r (i * k) cur.toList w (b := b) (t := e) (show Blk w b cur.toList.toArray e from hb)
  refine hK _ _ (h _ (Lib.hid (H.out.step j hj _ (off_setCells r (i * k) w) (by simp [rA, footA]) ?_ ?_)))
  · have hwf : Wf k (rows.set i r) := by
      intro q hq
      rcases List.mem_or_eq_of_mem_set hq with h1 | rfl
      · exact hA.2 q h1
      · exact hr
    exact rA_of_blk hB2 (by simp) hnc hcm (by simp [spl_length, hcz]) (by simpa using set_list hA.2.len hi hr.1 (by rw [Array.length_toList (xs := cur)]; exact hnk) htk) hwf
  · intro q hq
    refine ⟨.inl hq, ?_⟩
    rw [size_setCells]
    exact rA_lt hA q hq
end
/-- a block whose cells are whatever they are -/
def rX (b : Nat) (t : TypeId) (n : Nat) : Res := ⟨[b], fun w => ∃ cs : List Value, cs.length = n ∧ Blk w b cs.toArray t, fun _ _ h hb => by
  obtain ⟨cs, h1, h2⟩ := hb
  refine ⟨cs, h1, ?_⟩
  unfold Blk at *
  rw [h b (by simp)]
  exact h2, false⟩
section
variable {S : List Nat} {w0 w w' : World} {R : List Res} {a : Option Addr} {c e k b n : Nat} {rows : List (List Value)}
theorem hp_loose (H : Hid (Hp S w0 w R)) (i : Nat) {t : TypeId} {cs : List Value} (hi : R[i]? = some (rB b t cs)) : Hid (Hp S w0 w (R.set i (rX b t cs.length))) := by
  have hb := H.out.blk i hi
  refine Lib.hid (H.out.step i hi (rX b t cs.length) (Off.refl [] w) (by simp) ⟨cs, rfl, hb⟩ (fun q hq => ⟨.inl hq, ?_⟩))
  obtain rfl : q = b := by simpa [rX] using hq
  exact hb.lt
theorem hp_fill2 (H : Hid (Hp S w0 w R)) (i : Nat) {t : TypeId} (hi : R[i]? = some (rX b t 2)) (x y : Value) : Hid (Hp S w0 ((w.setCell ⟨b, 0, none⟩ x).setCell ⟨b, 1, none⟩ y) (R.set i (rB b t [x, y]))) := by
  obtain ⟨cs, h1, h2⟩ := H.out.at i hi
  match cs, h1 with
  | [u, v], _ =>
    have hb := blk_setCells [x, y] 0 [u, v] w h2
    have ho := off_setCells (b := b) [x, y] 0 w
    refine Lib.hid (H.out.step i hi (rB b t [x, y]) ho (by simp [rX]) hb (fun q hq => ⟨.inl hq, ?_⟩))
    obtain rfl : q = b := by simpa [rB] using hq
    exact hb.lt
theorem rX_cells (h : (rX b e 2).holds w) : ∃ u v, w.cell? ⟨b, 0, none⟩ = some u ∧ w.cell? ⟨b, 1, none⟩ = some v ∧ w.frozen? ⟨b, 0, none⟩ = false ∧ w.frozen? ⟨b, 1, none⟩ = false := by
  obtain ⟨cs, h1, h2⟩ := h
  match cs, h1 with
  | [u, v], _ => exact ⟨u, v, h2.cell 0 u rfl, h2.cell 1 v rfl, h2.free 0, h2.free 1⟩
/-- a condition that stays in a region that draws, where a call writes what is new, too -/
theorem Hp.pack3 (H : Hid (Hp S w0 w R)) : ∃ Sx : World → Prop, Keeps Sx w ∧ (∀ w', Keeps Sx w' → Hp S w0 w' R) ∧ (∀ w', Keeps Sx w' → Keeps Sx w'.drew) ∧ (∀ w' w'', Keeps Sx w' → Off [] w' w'' → Keeps Sx w'') ∧
    (∀ w', Keeps Sx w' → w.heap.size ≤ w'.heap.size) ∧ (∀ w' w'' F, Keeps Sx w' → Off F w' w'' → (∀ q ∈ F, w.heap.size ≤ q) → Keeps Sx w'') ∧
    (∀ w' w'' b t n, Keeps Sx w' → rX b t n ∈ R → Off [b] w' w'' → (rX b t n).holds w'' → Keeps Sx w'') := by
  refine ⟨fun w' => Hp S w0 w' R ∧ w.heap.size ≤ w'.heap.size, ⟨H.out, Nat.le_refl _⟩, fun _ h => h.1, fun _ h => ⟨Hp.drew h.1, h.2⟩, fun _ _ h ho => ⟨Hp.quiet h.1 ho, Nat.le_trans h.2 ho.size⟩, fun _ h => h.2, fun w' w'' F h ho hF => ⟨?_, Nat.le_trans h.2 ho.size⟩, fun w' w'' b t n h hm ho hh => ⟨?_, Nat.le_trans h.2 ho.size⟩⟩
  · have hlt : ∀ r ∈ R, ∀ q ∈ r.foot, q ∉ F := fun r hr q hq hqF => by
      have := H.out.lt r hr q hq
      have := hF q hqF
      omega
    refine ⟨h.1.off.trans ho (fun i hi hiF => ?_), fun r hr => r.stable w' w'' (fun q hq => ho.block q (h.1.lt r hr q hq) (hlt r hr q hq)) (h.1.holds r hr), fun r hr q hq => Nat.lt_of_lt_of_le (h.1.lt r hr q hq) ho.size, h.1.newf, h.1.sep⟩
    have := hF i hiF
    have := H.out.off.size
    omega
  · obtain ⟨i, hi⟩ := idx_of_mem hm
    have hil : i < R.length := (List.getElem?_eq_some_iff.1 hi).1
    have := h.1.step i hi (rX b t n) ho (by simp [rX]) hh (fun q hq => ⟨.inl hq, Nat.lt_of_lt_of_le (h.1.lt _ hm q hq) ho.size⟩)
    rwa [show R.set i (rX b t n) = R from by rw [← (List.getElem?_eq_some_iff.1 hi).2]; exact List.set_getElem_self hil] at this
theorem rA_keep (h : (rA a c e k rows).holds w) (ho : Off [] w w') : (rA a c e k rows).holds w' :=
  (rA a c e k rows).stable w w' (fun q hq => ho.block q (rA_lt h q hq) (by simp)) h
theorem rX_set2 {t : TypeId} (h : (rX b t 2).holds w) (x y : Value) : (rX b t 2).holds ((w.setCell ⟨b, 0, none⟩ x).setCell ⟨b, 1, none⟩ y) ∧ Off [b] w ((w.setCell ⟨b, 0, none⟩ x).setCell ⟨b, 1, none⟩ y) := by
  obtain ⟨cs, h1, h2⟩ := h
  exact ⟨⟨spl cs 0 [x, y], by rw [spl_length, h1], blk_setCells [x, y] 0 cs w h2⟩, off_setCells (b := b) [x, y] 0 w⟩
end
theorem size_alloc_lt (w : World) (o : Obj) : ¬ (w.alloc o).heap.size ≤ w.heap.size := by
  show ¬ (w.heap.push _).size ≤ w.heap.size
  rw [Array.size_push]
  omega
theorem rA_new {a : Option Addr} {c e k : Nat} {rows : List (List Value)} {w : World} (h : (rA a c e k rows).holds w) : w.heap.size ∉ footA a := fun hq => absurd (rA_lt h _ hq) (Nat.lt_irrefl _)
theorem fresh_new {F : List Nat} {w : World} {o : Obj} (h : ∀ q ∈ F, (w.alloc o).heap.size ≤ q) : w.heap.size ∉ F := fun hq => absurd (h _ hq) (size_alloc_lt _ _)
/-- a thing in memory that is newer than all others -/
theorem hp_add {S : List Nat} {w0 wS w : World} {R : List Res} (HS : Hid (Hp S w0 wS R)) (H : Hp S w0 w R) {r : Res} (hr : r.holds w) (hl : ∀ q ∈ r.foot, q < w.heap.size) (hn : ∀ q ∈ r.foot, wS.heap.size ≤ q) : Hid (Hp S w0 w (r :: R)) := by
  refine Lib.hid ⟨H.off, fun p hp => ?_, fun p hp k hk => ?_, fun p hp hpo k hk => ?_, List.pairwise_cons.2 ⟨fun p hp _ k hk hk' => ?_, H.sep⟩⟩
  · rcases List.mem_cons.1 hp with rfl | hp
    · exact hr
    · exact H.holds p hp
  · rcases List.mem_cons.1 hp with rfl | hp
    · exact hl k hk
    · exact H.lt p hp k hk
  · rcases List.mem_cons.1 hp with rfl | hp
    · exact .inr (Nat.le_trans HS.out.off.size (hn k hk))
    · exact H.newf p hp hpo k hk
  · have := HS.out.lt p hp k hk'
    have := hn k hk
    omega
section
variable {P : Program} {ops : Array Oper} {rest : List Oper} {o : Oper} {act : Act} {w : World} {Q : Exit → Act → World → Prop} {ty t : TypeId}
theorem hp_neq_struct {x y : Operand} (ho : o.op = .binOp .neq ty x y t) (hw : Region.wanted o (yielded ops act.tmps) = true) {X Y : Array Value} (hx : act.eval x = .agg X) (hy : act.eval y = .agg Y) (hg : P.eqGuardType P.depth ty = false) {b : Bool} (he : ∀ w, (Op.equalIn 10000 ty (.agg X) (.agg Y)).run P w = .ok b w)
    (h : wpList P ops Q rest (act.put o.dst (.bool (!b))) w) : wpList P ops Q (o :: rest) act w := by
  refine wpList_step fun K hK => ?_
  rw [if_pos hw]
  unfold Oper.wp execOp
  simp only [ho, hx, hy, Sem.run_bind, Sem.run_pure, Result.andThen_ok]
  have e1 : (eqGuard .neq ty x y (.agg X) (.agg Y)).run P w = .ok () w := run_eqGuard_agg w .neq _ x y X Y hg
  have e2 : (binOp .neq ty (.agg X) (.agg Y)).run P w = .ok (.bool (!b)) w := by
    refine (run_neq_struct w _ X Y).trans ?_
    rw [he]
    rfl
  rw [e1]
  simp only [Result.andThen_ok, e2]
  exact hK _ _ h
theorem hp_eql_struct {x y : Operand} (ho : o.op = .binOp .eql ty x y t) (hw : Region.wanted o (yielded ops act.tmps) = true) {X Y : Array Value} (hx : act.eval x = .agg X) (hy : act.eval y = .agg Y) (hg : P.eqGuardType P.depth ty = false) {b : Bool} (he : ∀ w, (Op.equalIn 10000 ty (.agg X) (.agg Y)).run P w = .ok b w)
    (h : wpList P ops Q rest (act.put o.dst (.bool b)) w) : wpList P ops Q (o :: rest) act w := by
  refine wpList_step fun K hK => ?_
  rw [if_pos hw]
  unfold Oper.wp execOp
  simp only [ho, hx, hy, Sem.run_bind, Sem.run_pure, Result.andThen_ok]
  have e1 : (eqGuard .eql ty x y (.agg X) (.agg Y)).run P w = .ok () w := run_eqGuard_agg w .eql _ x y X Y hg
  have e2 : (binOp .eql ty (.agg X) (.agg Y)).run P w = .ok (.bool b) w := by
    refine (run_eql_struct w _ X Y).trans ?_
    rw [he]
    rfl
  rw [e1]
  simp only [Result.andThen_ok, e2]
  exact hK _ _ h
theorem if_chainB {α : Type} {c : Prop} [Decidable c] {A B : α} (h : c → A = B) : (if c then A else B) = B := by
  split
  · exact h ‹_›
  · rfl
end
end Go.Proofs.Ythflkhalipkdgaa.Mem
