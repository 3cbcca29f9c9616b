/- Words on memory: a block that is known whole, and a world that is as another one but for some blocks. Nothing of the program stands here. -/
import Derived.Below
import Derived.OneCell
import Derived.Deep.Draws
import Derived.Lib.Hide
import Derived.Laws.Bits64
namespace Go.Proofs.Ythflkhalipkdgaa.Mem
set_option maxRecDepth 20000
set_option linter.unusedVariables false
set_option linter.unusedSimpArgs false
open Go.RowKit

/-- block b holds these cells of type t, none frozen -/
def Blk (w : World) (b : Nat) (cs : Array Value) (t : TypeId) : Prop := w.heap[b]? = some (.cells cs t (0, 0))

theorem Blk.lt {w : World} {b : Nat} {cs : Array Value} {t : TypeId} (h : Blk w b cs t) : b < w.heap.size := lt_of_block h
theorem Blk.cell {w : World} {b : Nat} {cs : Array Value} {t : TypeId} (h : Blk w b cs t) (i : Nat) (v : Value) (hv : cs[i]? = some v) : w.cell? ⟨b, i, none⟩ = some v := by
  unfold Blk at h; simp [World.cell?, h, hv]
theorem Blk.free {w : World} {b : Nat} {cs : Array Value} {t : TypeId} (h : Blk w b cs t) (i : Nat) : w.frozen? ⟨b, i, none⟩ = false := by
  unfold Blk at h; simp [World.frozen?, h]
theorem Blk.set {w : World} {b : Nat} {cs : Array Value} {t : TypeId} (h : Blk w b cs t) (i : Nat) (v : Value) : Blk (w.setCell ⟨b, i, none⟩ v) b (cs.setIfInBounds i v) t := by
  have hlt := h.lt
  have h' : w.heap[b] = .cells cs t (0, 0) := by
    have := h
    unfold Blk at this
    simpa [Array.getElem?_eq_getElem hlt] using this
  show (w.heap.modify b _)[b]? = _
  rw [Array.getElem?_eq_getElem (by simpa using hlt), Array.getElem_modify_self, h']
  rfl
theorem Blk.drew {w : World} {b : Nat} {cs : Array Value} {t : TypeId} (h : Blk w b cs t) : Blk w.drew b cs t := h
theorem Blk.drewN {w : World} {b : Nat} {cs : Array Value} {t : TypeId} (h : Blk w b cs t) (n : Nat) : Blk (w.drewN n) b cs t := h
theorem blk_drew_eq (w : World) (b : Nat) (cs : Array Value) (t : TypeId) : Blk w.drew b cs t = Blk w b cs t := rfl
theorem blk_alloc_eq (w : World) (b : Nat) (cs : Array Value) (t : TypeId) (o : Obj) (h : Blk w b cs t) : Blk (w.alloc o) b cs t = True := by
  have : Blk (w.alloc o) b cs t := by unfold Blk; rw [Below.heap_alloc _ _ _ h.lt]; exact h
  simp [this]
theorem Blk.other {w : World} {b : Nat} {cs : Array Value} {t : TypeId} (h : Blk w b cs t) (a : Addr) (v : Value) (hb : a.block ≠ b) : Blk (w.setCell a v) b cs t := by
  unfold Blk
  rw [Below.heap_setCell _ _ _ _ (fun e => hb e.symm)]
  exact h
theorem Blk.alloc {w : World} {b : Nat} {cs : Array Value} {t : TypeId} (h : Blk w b cs t) (o : Obj) : Blk (w.alloc o) b cs t := by
  unfold Blk
  rw [Below.heap_alloc _ _ _ h.lt]
  exact h
theorem blk_new (w : World) (cs : Array Value) (t : TypeId) : Blk (w.alloc (.cells cs t)) w.heap.size cs t := by
  show (w.heap.push _)[w.heap.size]? = _
  simp

theorem blk_new' (w : World) (cs : Array Value) (t : TypeId) (n : Nat) (hn : n = w.heap.size) : Blk (w.alloc (.cells cs t)) n cs t := by
  subst hn
  exact blk_new w cs t
/-- w' is as w, but for the blocks of S, and for new ones -/
structure Off (S : List Nat) (w w' : World) : Prop where
  os : w'.os = w.os
  tape : w'.tape = w.tape
  output : w'.output = w.output
  size : w.heap.size ≤ w'.heap.size
  block : ∀ k, k < w.heap.size → k ∉ S → w'.heap[k]? = w.heap[k]?

theorem Off.refl (S : List Nat) (w : World) : Off S w w := ⟨rfl, rfl, rfl, Nat.le_refl _, fun _ _ _ => rfl⟩
theorem Off.mono {S T : List Nat} {w w' : World} (h : Off S w w') (hST : ∀ k, k < w.heap.size → k ∈ S → k ∈ T) : Off T w w' :=
  ⟨h.os, h.tape, h.output, h.size, fun k hk hT => h.block k hk fun hS => hT (hST k hk hS)⟩
theorem Off.trans {S T : List Nat} {a b c : World} (h : Off S a b) (k : Off T b c) (hTS : ∀ i, i < a.heap.size → i ∈ T → i ∈ S) : Off S a c :=
  ⟨k.os.trans h.os, k.tape.trans h.tape, k.output.trans h.output, Nat.le_trans h.size k.size, fun i hi hS =>
    (k.block i (Nat.lt_of_lt_of_le hi h.size) fun hT => hS (hTS i hi hT)).trans (h.block i hi hS)⟩
theorem Off.fresh {S : List Nat} {a b c : World} (h : Off [] a b) (k : Off S b c) (hS : ∀ i ∈ S, a.heap.size ≤ i) : Off [] a c :=
  h.trans k fun i hi hm => by have := hS i hm; omega
theorem Off.drew {S : List Nat} {a w : World} (h : Off S a w) : Off S a w.drew := ⟨h.os, h.tape, h.output, h.size, h.block⟩
theorem Off.drewN {S : List Nat} {a w : World} (h : Off S a w) (n : Nat) : Off S a (w.drewN n) := ⟨h.os, h.tape, h.output, h.size, h.block⟩
theorem Off.alloc {S : List Nat} {a w : World} (h : Off S a w) (o : Obj) : Off S a (w.alloc o) :=
  h.trans (T := S) ⟨rfl, rfl, rfl, by simp, fun k hk _ => Below.heap_alloc _ _ _ hk⟩ fun _ _ hi => hi
theorem Off.setCell {S : List Nat} {a w : World} (h : Off S a w) (p : Addr) (u : Value) (hp : p.block ∈ S ∨ a.heap.size ≤ p.block) : Off S a (w.setCell p u) :=
  ⟨h.os, h.tape, h.output, by show _ ≤ (w.heap.modify _ _).size; rw [Array.size_modify]; exact h.size, fun k hk hS => by
    rw [Below.heap_setCell _ _ _ _ (fun e => by subst e; rcases hp with hp | hp; exact hS hp; omega)]
    exact h.block k hk hS⟩
theorem Off.grown {S : List Nat} {a w w' : World} {row : Option Nat} (h : Off S a w) (hg : w.grownBy w' row) (hr : ∀ k, row = some k → k ∈ S ∨ a.heap.size ≤ k) : Off S a w' :=
  ⟨hg.os.trans h.os, hg.tape.trans h.tape, hg.output.trans h.output, Nat.le_trans h.size hg.size, fun k hk hS => by
    rw [hg.block k (Nat.lt_of_lt_of_le hk h.size) (fun e => by rcases hr k e.symm with h1 | h1; exact hS h1; omega)]
    exact h.block k hk hS⟩
theorem Off.below {S : List Nat} {w w' : World} {B : Nat} (h : Off S w w') (hB : B ≤ w.heap.size) (hS : ∀ k ∈ S, B ≤ k) : Below B w w' :=
  ⟨h.os, h.tape, h.output, h.size, fun k hk => h.block k (by omega) fun hk' => by have := hS k hk'; omega⟩
theorem Off.of_below {w w' : World} (h : Below w.heap.size w w') : Off [] w w' :=
  ⟨h.os, h.tape, h.output, h.size, fun k hk _ => h.block k hk⟩
theorem Off.to_below {w w' : World} (h : Off [] w w') : Below w.heap.size w w' := h.below (Nat.le_refl _) (by simp)
/-- what stood in a block that is none of S stands there still -/
theorem Off.blk {S : List Nat} {w w' : World} (h : Off S w w') {b : Nat} {cs : Array Value} {t : TypeId} (hb : Blk w b cs t) (hS : b ∉ S) : Blk w' b cs t := by
  unfold Blk
  rw [h.block b hb.lt hS]
  exact hb
theorem Off.cell {S : List Nat} {w w' : World} (h : Off S w w') {p : Addr} (hp : p.block < w.heap.size) (hS : p.block ∉ S) : w'.cell? p = w.cell? p :=
  World.cell?_of_block (w := w) (h.block p.block hp hS)
theorem Off.frozen {S : List Nat} {w w' : World} (h : Off S w w') {p : Addr} (hp : p.block < w.heap.size) (hS : p.block ∉ S) : w'.frozen? p = w.frozen? p :=
  World.frozen?_of_block (w := w) (h.block p.block hp hS)
/-- a row of the call's own, when other blocks turn -/
theorem Off.owns {S : List Nat} {w w' : World} (h : Off S w w') {base : Nat} {e : TypeId} {size : Nat} {v : Value} {n : Nat} {xs : List Value} (ho : w.ownsRow base e size v n xs)
    (hS : ∀ k, v.ownBlock = some k → k ∉ S) : w'.ownsRow base e size v n xs := by
  obtain ⟨h1, h2⟩ := ho
  refine ⟨h1, ?_⟩
  rcases h2 with h2 | ⟨g, cap, cur, hv, hg, hh, r⟩
  · exact Or.inl h2
  · subst hv
    refine Or.inr ⟨g, cap, cur, rfl, hg, ?_, r⟩
    rw [h.block g (lt_of_block hh) (hS g (by simp [Value.ownBlock]))]
    exact hh
/-- a slice value reads as these values -/
def Reads (w : World) (v : Value) (vs : List Value) : Prop :=
  (v = .slice none 0 0 ∧ vs = []) ∨ ∃ x c, v = .slice (some x) vs.length c ∧ ∀ (i : Nat) (h : i < vs.length), w.cell? (x.add i) = some vs[i]
theorem lt_of_cell {w : World} {p : Addr} {v : Value} (h : w.cell? p = some v) : p.block < w.heap.size := by
  unfold World.cell? at h
  rcases Nat.lt_or_ge p.block w.heap.size with h' | h'
  · exact h'
  · simp [Array.getElem?_eq_none h'] at h
theorem add_block (x : Addr) (i : Nat) : (x.add i).block = x.block := by unfold Addr.add; split <;> rfl
theorem Reads.off {S : List Nat} {w w' : World} {v : Value} {vs : List Value} (h : Reads w v vs) (ho : Off S w w') (hS : ∀ x n c, v = .slice (some x) n c → x.block ∉ S) : Reads w' v vs := by
  rcases h with h | ⟨x, c, rfl, hc⟩
  · exact .inl h
  · refine .inr ⟨x, c, rfl, fun i hi => ?_⟩
    have := hc i hi
    rw [ho.cell (by exact lt_of_cell this) (by rw [add_block]; exact hS _ _ _ rfl)]
    exact this
theorem Reads.below {B : Nat} {w w' : World} {v : Value} {vs : List Value} (h : Reads w v vs) (ho : Below B w w') (hS : ∀ x n c, v = .slice (some x) n c → x.block < B) : Reads w' v vs := by
  rcases h with h | ⟨x, c, rfl, hc⟩
  · exact .inl h
  · refine .inr ⟨x, c, rfl, fun i hi => ?_⟩
    have := hc i hi
    rw [ho.cell (by rw [add_block]; exact hS _ _ _ rfl)]
    exact this
/-- what a row of the call's own holds -/
theorem reads_owns {w : World} {base : Nat} {e : TypeId} {v : Value} {n : Nat} {xs : List Value} (h : w.ownsRow base e 1 v n xs) : Reads w v xs := by
  rcases h.2 with ⟨rfl, rfl⟩ | ⟨g, cap, cur, rfl, _⟩
  · have := h.1
    exact .inl ⟨rfl, by simpa using this⟩
  · have hl := h.1
    refine .inr ⟨⟨g, 0, none⟩, cap, by rw [hl, Nat.mul_one], fun i hi => ?_⟩
    exact h.cells (g := g) rfl i _ (by simp [List.getElem?_eq_getElem hi])
/-- an argument: a slice of whole numbers, as rows tell it -/
def IntsAt (k : IntKind) (w : World) (a : Option Addr) (len cap : Nat) (zs : List Int) : Prop :=
  (a = none ∧ len = 0 ∧ cap = 0 ∧ zs = []) ∨
  ∃ x, a = some x ∧ len ≤ cap ∧ cap ≤ maxLen ∧ zs.length = cap ∧ (∀ i, i < zs.length → w.cell? (x.add i) = some (.int k (zs.getD i 0))) ∧ ∀ n ∈ zs, (Lit.int k n).wf = true
theorem IntsAt.reads {k : IntKind} {w : World} {a : Option Addr} {len cap : Nat} {zs : List Int} (h : IntsAt k w a len cap zs) :
    Reads w (.slice a len cap) ((zs.take len).map (Value.int k)) ∧ (zs.take len).length = len ∧ ∀ n ∈ zs.take len, (Lit.int k n).wf = true := by
  rcases h with ⟨rfl, rfl, rfl, rfl⟩ | ⟨x, rfl, hl, _, hz, hc, hw⟩
  · exact ⟨.inl ⟨rfl, rfl⟩, rfl, by simp⟩
  · have e : (zs.take len).length = len := by rw [List.length_take]; omega
    refine ⟨.inr ⟨x, cap, by simp [hz, Nat.min_eq_left hl], fun i hi => ?_⟩, e, fun n hn => hw n (List.mem_of_mem_take hn)⟩
    have hi' : i < zs.length := by simp at hi; omega
    rw [hc i hi']
    simp [hi']
/-- cells side by side, as a walk asks for them -/
def CellsAt (w : World) (y : Addr) (us : List Value) : Prop := ∀ j u, us[j]? = some u → w.cell? (y.add j) = some u
theorem CellsAt.first {w : World} {y : Addr} {us : List Value} (h : CellsAt w y us) (u : Value) (hu : us[0]? = some u) : w.cell? y = some u := by
  have := h 0 u hu
  simpa [Addr.add] using this
theorem CellsAt.next {w : World} {y : Addr} {us : List Value} (h : CellsAt w y us) (j : Nat) (u : Value) (hu : us[j + 1]? = some u) : w.cell? ⟨y.block, y.off + (j + 1), none⟩ = some u := by
  have := h (j + 1) u hu
  simpa [Addr.add] using this
theorem CellsAt.off {S : List Nat} {w w' : World} {y : Addr} {us : List Value} (h : CellsAt w y us) (ho : Off S w w') (hS : y.block ∉ S) : CellsAt w' y us := by
  intro j u hu
  have h1 := h j u hu
  rw [ho.cell (lt_of_cell h1) (by rw [add_block]; exact hS)]
  exact h1
/-- a slice of structs reads as these rows of cells, of so many cells each -/
def RowsAt (w : World) (v : Value) (sz : Nat) (rows : List (List Value)) : Prop :=
  (v = .slice none 0 0 ∧ rows = []) ∨ ∃ x c, v = .slice (some x) rows.length c ∧ ∀ (i : Nat) (h : i < rows.length), CellsAt w (x.add (i * sz)) rows[i]
/-- behind an append of one value to a row of the call's own -/
theorem below_append {B : Nat} {w wr w1 : World} {v : Value} {o : Obj} {e : TypeId} {n : Nat} {xs : List Value} (hb : Below B w wr) (hB : B ≤ wr.heap.size) (ho : wr.ownsRow B e 1 v n xs) (hg : (wr.alloc o).grownBy w1 v.ownBlock) : Below B w w1 :=
  (hb.alloc hB o).grown hg (by simp; omega) fun k hk => (ho.lt k hk).1
/-- the one cell of a new block, as append's laws want it -/
theorem new1 (w : World) (v : Value) (t : TypeId) : ∀ j u, ([v] : List Value)[j]? = some u → (w.alloc (.cells #[v] t)).cell? ((⟨w.heap.size, 0, none⟩ : Addr).add j) = some u := by
  intro j u h
  match j, h with
  | 0, h =>
    simp at h
    subst h
    exact (blk_new w #[v] t).cell 0 v rfl
/-- 'int(uint(c) % uint(n+1))' is a number up to n -/
theorem mod_upto (c : Int) (n : Nat) (h : n < 4611686018427387904) : ∃ m : Nat, wrap64 ((IntKind.u64.wrap c).tmod ((n : Int) + 1)) = (m : Int) ∧ m ≤ n := by
  rw [IntKind.wrap_u64, Int.tmod_eq_emod_of_nonneg (by omega)]
  refine ⟨((c % 18446744073709551616) % ((n : Int) + 1)).toNat, ?_, ?_⟩
  · have h1 := Int.emod_nonneg (c % 18446744073709551616) (show (n : Int) + 1 ≠ 0 by omega)
    have h2 := Int.emod_lt_of_pos (c % 18446744073709551616) (show (0 : Int) < (n : Int) + 1 by omega)
    unfold wrap64
    omega
  · have h2 := Int.emod_lt_of_pos (c % 18446744073709551616) (show (0 : Int) < (n : Int) + 1 by omega)
    omega
end Go.Proofs.Ythflkhalipkdgaa.Mem
