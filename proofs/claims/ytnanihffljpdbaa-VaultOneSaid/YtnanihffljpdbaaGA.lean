/- Mem Hp Hp2 Pk1 Pk2 Pk3 Mem2 Mem3 -/
import Derived.Below
import Derived.OneCell
import Derived.Deep.Draws
import Derived.Lib.Hide
import Derived.Laws.Bits64
import Derived.Test.YtnanihffljpdbaaProg
import Derived.WalkKit
import Derived.KernelRfl
import Derived.RowKit3
import Derived.Deep.LoopGhost
import Derived.Deep.QuietTactic
import Derived.BigQuiet
import Derived.WideLaws
import Derived.Deep.DeepCutAuto
import Derived.Deep.CutBlock
import Derived.Laws.BitsLemmas
import Derived.Laws.BitsAllLaws
import Derived.IntWalk
import Derived.Outline
import Derived.WalkSpells
import Derived.Deep.MidRow
import Derived.Laws.ResultCell
import Derived.Deep.RegionHeld3
import Derived.OwnWalk
import Derived.Deep.AppendLies
import Derived.Lib.AppendStr
import Derived.Laws.BytesArg
import Derived.Laws.AppendOwnNone
import Derived.Deep.Slices
import Derived.Deep.RegionLaw
/- Words on memory: a block that is known whole, and a world that is as another one but for some blocks. Nothing of the program stands here. -/
namespace Go.Proofs.Ytnanihffljpdbaa.Mem
set_option linter.unusedVariables false
set_option linter.unusedSimpArgs false
open Go.RowKit

/-- block b holds these cells of type t, none frozen -/
def Blk (w : World) (b : Nat) (cs : Array Value) (t : TypeId) : Prop := w.heap[b]? = some (.cells cs t (0, 0))

theorem Blk.lt {w : World} {b : Nat} {cs : Array Value} {t : TypeId} (h : Blk w b cs t) : b < w.heap.size := lt_of_block h
theorem Blk.cell {w : World} {b : Nat} {cs : Array Value} {t : TypeId} (h : Blk w b cs t) (i : Nat) (v : Value) (hv : cs[i]? = some v) : w.cell? ⟨b, i, none⟩ = some v := by
  unfold Blk at h; simp [World.cell?, h, hv]
theorem Blk.free {w : World} {b : Nat} {cs : Array Value} {t : TypeId} (h : Blk w b cs t) (i : Nat) : w.frozen? ⟨b, i, none⟩ = false := by
  unfold Blk at h; simp [World.frozen?, h]
theorem Blk.set {w : World} {b : Nat} {cs : Array Value} {t : TypeId} (h : Blk w b cs t) (i : Nat) (v : Value) : Blk (w.setCell ⟨b, i, none⟩ v) b (cs.setIfInBounds i v) t := by
  have hlt := h.lt
  have h' : w.heap[b] = .cells cs t (0, 0) := by
    have := h
    unfold Blk at this
    simpa [Array.getElem?_eq_getElem hlt] using this
  show (w.heap.modify b _)[b]? = _
  rw [Array.getElem?_eq_getElem (by simpa using hlt), Array.getElem_modify_self, h']
  rfl
theorem Blk.drew {w : World} {b : Nat} {cs : Array Value} {t : TypeId} (h : Blk w b cs t) : Blk w.drew b cs t := h
theorem Blk.drewN {w : World} {b : Nat} {cs : Array Value} {t : TypeId} (h : Blk w b cs t) (n : Nat) : Blk (w.drewN n) b cs t := h
theorem blk_drew_eq (w : World) (b : Nat) (cs : Array Value) (t : TypeId) : Blk w.drew b cs t = Blk w b cs t := rfl
theorem blk_alloc_eq (w : World) (b : Nat) (cs : Array Value) (t : TypeId) (o : Obj) (h : Blk w b cs t) : Blk (w.alloc o) b cs t = True := by
  have : Blk (w.alloc o) b cs t := by unfold Blk; rw [Below.heap_alloc _ _ _ h.lt]; exact h
  simp [this]
theorem Blk.other {w : World} {b : Nat} {cs : Array Value} {t : TypeId} (h : Blk w b cs t) (a : Addr) (v : Value) (hb : a.block ≠ b) : Blk (w.setCell a v) b cs t := by
  unfold Blk
  rw [Below.heap_setCell _ _ _ _ (fun e => hb e.symm)]
  exact h
theorem Blk.alloc {w : World} {b : Nat} {cs : Array Value} {t : TypeId} (h : Blk w b cs t) (o : Obj) : Blk (w.alloc o) b cs t := by
  unfold Blk
  rw [Below.heap_alloc _ _ _ h.lt]
  exact h
theorem blk_new (w : World) (cs : Array Value) (t : TypeId) : Blk (w.alloc (.cells cs t)) w.heap.size cs t := by
  show (w.heap.push _)[w.heap.size]? = _
  simp

theorem blk_new' (w : World) (cs : Array Value) (t : TypeId) (n : Nat) (hn : n = w.heap.size) : Blk (w.alloc (.cells cs t)) n cs t := by
  subst hn
  exact blk_new w cs t
/-- w' is as w, but for the blocks of S, and for new ones -/
structure Off (S : List Nat) (w w' : World) : Prop where
  os : w'.os = w.os
  tape : w'.tape = w.tape
  output : w'.output = w.output
  size : w.heap.size ≤ w'.heap.size
  block : ∀ k, k < w.heap.size → k ∉ S → w'.heap[k]? = w.heap[k]?

theorem Off.refl (S : List Nat) (w : World) : Off S w w := ⟨rfl, rfl, rfl, Nat.le_refl _, fun _ _ _ => rfl⟩
theorem Off.mono {S T : List Nat} {w w' : World} (h : Off S w w') (hST : ∀ k, k < w.heap.size → k ∈ S → k ∈ T) : Off T w w' :=
  ⟨h.os, h.tape, h.output, h.size, fun k hk hT => h.block k hk fun hS => hT (hST k hk hS)⟩
theorem Off.trans {S T : List Nat} {a b c : World} (h : Off S a b) (k : Off T b c) (hTS : ∀ i, i < a.heap.size → i ∈ T → i ∈ S) : Off S a c :=
  ⟨k.os.trans h.os, k.tape.trans h.tape, k.output.trans h.output, Nat.le_trans h.size k.size, fun i hi hS =>
    (k.block i (Nat.lt_of_lt_of_le hi h.size) fun hT => hS (hTS i hi hT)).trans (h.block i hi hS)⟩
theorem Off.fresh {S : List Nat} {a b c : World} (h : Off [] a b) (k : Off S b c) (hS : ∀ i ∈ S, a.heap.size ≤ i) : Off [] a c :=
  h.trans k fun i hi hm => by have := hS i hm; omega
theorem Off.drew {S : List Nat} {a w : World} (h : Off S a w) : Off S a w.drew := ⟨h.os, h.tape, h.output, h.size, h.block⟩
theorem Off.drewN {S : List Nat} {a w : World} (h : Off S a w) (n : Nat) : Off S a (w.drewN n) := ⟨h.os, h.tape, h.output, h.size, h.block⟩
theorem Off.alloc {S : List Nat} {a w : World} (h : Off S a w) (o : Obj) : Off S a (w.alloc o) :=
  h.trans (T := S) ⟨rfl, rfl, rfl, by simp, fun k hk _ => Below.heap_alloc _ _ _ hk⟩ fun _ _ hi => hi
theorem Off.setCell {S : List Nat} {a w : World} (h : Off S a w) (p : Addr) (u : Value) (hp : p.block ∈ S ∨ a.heap.size ≤ p.block) : Off S a (w.setCell p u) :=
  ⟨h.os, h.tape, h.output, by show _ ≤ (w.heap.modify _ _).size; rw [Array.size_modify]; exact h.size, fun k hk hS => by
    rw [Below.heap_setCell _ _ _ _ (fun e => by subst e; rcases hp with hp | hp; exact hS hp; omega)]
    exact h.block k hk hS⟩
theorem Off.grown {S : List Nat} {a w w' : World} {row : Option Nat} (h : Off S a w) (hg : w.grownBy w' row) (hr : ∀ k, row = some k → k ∈ S ∨ a.heap.size ≤ k) : Off S a w' :=
  ⟨hg.os.trans h.os, hg.tape.trans h.tape, hg.output.trans h.output, Nat.le_trans h.size hg.size, fun k hk hS => by
    rw [hg.block k (Nat.lt_of_lt_of_le hk h.size) (fun e => by rcases hr k e.symm with h1 | h1; exact hS h1; omega)]
    exact h.block k hk hS⟩
theorem Off.below {S : List Nat} {w w' : World} {B : Nat} (h : Off S w w') (hB : B ≤ w.heap.size) (hS : ∀ k ∈ S, B ≤ k) : Below B w w' :=
  ⟨h.os, h.tape, h.output, h.size, fun k hk => h.block k (by omega) fun hk' => by have := hS k hk'; omega⟩
theorem Off.of_below {w w' : World} (h : Below w.heap.size w w') : Off [] w w' :=
  ⟨h.os, h.tape, h.output, h.size, fun k hk _ => h.block k hk⟩
theorem Off.to_below {w w' : World} (h : Off [] w w') : Below w.heap.size w w' := h.below (Nat.le_refl _) (by simp)
/-- what stood in a block that is none of S stands there still -/
theorem Off.blk {S : List Nat} {w w' : World} (h : Off S w w') {b : Nat} {cs : Array Value} {t : TypeId} (hb : Blk w b cs t) (hS : b ∉ S) : Blk w' b cs t := by
  unfold Blk
  rw [h.block b hb.lt hS]
  exact hb
theorem Off.cell {S : List Nat} {w w' : World} (h : Off S w w') {p : Addr} (hp : p.block < w.heap.size) (hS : p.block ∉ S) : w'.cell? p = w.cell? p :=
  World.cell?_of_block (w := w) (h.block p.block hp hS)
theorem Off.frozen {S : List Nat} {w w' : World} (h : Off S w w') {p : Addr} (hp : p.block < w.heap.size) (hS : p.block ∉ S) : w'.frozen? p = w.frozen? p :=
  World.frozen?_of_block (w := w) (h.block p.block hp hS)
/-- a row of the call's own, when other blocks turn -/
theorem Off.owns {S : List Nat} {w w' : World} (h : Off S w w') {base : Nat} {e : TypeId} {size : Nat} {v : Value} {n : Nat} {xs : List Value} (ho : w.ownsRow base e size v n xs)
    (hS : ∀ k, v.ownBlock = some k → k ∉ S) : w'.ownsRow base e size v n xs := by
  obtain ⟨h1, h2⟩ := ho
  refine ⟨h1, ?_⟩
  rcases h2 with h2 | ⟨g, cap, cur, hv, hg, hh, r⟩
  · exact Or.inl h2
  · subst hv
    refine Or.inr ⟨g, cap, cur, rfl, hg, ?_, r⟩
    rw [h.block g (lt_of_block hh) (hS g (by simp [Value.ownBlock]))]
    exact hh
/-- a slice value reads as these values -/
def Reads (w : World) (v : Value) (vs : List Value) : Prop :=
  (v = .slice none 0 0 ∧ vs = []) ∨ ∃ x c, v = .slice (some x) vs.length c ∧ ∀ (i : Nat) (h : i < vs.length), w.cell? (x.add i) = some vs[i]
theorem lt_of_cell {w : World} {p : Addr} {v : Value} (h : w.cell? p = some v) : p.block < w.heap.size := by
  unfold World.cell? at h
  rcases Nat.lt_or_ge p.block w.heap.size with h' | h'
  · exact h'
  · simp [Array.getElem?_eq_none h'] at h
theorem add_block (x : Addr) (i : Nat) : (x.add i).block = x.block := by unfold Addr.add; split <;> rfl
theorem Reads.off {S : List Nat} {w w' : World} {v : Value} {vs : List Value} (h : Reads w v vs) (ho : Off S w w') (hS : ∀ x n c, v = .slice (some x) n c → x.block ∉ S) : Reads w' v vs := by
  rcases h with h | ⟨x, c, rfl, hc⟩
  · exact .inl h
  · refine .inr ⟨x, c, rfl, fun i hi => ?_⟩
    have := hc i hi
    rw [ho.cell (by exact lt_of_cell this) (by rw [add_block]; exact hS _ _ _ rfl)]
    exact this
theorem Reads.below {B : Nat} {w w' : World} {v : Value} {vs : List Value} (h : Reads w v vs) (ho : Below B w w') (hS : ∀ x n c, v = .slice (some x) n c → x.block < B) : Reads w' v vs := by
  rcases h with h | ⟨x, c, rfl, hc⟩
  · exact .inl h
  · refine .inr ⟨x, c, rfl, fun i hi => ?_⟩
    have := hc i hi
    rw [ho.cell (by rw [add_block]; exact hS _ _ _ rfl)]
    exact this
/-- what a row of the call's own holds -/
theorem reads_owns {w : World} {base : Nat} {e : TypeId} {v : Value} {n : Nat} {xs : List Value} (h : w.ownsRow base e 1 v n xs) : Reads w v xs := by
  rcases h.2 with ⟨rfl, rfl⟩ | ⟨g, cap, cur, rfl, _⟩
  · have := h.1
    exact .inl ⟨rfl, by simpa using this⟩
  · have hl := h.1
    refine .inr ⟨⟨g, 0, none⟩, cap, by rw [hl, Nat.mul_one], fun i hi => ?_⟩
    exact h.cells (g := g) rfl i _ (by simp [List.getElem?_eq_getElem hi])
/-- an argument: a slice of whole numbers, as rows tell it -/
def IntsAt (k : IntKind) (w : World) (a : Option Addr) (len cap : Nat) (zs : List Int) : Prop :=
  (a = none ∧ len = 0 ∧ cap = 0 ∧ zs = []) ∨
  ∃ x, a = some x ∧ len ≤ cap ∧ cap ≤ maxLen ∧ zs.length = cap ∧ (∀ i, i < zs.length → w.cell? (x.add i) = some (.int k (zs.getD i 0))) ∧ ∀ n ∈ zs, (Lit.int k n).wf = true
theorem IntsAt.reads {k : IntKind} {w : World} {a : Option Addr} {len cap : Nat} {zs : List Int} (h : IntsAt k w a len cap zs) :
    Reads w (.slice a len cap) ((zs.take len).map (Value.int k)) ∧ (zs.take len).length = len ∧ ∀ n ∈ zs.take len, (Lit.int k n).wf = true := by
  rcases h with ⟨rfl, rfl, rfl, rfl⟩ | ⟨x, rfl, hl, _, hz, hc, hw⟩
  · exact ⟨.inl ⟨rfl, rfl⟩, rfl, by simp⟩
  · have e : (zs.take len).length = len := by rw [List.length_take]; omega
    refine ⟨.inr ⟨x, cap, by simp [hz, Nat.min_eq_left hl], fun i hi => ?_⟩, e, fun n hn => hw n (List.mem_of_mem_take hn)⟩
    have hi' : i < zs.length := by simp at hi; omega
    rw [hc i hi']
    simp [hi']
/-- cells side by side, as a walk asks for them -/
def CellsAt (w : World) (y : Addr) (us : List Value) : Prop := ∀ j u, us[j]? = some u → w.cell? (y.add j) = some u
theorem CellsAt.first {w : World} {y : Addr} {us : List Value} (h : CellsAt w y us) (u : Value) (hu : us[0]? = some u) : w.cell? y = some u := by
  have := h 0 u hu
  simpa [Addr.add] using this
theorem CellsAt.next {w : World} {y : Addr} {us : List Value} (h : CellsAt w y us) (j : Nat) (u : Value) (hu : us[j + 1]? = some u) : w.cell? ⟨y.block, y.off + (j + 1), none⟩ = some u := by
  have := h (j + 1) u hu
  simpa [Addr.add] using this
theorem CellsAt.off {S : List Nat} {w w' : World} {y : Addr} {us : List Value} (h : CellsAt w y us) (ho : Off S w w') (hS : y.block ∉ S) : CellsAt w' y us := by
  intro j u hu
  have h1 := h j u hu
  rw [ho.cell (lt_of_cell h1) (by rw [add_block]; exact hS)]
  exact h1
/-- a slice of structs reads as these rows of cells, of so many cells each -/
def RowsAt (w : World) (v : Value) (sz : Nat) (rows : List (List Value)) : Prop :=
  (v = .slice none 0 0 ∧ rows = []) ∨ ∃ x c, v = .slice (some x) rows.length c ∧ ∀ (i : Nat) (h : i < rows.length), CellsAt w (x.add (i * sz)) rows[i]
/-- behind an append of one value to a row of the call's own -/
theorem below_append {B : Nat} {w wr w1 : World} {v : Value} {o : Obj} {e : TypeId} {n : Nat} {xs : List Value} (hb : Below B w wr) (hB : B ≤ wr.heap.size) (ho : wr.ownsRow B e 1 v n xs) (hg : (wr.alloc o).grownBy w1 v.ownBlock) : Below B w w1 :=
  (hb.alloc hB o).grown hg (by simp; omega) fun k hk => (ho.lt k hk).1
/-- the one cell of a new block, as append's laws want it -/
theorem new1 (w : World) (v : Value) (t : TypeId) : ∀ j u, ([v] : List Value)[j]? = some u → (w.alloc (.cells #[v] t)).cell? ((⟨w.heap.size, 0, none⟩ : Addr).add j) = some u := by
  intro j u h
  match j, h with
  | 0, h =>
    simp at h
    subst h
    exact (blk_new w #[v] t).cell 0 v rfl
/-- 'int(uint(c) % uint(n+1))' is a number up to n -/
theorem mod_upto (c : Int) (n : Nat) (h : n < 4611686018427387904) : ∃ m : Nat, wrap64 ((IntKind.u64.wrap c).tmod ((n : Int) + 1)) = (m : Int) ∧ m ≤ n := by
  rw [IntKind.wrap_u64, Int.tmod_eq_emod_of_nonneg (by omega)]
  refine ⟨((c % 18446744073709551616) % ((n : Int) + 1)).toNat, ?_, ?_⟩
  · have h1 := Int.emod_nonneg (c % 18446744073709551616) (show (n : Int) + 1 ≠ 0 by omega)
    have h2 := Int.emod_lt_of_pos (c % 18446744073709551616) (show (0 : Int) < (n : Int) + 1 by omega)
    unfold wrap64
    omega
  · have h2 := Int.emod_lt_of_pos (c % 18446744073709551616) (show (0 : Int) < (n : Int) + 1 by omega)
    omega
end Go.Proofs.Ytnanihffljpdbaa.Mem

/- What a call knows of memory, as one list: its own blocks and objects, apart from each other; laws of the operations on memory over such a list. -/
namespace Go.Proofs.Ytnanihffljpdbaa.Mem
set_option linter.unusedVariables false
set_option linter.unusedSimpArgs false
open Go.RowKit

/-- a thing in memory: which blocks it has, what it says; it stays while they do -/
structure Res where
  foot : List Nat
  holds : World → Prop
  stable : ∀ w w' : World, (∀ k ∈ foot, w'.heap[k]? = w.heap[k]?) → holds w → holds w'
  ro : Bool
def rB (b : Nat) (t : TypeId) (cs : List Value) : Res := ⟨[b], fun w => Blk w b cs.toArray t, fun _ _ h hb => by unfold Blk at *; rw [h b (by simp)]; exact hb, false⟩
structure Hp (S : List Nat) (w0 w : World) (R : List Res) : Prop where
  off : Off S w0 w
  holds : ∀ r ∈ R, r.holds w
  lt : ∀ r ∈ R, ∀ k ∈ r.foot, k < w.heap.size
  newf : ∀ r ∈ R, r.ro = false → ∀ k ∈ r.foot, k ∈ S ∨ w0.heap.size ≤ k
  sep : R.Pairwise fun r q => (r.ro && q.ro) = false → ∀ k ∈ r.foot, k ∉ q.foot
section
variable {S : List Nat} {w0 w w' : World} {R : List Res}
theorem Hp.start (S : List Nat) (w : World) : Hp S w w [] := ⟨Off.refl _ _, by simp, by simp, by simp, List.Pairwise.nil⟩
theorem Hp.at (h : Hp S w0 w R) (i : Nat) {r : Res} (hi : R[i]? = some r) : r.holds w := h.holds r (List.mem_of_getElem? hi)
theorem Hp.blk (h : Hp S w0 w R) (i : Nat) {b : Nat} {t : TypeId} {cs : List Value} (hi : R[i]? = some (rB b t cs)) : Blk w b cs.toArray t := h.at i hi
theorem Hp.cell (h : Hp S w0 w R) (i : Nat) {b : Nat} {t : TypeId} {cs : List Value} (hi : R[i]? = some (rB b t cs)) (k : Nat) (v : Value) (hk : cs[k]? = some v) : w.cell? ⟨b, k, none⟩ = some v :=
  (h.blk i hi).cell k v (by simpa using hk)
theorem Hp.frz (h : Hp S w0 w R) (i : Nat) {b : Nat} {t : TypeId} {cs : List Value} (hi : R[i]? = some (rB b t cs)) (k : Nat) : w.frozen? ⟨b, k, none⟩ = false := (h.blk i hi).free k
theorem Hp.push (h : Hp S w0 w R) (r : Res) (ho : Off [] w w') (hr : r.holds w') (hf : ∀ k ∈ r.foot, w.heap.size ≤ k ∧ k < w'.heap.size) : Hp S w0 w' (r :: R) := by
  refine ⟨h.off.trans ho (by simp), fun q hq => ?_, fun q hq k hk => ?_, fun q hq hro k hk => ?_, List.pairwise_cons.2 ⟨fun q hq _ k hk hk' => ?_, h.sep⟩⟩
  · rcases List.mem_cons.1 hq with rfl | hq
    · exact hr
    · exact q.stable w w' (fun k hk => ho.block k (h.lt q hq k hk) (by simp)) (h.holds q hq)
  · rcases List.mem_cons.1 hq with rfl | hq
    · exact (hf k hk).2
    · exact Nat.lt_of_lt_of_le (h.lt q hq k hk) ho.size
  · rcases List.mem_cons.1 hq with rfl | hq
    · exact .inr (Nat.le_trans h.off.size (hf k hk).1)
    · exact h.newf q hq hro k hk
  · have := h.lt q hq k hk'
    have := (hf k hk).1
    omega
theorem Hp.quiet (h : Hp S w0 w R) (ho : Off [] w w') : Hp S w0 w' R :=
  ⟨h.off.trans ho (by simp), fun q hq => q.stable w w' (fun k hk => ho.block k (h.lt q hq k hk) (by simp)) (h.holds q hq), fun q hq k hk => Nat.lt_of_lt_of_le (h.lt q hq k hk) ho.size, h.newf, h.sep⟩
theorem Hp.drew (h : Hp S w0 w R) : Hp S w0 w.drew R := h.quiet (Off.refl _ _).drew
theorem Hp.alloc (h : Hp S w0 w R) (cs : List Value) (t : TypeId) : Hp S w0 (w.alloc (.cells cs.toArray t)) (rB w.heap.size t cs :: R) :=
  h.push _ ((Off.refl _ _).alloc _) (blk_new w cs.toArray t) (by simp [rB])
/-- one of the things goes on -/
theorem Hp.step (h : Hp S w0 w R) (i : Nat) {r : Res} (hi : R[i]? = some r) (r' : Res) {F : List Nat} (ho : Off F w w') (hF : ∀ k ∈ F, k ∈ r.foot) (hr : r'.holds w')
    (hg : ∀ k ∈ r'.foot, (k ∈ r.foot ∨ w.heap.size ≤ k) ∧ k < w'.heap.size) (hro : r.ro = false := by first | rfl | assumption) : Hp S w0 w' (R.set i r') := by
  have hil : i < R.length := (List.getElem?_eq_some_iff.1 hi).1
  have hie : R[i] = r := (List.getElem?_eq_some_iff.1 hi).2
  have hmem : ∀ q ∈ R.set i r', q = r' ∨ ∃ j, ∃ hj : j < R.length, j ≠ i ∧ q = R[j] := by
    intro q hq
    obtain ⟨j, hj, rfl⟩ := List.getElem_of_mem hq
    by_cases hji : i = j
    · subst hji; left; simp
    · right
      exact ⟨j, by simpa using hj, fun e => hji e.symm, by rw [List.getElem_set_ne hji]⟩
  have hdis : ∀ j (hj : j < R.length), j ≠ i → (∀ k ∈ R[j].foot, k ∉ r.foot) ∧ (∀ k ∈ r.foot, k ∉ R[j].foot) := by
    intro j hj hji
    have hp := List.pairwise_iff_getElem.1 h.sep
    rcases Nat.lt_or_gt_of_ne hji with h1 | h1
    · have := hp j i hj hil h1 (by rw [hie, hro, Bool.and_false])
      rw [hie] at this
      exact ⟨this, fun k hk hk' => this k hk' hk⟩
    · have := hp i j hil hj h1 (by rw [hie, hro, Bool.false_and])
      rw [hie] at this
      exact ⟨fun k hk hk' => this k hk' hk, this⟩
  have hrm : r ∈ R := by rw [← hie]; exact List.getElem_mem _
  have hst : ∀ j (hj : j < R.length), j ≠ i → ∀ k ∈ R[j].foot, w'.heap[k]? = w.heap[k]? := fun j hj hji k hk =>
    ho.block k (h.lt _ (List.getElem_mem hj) k hk) (fun hkF => (hdis j hj hji).1 k hk (hF k hkF))
  refine ⟨h.off.trans ho (fun k hk hkF => ?_), fun q hq => ?_, fun q hq k hk => ?_, fun q hq hqo k hk => ?_, ?_⟩
  · rcases h.newf r hrm hro k (hF k hkF) with h1 | h1
    · exact h1
    · omega
  · rcases hmem q hq with rfl | ⟨j, hj, hji, rfl⟩
    · exact hr
    · exact (R[j]).stable w w' (hst j hj hji) (h.holds _ (List.getElem_mem hj))
  · rcases hmem q hq with rfl | ⟨j, hj, hji, rfl⟩
    · exact (hg k hk).2
    · exact Nat.lt_of_lt_of_le (h.lt _ (List.getElem_mem hj) k hk) ho.size
  · rcases hmem q hq with rfl | ⟨j, hj, hji, rfl⟩
    · rcases (hg k hk).1 with h1 | h1
      · exact h.newf r hrm hro k h1
      · exact .inr (Nat.le_trans h.off.size h1)
    · exact h.newf _ (List.getElem_mem hj) hqo k hk
  · rw [List.pairwise_iff_getElem]
    intro x y hx hy hxy hxo k hk hk'
    have hx' : x < R.length := by simpa using hx
    have hy' : y < R.length := by simpa using hy
    by_cases hxi : i = x
    · subst hxi
      rw [List.getElem_set_self] at hk
      rw [List.getElem_set_ne (by omega)] at hk'
      rcases (hg k hk).1 with h1 | h1
      · exact (hdis y hy' (by omega)).2 k h1 hk'
      · have := h.lt _ (List.getElem_mem hy') k hk'
        omega
    · rw [List.getElem_set_ne hxi] at hk
      by_cases hyi : i = y
      · subst hyi
        rw [List.getElem_set_self] at hk'
        rcases (hg k hk').1 with h1 | h1
        · exact (hdis x hx' (by omega)).1 k hk h1
        · have := h.lt _ (List.getElem_mem hx') k hk
          omega
      · rw [List.getElem_set_ne hyi] at hk'
        rw [List.getElem_set_ne hxi, List.getElem_set_ne hyi] at hxo
        exact List.pairwise_iff_getElem.1 h.sep x y hx' hy' hxy hxo k hk hk'
theorem Hp.new (h : Hp S w0 w R) (r : Res) (hr : r ∈ R) (k : Nat) (hk : k ∈ r.foot) (hro : r.ro = false := by first | rfl | assumption) : k ∈ S ∨ w0.heap.size ≤ k := h.newf r hr hro k hk
/-- fewer things -/
theorem Hp.sub (h : Hp S w0 w R) {R' : List Res} (hs : R'.Sublist R) : Hp S w0 w R' :=
  ⟨h.off, fun r hr => h.holds r (hs.subset hr), fun r hr => h.lt r (hs.subset hr), fun r hr => h.newf r (hs.subset hr), h.sep.sublist hs⟩
/-- a thing is not written any more: it may be shared then -/
def Res.still (r : Res) : Res := ⟨r.foot, r.holds, r.stable, true⟩
theorem Hp.freeze (h : Hp S w0 w R) (i : Nat) {r : Res} (hi : R[i]? = some r) (hro : r.ro = false) : Hp S w0 w (R.set i r.still) := by
  have hm : r ∈ R := List.mem_of_getElem? hi
  exact h.step i hi r.still (Off.refl [] w) (by simp) (h.holds r hm) (fun k hk => ⟨.inl hk, h.lt r hm k hk⟩) hro
theorem Hp.share (h : Hp S w0 w R) (r : Res) (ho : Off [] w w') (hr : r.holds w') (hro : r.ro = true) (hf : ∀ k ∈ r.foot, k < w'.heap.size ∧ (w.heap.size ≤ k ∨ (k < w0.heap.size ∧ k ∉ S) ∨ ∃ q ∈ R, q.ro = true ∧ k ∈ q.foot)) : Hp S w0 w' (r :: R) := by
  refine ⟨h.off.trans ho (by simp), fun q hq => ?_, fun q hq k hk => ?_, fun q hq hqo k hk => ?_, List.pairwise_cons.2 ⟨fun q hq hqo k hk hk' => ?_, h.sep⟩⟩
  · rcases List.mem_cons.1 hq with rfl | hq
    · exact hr
    · exact q.stable w w' (fun k hk => ho.block k (h.lt q hq k hk) (by simp)) (h.holds q hq)
  · rcases List.mem_cons.1 hq with rfl | hq
    · exact (hf k hk).1
    · exact Nat.lt_of_lt_of_le (h.lt q hq k hk) ho.size
  · rcases List.mem_cons.1 hq with rfl | hq
    · rw [hro] at hqo
      cases hqo
    · exact h.newf q hq hqo k hk
  · rw [hro, Bool.true_and] at hqo
    have hl := h.lt q hq k hk'
    rcases (hf k hk).2 with h1 | h1 | ⟨p, hp, hpo, hkp⟩
    · omega
    · rcases h.newf q hq hqo k hk' with h2 | h2
      · exact h1.2 h2
      · omega
    · obtain ⟨i, hi, rfl⟩ := List.getElem_of_mem hp
      obtain ⟨j, hj, rfl⟩ := List.getElem_of_mem hq
      rcases Nat.lt_trichotomy i j with h3 | h3 | h3
      · exact List.pairwise_iff_getElem.1 h.sep i j hi hj h3 (by rw [hqo, Bool.and_false]) k hkp hk'
      · subst h3
        rw [hpo] at hqo
        cases hqo
      · exact List.pairwise_iff_getElem.1 h.sep j i hj hi h3 (by rw [hqo, Bool.false_and]) k hk' hkp
/-- cells of a block, in the middle, in another way -/
def spl : List Value → Nat → List Value → List Value
  | [], _, _ => []
  | _ :: cs, 0, v :: vs => v :: spl cs 0 vs
  | cs, 0, [] => cs
  | c :: cs, k + 1, vs => c :: spl cs k vs
theorem spl_nil : ∀ (cs : List Value) (k : Nat), spl cs k [] = cs
  | [], 0 => rfl
  | [], _ + 1 => rfl
  | _ :: _, 0 => rfl
  | c :: cs, k + 1 => by rw [spl, spl_nil cs k]
theorem spl_cons : ∀ (cs : List Value) (k : Nat) (v : Value) (vs : List Value), spl cs k (v :: vs) = spl (cs.set k v) (k + 1) vs
  | [], k, v, vs => by cases k <;> simp [spl]
  | c :: cs, 0, v, vs => by simp [spl]
  | c :: cs, k + 1, v, vs => by simp [spl, spl_cons cs k v vs]
theorem spl_length : ∀ (vs cs : List Value) (k : Nat), (spl cs k vs).length = cs.length
  | [], cs, k => by rw [spl_nil]
  | v :: vs, cs, k => by rw [spl_cons, spl_length vs]; simp
theorem blk_setCells {b : Nat} {t : TypeId} : ∀ (vs : List Value) (k : Nat) (cs : List Value) (w : World), Blk w b cs.toArray t → Blk (w.setCells b k vs) b (spl cs k vs).toArray t
  | [], k, cs, w, h => by rw [spl_nil]; exact h
  | v :: vs, k, cs, w, h => by
    rw [World.setCells, spl_cons]
    refine blk_setCells vs (k + 1) (cs.set k v) _ ?_
    have := h.set k v
    simpa using this
theorem off_setCells {b : Nat} : ∀ (vs : List Value) (k : Nat) (w : World), Off [b] w (w.setCells b k vs)
  | [], _, w => Off.refl _ _
  | v :: vs, k, w => by
    rw [World.setCells]
    exact ((Off.refl [b] w).setCell ⟨b, k, none⟩ v (.inl (by simp))).trans (off_setCells vs (k + 1) _) (by simp)
theorem size_setCells (b : Nat) : ∀ (vs : List Value) (k : Nat) (w : World), (w.setCells b k vs).heap.size = w.heap.size
  | [], _, w => rfl
  | v :: vs, k, w => by
    rw [World.setCells, size_setCells b vs]
    show (w.heap.modify _ _).size = _
    rw [Array.size_modify]
end

section
variable {P : Program} {ops : Array Oper} {rest : List Oper} {o : Oper} {a : Act} {w w0 : World} {Q : Exit → Act → World → Prop} {S : List Nat} {R : List Res}
theorem hp_box (hgd : o.guard = none) (ty : TypeId) (x : Operand) (ho : o.op = .box ty x) (V : Value) (hx : a.eval x = V) (cs : List Value) (hV : V.cells = cs.toArray) (H : Hid (Hp S w0 w R))
    (h : ∀ w' b, Hid (Hp S w0 w' (rB b ty cs :: R)) → wpList P ops Q rest (a.put o.dst (.pointer (some ⟨b, 0, none⟩))) w') : wpList P ops Q (o :: rest) a w := by
  refine wpList_plain hgd fun K hK => ?_
  unfold Oper.wp execOp
  simp only [ho, hx, Sem.run_bind, Sem.run_pure, Result.andThen_ok]
  refine hK _ _ (h _ _ (Lib.hid ?_))
  have := H.out.alloc cs ty
  rw [← hV] at this
  exact this
theorem hp_alloc (hgd : o.guard = none) (ty : TypeId) (ho : o.op = .alloc ty) (cs : List Value) (hz : ∃ z, (P.info? ty).bind (·.zero) = some z ∧ z.cells = cs.toArray) (H : Hid (Hp S w0 w R))
    (h : ∀ w' b, Hid (Hp S w0 w' (rB b ty cs :: R)) → wpList P ops Q rest (a.put o.dst (.pointer (some ⟨b, 0, none⟩))) w') : wpList P ops Q (o :: rest) a w := by
  refine wpList_plain hgd fun K hK => ?_
  unfold Oper.wp execOp
  simp only [ho, Sem.run_bind, Sem.run_pure, Result.andThen_ok]
  obtain ⟨z, hz, hc⟩ := hz
  have hq : (zeroValue ty).run P w = .ok z w := by
    cases hi : P.info? ty with
    | none => simp [hi] at hz
    | some i =>
      have : i.zero = some z := by simpa [hi] using hz
      simp [zeroValue, typeInfo, hi, this]
  have e : (Instr.alloc ty true (.tuple #[])).run P w = .ok (.pointer (some ⟨w.heap.size, 0, none⟩)) (w.alloc (.cells cs.toArray ty)) := by
    unfold Instr.alloc
    rw [Sem.run_bind, hq]
    simp [newVar, newRow, hc]
  rw [e]
  exact hK _ _ (h _ _ (Lib.hid (H.out.alloc cs ty)))
theorem hp_load (hw : Region.wanted o (yielded ops a.tmps) = true) (ty : TypeId) (x : Operand) (ho : o.op = .load ty x) (b k : Nat) (hx : a.eval x = .pointer (some ⟨b, k, none⟩)) (i : Nat) {t : TypeId} {cs : List Value} (H : Hid (Hp S w0 w R)) (hi : R[i]? = some (rB b t cs))
    (vs : List Value) (d : TypeDesc) (hu : P.underlying ty = some d) (hd : d.isRow = true) (hz : (P.info? ty).map (·.size) = some vs.length) (hv : (cs.drop k).take vs.length = vs)
    (h : wpList P ops Q rest (a.put o.dst (.agg vs.toArray)) w) : wpList P ops Q (o :: rest) a w := by
  refine wpList_step fun K hK => ?_
  rw [if_pos hw]
  refine wp_load_mid ty x ho b k hx vs d (fun j v hj => ?_) hu hd hz (hK _ _ h)
  refine H.out.cell i hi (k + j) v ?_
  rw [← hv] at hj
  have hjl : j < vs.length := by
    have := (List.getElem?_eq_some_iff.1 hj).1
    simp at this; omega
  rw [List.getElem?_take_of_lt hjl, List.getElem?_drop] at hj
  exact hj
theorem hp_store (hgd : o.guard = none) (ty : TypeId) (x y : Operand) (ho : o.op = .store ty x y) (b k : Nat) (hx : a.eval x = .pointer (some ⟨b, k, none⟩)) (V : Value) (hy : a.eval y = V) (i : Nat) {t : TypeId} {cs : List Value} (H : Hid (Hp S w0 w R)) (hi : R[i]? = some (rB b t cs))
    (vs : List Value) (hV : V.cells = vs.toArray) (hz : (P.info? ty).map (·.size) = some vs.length) (hk : k + vs.length ≤ cs.length) (h1 : vs.all (·.oneCell') = true) (cs' : List Value) (hs : spl cs k vs = cs')
    (h : ∀ w', Hid (Hp S w0 w' (R.set i (rB b t cs'))) → wpList P ops Q rest (a.put o.dst undef) w') : wpList P ops Q (o :: rest) a w := by
  refine wpList_plain hgd fun K hK => ?_
  have hb := H.out.blk i hi
  have ht : w.there b k vs.length := fun j hj => by
    refine ⟨?_, hb.free _⟩
    rw [hb.cell (k + j) (cs[k + j]'(by omega)) (by simp [show k + j < cs.length by omega])]
    rfl
  have e : (storeVar ty ⟨b, k, none⟩ V).run P w = .ok () (w.setCells b k vs) := by
    have := run_storeCells_cells (P := P) b k vs 0 w (fun j hj => by simpa using (ht j hj).1) (fun j hj => by simpa using (ht j hj).2) (fun v hv => List.all_eq_true.1 h1 v hv)
    simp only [Nat.add_zero] at this
    cases hq : P.info? ty with
    | none => simp [hq] at hz
    | some q =>
      have hs : vs.length = q.size := by simp [hq] at hz; omega
      simp [storeVar, sizeOf, typeInfo, hq, hV, hs, this]
  unfold Oper.wp execOp
  simp only [ho, hx, hy, Instr.storeAt, Instr.sureAddr, Sem.run_bind, Sem.run_pure, Result.andThen_ok, e]
  refine hK _ _ (h _ (Lib.hid ?_))
  refine H.out.step i hi _ (off_setCells vs k w) (by simp [rB]) ?_ ?_
  · rw [← hs]
    exact blk_setCells vs k cs w hb
  · simp only [rB, List.mem_singleton, size_setCells]
    rintro q rfl
    exact ⟨.inl rfl, hb.lt⟩
end
/-- what is to be known of a type: how many cells, whether a row of cells, its zero -/
structure TyI (P : Program) (ty : TypeId) (n : Nat) (row : Bool) (z : List Value) : Prop where
  size : (P.info? ty).map (·.size) = some n
  isRow : (P.underlying ty).map (fun d => d.isRow) = some row
  zero : ((P.info? ty).bind (·.zero)).map (·.cells.toList) = some z
section
variable {P : Program} {ops : Array Oper} {rest : List Oper} {o : Oper} {a : Act} {w w0 : World} {Q : Exit → Act → World → Prop} {S : List Nat} {R : List Res} {ty n : Nat} {row : Bool} {z : List Value}
/-- where a thing stands in the list -/
theorem idx_of_mem {R : List Res} {r : Res} (h : r ∈ R) : ∃ i : Nat, R[i]? = some r := List.mem_iff_getElem?.1 h
theorem hpA_alloc (T : TyI P ty n row z) (H : Hid (Hp S w0 w R)) (ho : o.op = .alloc ty) (hgd : o.guard = none)
    (h : ∀ w' b, Hid (Hp S w0 w' (rB b ty z :: R)) → wpList P ops Q rest (a.put o.dst (.pointer (some ⟨b, 0, none⟩))) w') : wpList P ops Q (o :: rest) a w := by
  refine hp_alloc hgd ty ho z ?_ H h
  have := T.zero
  cases hq : (P.info? ty).bind (·.zero) with
  | none => simp [hq] at this
  | some v => exact ⟨v, rfl, by rw [hq] at this; simp at this; rw [← this]⟩
theorem hpA_box (ty : TypeId) (H : Hid (Hp S w0 w R)) {x : Operand} (ho : o.op = .box ty x) (hgd : o.guard = none) {V : Value} (hx : a.eval x = V) {cs : List Value} (hV : V.cells = cs.toArray)
    (h : ∀ w' b, Hid (Hp S w0 w' (rB b ty cs :: R)) → wpList P ops Q rest (a.put o.dst (.pointer (some ⟨b, 0, none⟩))) w') : wpList P ops Q (o :: rest) a w := hp_box hgd ty x ho V hx cs hV H h
theorem hpA_load (T : TyI P ty n true z) (H : Hid (Hp S w0 w R)) {x : Operand} (ho : o.op = .load ty x) {b k : Nat} (hx : a.eval x = .pointer (some ⟨b, k, none⟩)) (hw : Region.wanted o (yielded ops a.tmps) = true) {t : TypeId} {cs : List Value} (hm : rB b t cs ∈ R)
    {vs : List Value} (hv : (cs.drop k).take n = vs) (hn : vs.length = n)
    (h : wpList P ops Q rest (a.put o.dst (.agg vs.toArray)) w) : wpList P ops Q (o :: rest) a w := by
  obtain ⟨i, hi⟩ := idx_of_mem hm
  have hr := T.isRow
  cases hu : P.underlying ty with
  | none => simp [hu] at hr
  | some d => exact hp_load hw ty x ho b k hx i H hi vs d hu (by simpa [hu] using hr) (by rw [T.size, hn]) (by rw [hn]; exact hv) h
theorem hpA_load1 (T : TyI P ty 1 false z) (H : Hid (Hp S w0 w R)) {x : Operand} (ho : o.op = .load ty x) {b k : Nat} (hx : a.eval x = .pointer (some ⟨b, k, none⟩)) (hw : Region.wanted o (yielded ops a.tmps) = true) {t : TypeId} {cs : List Value} (hm : rB b t cs ∈ R)
    {v : Value} (hv : cs[k]? = some v)
    (h : wpList P ops Q rest (a.put o.dst v) w) : wpList P ops Q (o :: rest) a w := by
  obtain ⟨i, hi⟩ := idx_of_mem hm
  have hc := H.out.cell i hi k v hv
  have hr := T.isRow
  refine wpList_step fun K hK => ?_
  rw [if_pos hw]
  have e : (Instr.loadAt ty (.pointer (some ⟨b, k, none⟩))).run P w = .ok v w := by
    cases hu : P.underlying ty with
    | none => simp [hu] at hr
    | some d =>
      have hd : d.isRow = false := by simpa [hu] using hr
      have hagg : (isAgg ty).run P w = .ok false w := by
        unfold isAgg
        rw [Sem.run_bind, run_underlying hu w]
        cases d <;> simp_all
      simp only [Instr.loadAt, Instr.sureAddr, Sem.run_bind, Sem.run_pure, Result.andThen_ok]
      unfold loadVar
      rw [Sem.run_bind, hagg]
      simp [hc]
  unfold Oper.wp execOp
  simp only [ho, hx, Sem.run_bind, Sem.run_pure, Result.andThen_ok, e]
  exact hK _ _ h
/-- r' in the place of r -/
inductive Put (r r' : Res) : Nat → List Res → List Res → Prop
  | head (R : List Res) : Put r r' 0 (r :: R) (r' :: R)
  | tail (q : Res) {i : Nat} {R R' : List Res} : Put r r' i R R' → Put r r' (i + 1) (q :: R) (q :: R')
theorem Put.spec {r r' : Res} {i : Nat} {R R' : List Res} (h : Put r r' i R R') : R[i]? = some r ∧ R.set i r' = R' := by
  induction h with
  | head R => exact ⟨rfl, rfl⟩
  | tail q h ih => exact ⟨by simpa using ih.1, by simp [ih.2]⟩
theorem hpA_store (T : TyI P ty n row z) (H : Hid (Hp S w0 w R)) {x y : Operand} (ho : o.op = .store ty x y) (hgd : o.guard = none) {b k : Nat} (hx : a.eval x = .pointer (some ⟨b, k, none⟩)) {vs : List Value} (hy : a.eval y = .agg vs.toArray)
    (hn : vs.length = n) {t : TypeId} {cs : List Value} {r' : Res} {i : Nat} {R' : List Res} (hp : Put (rB b t cs) r' i R R') (hk : k + n ≤ cs.length) (h1 : vs.all (·.oneCell') = true) {cs' : List Value} (hs : spl cs k vs = cs') (hr : r' = rB b t cs')
    (h : ∀ w', Hid (Hp S w0 w' R') → wpList P ops Q rest (a.put o.dst undef) w') : wpList P ops Q (o :: rest) a w := by
  subst hr
  obtain ⟨hi, hR⟩ := hp.spec
  subst hR
  exact hp_store hgd ty x y ho b k hx _ hy i H hi vs (by simp [Value.cells]) (by rw [T.size, hn]) (by omega) h1 cs' hs h
theorem hpA_store1 (T : TyI P ty 1 false z) (H : Hid (Hp S w0 w R)) {x y : Operand} (ho : o.op = .store ty x y) (hgd : o.guard = none) {b k : Nat} (hx : a.eval x = .pointer (some ⟨b, k, none⟩)) {V : Value} (hy : a.eval y = V)
    (hV : V.cells = #[V]) {t : TypeId} {cs : List Value} {r' : Res} {i : Nat} {R' : List Res} (hp : Put (rB b t cs) r' i R R') (hk : k < cs.length) (h1 : V.oneCell' = true) {cs' : List Value} (hs : cs.set k V = cs') (hr : r' = rB b t cs')
    (h : ∀ w', Hid (Hp S w0 w' R') → wpList P ops Q rest (a.put o.dst undef) w') : wpList P ops Q (o :: rest) a w := by
  subst hr
  obtain ⟨hi, hR⟩ := hp.spec
  subst hR
  exact hp_store hgd ty x y ho b k hx V hy i H hi [V] hV (by rw [T.size]; rfl) (by simp; omega) (by simp [h1]) cs' (by rw [spl_cons, spl_nil]; exact hs) h
/-- what a result variable in memory holds -/
theorem hp_var (T : TyI P ty n true z) {t : TypeId} {cs : List Value} (b : Nat) (H : Hp S w0 w R) (hm : rB b t cs ∈ R) (hn : cs.length = n) : (loadVar ty ⟨b, 0, none⟩).run P w = .ok (.agg cs.toArray) w := by
  obtain ⟨i, hi⟩ := idx_of_mem hm
  have hr := T.isRow
  cases hu : P.underlying ty with
  | none => simp [hu] at hr
  | some d =>
    refine run_loadVar_mid w b 0 ty cs d (fun j v hj => ?_) hu (by simpa [hu] using hr) (by rw [T.size, hn])
    rw [Nat.zero_add]
    exact H.cell i hi j v hj
theorem hp_var1 (T : TyI P ty 1 false z) {t : TypeId} (b : Nat) (v : Value) (H : Hp S w0 w R) (hm : rB b t [v] ∈ R) : (loadVar ty ⟨b, 0, none⟩).run P w = .ok v w := by
  obtain ⟨i, hi⟩ := idx_of_mem hm
  have hc := H.cell i hi 0 v rfl
  have hr := T.isRow
  cases hu : P.underlying ty with
  | none => simp [hu] at hr
  | some d =>
    have hd : d.isRow = false := by simpa [hu] using hr
    have hagg : (isAgg ty).run P w = .ok false w := by
      unfold isAgg
      rw [Sem.run_bind, run_underlying hu w]
      cases d <;> simp_all
    unfold loadVar
    rw [Sem.run_bind, hagg]
    simp [hc]
end
theorem res_c {fn : Func} {p : Tmp} {ty : TypeId} (h : fn.results = #[.cell p ty]) (tmps : Array Value) {P : Program} (w : World) (a : Addr) (hp : tmps.getD p undef = .pointer (some a)) (V : Value) (hl : (loadVar ty a).run P w = .ok V w) :
    (results fn tmps).run P w = .ok V w := by
  have hp' : (tmps[p]?).getD undef = .pointer (some a) := by simpa using hp
  simp [results, h, hp', asAddr, hl, Result.andThen]
theorem res_ct {fn : Func} {p u : Tmp} {ty : TypeId} (h : fn.results = #[.cell p ty, .tmp u]) (tmps : Array Value) {P : Program} (w : World) (a : Addr) (hp : tmps.getD p undef = .pointer (some a)) (V U : Value) (hu : tmps.getD u undef = U) (hl : (loadVar ty a).run P w = .ok V w) :
    (results fn tmps).run P w = .ok (.tuple #[V, U]) w := by
  rw [results_cell_tmp h, hp, hu]
  simp [asAddr, hl, Result.andThen]
theorem res_cct {fn : Func} {p q u : Tmp} {ty t2 : TypeId} (h : fn.results = #[.cell p ty, .cell q t2, .tmp u]) (tmps : Array Value) {P : Program} (w : World) (a b : Addr) (hp : tmps.getD p undef = .pointer (some a)) (hq : tmps.getD q undef = .pointer (some b)) (V U X : Value) (hu : tmps.getD u undef = X) (hl : (loadVar ty a).run P w = .ok V w) (hl2 : (loadVar t2 b).run P w = .ok U w) :
    (results fn tmps).run P w = .ok (.tuple #[V, U, X]) w := by
  have hp' : (tmps[p]?).getD undef = .pointer (some a) := by simpa using hp
  have hq' : (tmps[q]?).getD undef = .pointer (some b) := by simpa using hq
  have hu' : (tmps[u]?).getD undef = X := by simpa using hu
  simp [results, h, hp', hq', hu', asAddr, hl, hl2, Result.andThen]
section
variable {P : Program} {fn : Func} {a : Act} {w w0 : World} {S : List Nat} {R : List Res} {ty n t2 n2 : Nat} {z z2 : List Value} {p q u : Tmp} {Post : Ending → World → Prop}
theorem hp_ret_c (T : TyI P ty n true z) (H : Hid (Hp S w0 w R)) (h : fn.results = #[.cell p ty]) (hd : a.defers = []) {b : Nat} (hp : a.tmps.getD p undef = .pointer (some ⟨b, 0, none⟩)) {t : TypeId} {cs : List Value} (hm : rB b t cs ∈ R) (hn : cs.length = n)
    (hQ : Post (.returned (.agg cs.toArray)) w) : bodyPost P fn Post .ret a w :=
  ⟨hd, _, res_c h a.tmps w _ hp _ (hp_var T b H.out hm hn), hQ⟩
theorem hp_ret_ct (T : TyI P ty n true z) (H : Hid (Hp S w0 w R)) (h : fn.results = #[.cell p ty, .tmp u]) (hd : a.defers = []) {b : Nat} (hp : a.tmps.getD p undef = .pointer (some ⟨b, 0, none⟩)) {U : Value} (hu : a.tmps.getD u undef = U) {t : TypeId} {cs : List Value} (hm : rB b t cs ∈ R) (hn : cs.length = n)
    (hQ : Post (.returned (.tuple #[.agg cs.toArray, U])) w) : bodyPost P fn Post .ret a w :=
  ⟨hd, _, res_ct h a.tmps w _ hp _ _ hu (hp_var T b H.out hm hn), hQ⟩
theorem hp_ret_cct (T : TyI P ty n true z) (T2 : TyI P t2 n2 true z2) (H : Hid (Hp S w0 w R)) (h : fn.results = #[.cell p ty, .cell q t2, .tmp u]) (hd : a.defers = []) {b b2 : Nat} (hp : a.tmps.getD p undef = .pointer (some ⟨b, 0, none⟩)) (hq : a.tmps.getD q undef = .pointer (some ⟨b2, 0, none⟩)) {U : Value} (hu : a.tmps.getD u undef = U) {t tt : TypeId} {cs ds : List Value} (hm : rB b t cs ∈ R) (hm2 : rB b2 tt ds ∈ R) (hn : cs.length = n) (hn2 : ds.length = n2)
    (hQ : Post (.returned (.tuple #[.agg cs.toArray, .agg ds.toArray, U])) w) : bodyPost P fn Post .ret a w :=
  ⟨hd, _, res_cct h a.tmps w _ _ hp hq _ _ _ hu (hp_var T b H.out hm hn) (hp_var T2 b2 H.out hm2 hn2), hQ⟩
end
theorem hpA_box1 {P : Program} {ops : Array Oper} {rest : List Oper} {o : Oper} {a : Act} {w w0 : World} {Q : Exit → Act → World → Prop} {S : List Nat} {R : List Res} (ty : TypeId) (H : Hid (Hp S w0 w R)) {x : Operand} (ho : o.op = .box ty x) (hgd : o.guard = none) {V : Value} (hx : a.eval x = V) (hV : V.cells = #[V])
    (h : ∀ w' b, Hid (Hp S w0 w' (rB b ty [V] :: R)) → wpList P ops Q rest (a.put o.dst (.pointer (some ⟨b, 0, none⟩))) w') : wpList P ops Q (o :: rest) a w := hp_box hgd ty x ho V hx [V] hV H h
/-- a slice literal -/
theorem hpA_bslice_K {P : Program} {o : Oper} {a : Act} {w w0 : World} {K : Act → World → Prop} {Q : Exit → Act → World → Prop} {S : List Nat} {R : List Res} {ty e sz : Nat} {row : Bool} {z : List Value} (hu : P.underlying ty = some (.slice e)) (T : TyI P e sz row z) (H : Hid (Hp S w0 w R))
    {n : Nat} {ps : Array (Nat × Operand)} (ho : o.op = .buildSlice ty n ps) (hn : n * sz ≤ 2 ^ 24) (hn0 : n * sz ≠ 0) {cs : List Value}
    (hf : Instr.fill (fun i => some (i * sz, sz)) ((Array.range (n * sz)).map (z.toArray[· % z.toArray.size]!)) (ps.map fun (p : Nat × Operand) => (p.1, a.eval p.2)).toList = some cs.toArray)
    (h : ∀ w' b, Hid (Hp S w0 w' (rB b e cs :: R)) → K (a.put o.dst (.slice (some ⟨b, 0, none⟩) n n)) w') : Oper.wp P o a w K Q := by
  have hs : (sizeOf e).run P w = .ok sz w := by
    have := T.size
    cases hq : P.info? e with
    | none => simp [hq] at this
    | some i => simp [hq] at this; simp [sizeOf, typeInfo, hq, this]
  have hz : (zeroValue e).run P w = .ok ((P.info? e).bind (·.zero)).get! w ∧ (((P.info? e).bind (·.zero)).get!).cells = z.toArray := by
    have := T.zero
    cases hi : P.info? e with
    | none => simp [hi] at this
    | some i =>
      cases hj : i.zero with
      | none => simp [hi, hj] at this
      | some v =>
        simp [hi, hj] at this
        refine ⟨by simp [zeroValue, typeInfo, hi, hj], by simp [hj, ← this]⟩
  generalize ((P.info? e).bind (·.zero)).get! = zv at hz
  obtain ⟨hz, hzc⟩ := hz
  have e1 : (Instr.buildSlice ty n (ps.map fun (p : Nat × Operand) => (p.1, a.eval p.2))).run P w = .ok (.slice (some ⟨w.heap.size, 0, none⟩) n n) (w.alloc (.cells cs.toArray e)) := by
    unfold Instr.buildSlice
    rw [Sem.run_bind, run_underlying hu w]
    simp only [Result.andThen_ok]
    rw [Sem.run_bind, hs]
    simp only [Result.andThen_ok]
    rw [if_neg (by omega), if_neg hn0]
    simp only [Sem.run_bind, Sem.run_pure, Result.andThen_ok, hz, hzc]
    rw [hf]
    simp [newRow]
  unfold Oper.wp execOp
  simp only [ho, Sem.run_bind, Sem.run_pure, Result.andThen_ok]
  rw [e1]
  exact h _ _ (Lib.hid (H.out.alloc cs e))
theorem hpA_bslice {P : Program} {ops : Array Oper} {rest : List Oper} {o : Oper} {a : Act} {w w0 : World} {Q : Exit → Act → World → Prop} {S : List Nat} {R : List Res} {ty e sz : Nat} {row : Bool} {z : List Value} (hu : P.underlying ty = some (.slice e)) (T : TyI P e sz row z) (H : Hid (Hp S w0 w R))
    {n : Nat} {ps : Array (Nat × Operand)} (ho : o.op = .buildSlice ty n ps) (hgd : o.guard = none) (hn : n * sz ≤ 2 ^ 24) (hn0 : n * sz ≠ 0) {cs : List Value}
    (hf : Instr.fill (fun i => some (i * sz, sz)) ((Array.range (n * sz)).map (z.toArray[· % z.toArray.size]!)) (ps.map fun (p : Nat × Operand) => (p.1, a.eval p.2)).toList = some cs.toArray)
    (h : ∀ w' b, Hid (Hp S w0 w' (rB b e cs :: R)) → wpList P ops Q rest (a.put o.dst (.slice (some ⟨b, 0, none⟩) n n)) w') : wpList P ops Q (o :: rest) a w :=
  wpList_plain hgd fun K hK => hpA_bslice_K hu T H ho hn hn0 hf (fun w' b h' => hK _ _ (h w' b h'))
/-- a guard: does this operation touch memory? -/
def isMem : Op → Bool
  | .box .. | .alloc .. | .load .. | .store .. | .buildSlice .. => true
  | _ => false
theorem g_mem {P : Program} {ops : Array Oper} {rest : List Oper} {o : Oper} {a : Act} {w : World} {Q : Exit → Act → World → Prop} (_ : isMem o.op = true) (h : wpList P ops Q (o :: rest) a w) : wpList P ops Q (o :: rest) a w := h
section
variable {P : Program} {ops : Array Oper} {rest : List Oper} {o : Oper} {a : Act} {w w0 : World} {Q : Exit → Act → World → Prop} {S : List Nat} {R : List Res} {ty n : Nat} {row : Bool} {z : List Value}
theorem hpN_box (ty d : Nat) (H : Hid (Hp S w0 w R)) (hd : o.dst = some d) {x : Operand} (ho : o.op = .box ty x) (hgd : o.guard = none) {V : Value} (hx : a.eval x = V) {cs : List Value} (hV : V.cells = cs.toArray)
    (h : ∀ w' b, Hid (Hp S w0 w' (rB b ty cs :: R)) → wpList P ops Q rest (a.put o.dst (.pointer (some ⟨b, 0, none⟩))) w') : wpList P ops Q (o :: rest) a w := hp_box hgd ty x ho V hx cs hV H h
theorem hpN_box1 (ty d : Nat) (H : Hid (Hp S w0 w R)) (hd : o.dst = some d) {x : Operand} (ho : o.op = .box ty x) (hgd : o.guard = none) {V : Value} (hx : a.eval x = V) (hV : V.cells = #[V])
    (h : ∀ w' b, Hid (Hp S w0 w' (rB b ty [V] :: R)) → wpList P ops Q rest (a.put o.dst (.pointer (some ⟨b, 0, none⟩))) w') : wpList P ops Q (o :: rest) a w := hp_box hgd ty x ho V hx [V] hV H h
theorem hpN_alloc (T : TyI P ty n row z) (d : Nat) (H : Hid (Hp S w0 w R)) (hd : o.dst = some d) (ho : o.op = .alloc ty) (hgd : o.guard = none)
    (h : ∀ w' b, Hid (Hp S w0 w' (rB b ty z :: R)) → wpList P ops Q rest (a.put o.dst (.pointer (some ⟨b, 0, none⟩))) w') : wpList P ops Q (o :: rest) a w := hpA_alloc T H ho hgd h
theorem hpN_bslice {e sz : Nat} (hu : P.underlying ty = some (.slice e)) (T : TyI P e sz row z) (d : Nat) (H : Hid (Hp S w0 w R)) (hd : o.dst = some d)
    {n : Nat} {ps : Array (Nat × Operand)} (ho : o.op = .buildSlice ty n ps) (hw : Region.wanted o (yielded ops a.tmps) = true) (hn : n * sz ≤ 2 ^ 24) (hn0 : n * sz ≠ 0) {cs : List Value}
    (hf : Instr.fill (fun i => some (i * sz, sz)) ((Array.range (n * sz)).map (z.toArray[· % z.toArray.size]!)) (ps.map fun (p : Nat × Operand) => (p.1, a.eval p.2)).toList = some cs.toArray)
    (h : ∀ w' b, Hid (Hp S w0 w' (rB b e cs :: R)) → wpList P ops Q rest (a.put o.dst (.slice (some ⟨b, 0, none⟩) n n)) w') : wpList P ops Q (o :: rest) a w := by
  cases o with
  | mk dst op type pos after guard =>
    refine wpList_step fun K hK => ?_
    rw [if_pos hw]
    exact hpA_bslice_K hu T H ho hn hn0 hf (fun w' b h' => hK _ _ (h w' b h'))
/-! regions that draw: a condition on worlds that stays, whatever is allocated -/
theorem Hp.pack (H : Hid (Hp S w0 w R)) : ∃ Sx : World → Prop, Sx w ∧ (∀ w', Sx w' → Hp S w0 w' R) ∧ (∀ w', Sx w' → Sx w'.drew) ∧ (∀ w' w'', Sx w' → Off [] w' w'' → Sx w'') :=
  ⟨fun w' => Hp S w0 w' R, H.out, fun _ h => h, fun _ h => h.drew, fun _ _ h ho => h.quiet ho⟩
theorem Hp.useCell {goal : Prop} {Sx : World → Prop} (hSH : ∀ w', Sx w' → Hp S w0 w' R) (b k : Nat) {t : TypeId} {cs : List Value} (hm : rB b t cs ∈ R) {v : Value} (hk : cs[k]? = some v) (h : (∀ w', Sx w' → w'.cell? ⟨b, k, none⟩ = some v) → goal) : goal := by
  obtain ⟨i, hi⟩ := idx_of_mem hm
  exact h fun w' hw' => (hSH w' hw').cell i hi k v hk
theorem Hp.useRow {goal : Prop} {Sx : World → Prop} (T : TyI P ty n true z) (hSH : ∀ w', Sx w' → Hp S w0 w' R) (b k : Nat) {t : TypeId} {cs : List Value} (hm : rB b t cs ∈ R) {vs : List Value} (hv : (cs.drop k).take n = vs) (hn : vs.length = n)
    (h : (∀ w', Sx w' → (Instr.loadAt ty (.pointer (some ⟨b, k, none⟩))).run P w' = .ok (.agg vs.toArray) w') → goal) : goal := by
  obtain ⟨i, hi⟩ := idx_of_mem hm
  have hr := T.isRow
  refine h fun w' hw' => ?_
  cases hu : P.underlying ty with
  | none => simp [hu] at hr
  | some d =>
    refine run_loadAt_mid w' b k ty vs d (fun j v hj => ?_) hu (by simpa [hu] using hr) (by rw [T.size, hn])
    refine (hSH w' hw').cell i hi (k + j) v ?_
    rw [← hv] at hj
    have hjl : j < n := by
      have := (List.getElem?_eq_some_iff.1 hj).1
      simp at this; omega
    rw [List.getElem?_take_of_lt hjl, List.getElem?_drop] at hj
    exact hj
theorem g_region (id : Nat) {ops : Array Oper} (h : (Code.region id ops true).wp P Q a w) : (Code.region id ops true).wp P Q a w := h
end
theorem cells_row (cs : Array Value) : (Value.agg cs).cells = cs.toList.toArray := by simp [Value.cells]
end Go.Proofs.Ytnanihffljpdbaa.Mem

/- A condition on worlds that stays in a region that draws, whatever is allocated. -/
namespace Go.Proofs.Ytnanihffljpdbaa.Mem
set_option linter.unusedVariables false
set_option linter.unusedSimpArgs false
open Go.RowKit

/-- (a condition under a name that simp takes for a rule) -/
def Keeps (S : World → Prop) (w : World) : Prop := S w
section
variable {P : Program} {w w0 : World} {S : List Nat} {R : List Res} {ty n : Nat} {z : List Value}
theorem Hp.pack2 (H : Hid (Hp S w0 w R)) : ∃ Sx : World → Prop, Keeps Sx w ∧ (∀ w', Keeps Sx w' → Hp S w0 w' R) ∧ (∀ w', Keeps Sx w' → Keeps Sx w'.drew) ∧ (∀ w' w'', Keeps Sx w' → Off [] w' w'' → Keeps Sx w'') :=
  ⟨fun w' => Hp S w0 w' R, H.out, fun _ h => h, fun _ h => Hp.drew h, fun _ _ h ho => Hp.quiet h ho⟩
theorem Hp.useCell2 {goal : Prop} {Sx : World → Prop} (hSH : ∀ w', Keeps Sx w' → Hp S w0 w' R) (b k : Nat) {t : TypeId} {cs : List Value} (hm : rB b t cs ∈ R) {v : Value} (hk : cs[k]? = some v) (h : (∀ w', Keeps Sx w' → w'.cell? ⟨b, k, none⟩ = some v) → goal) : goal := by
  obtain ⟨i, hi⟩ := idx_of_mem hm
  exact h fun w' hw' => (hSH w' hw').cell i hi k v hk
theorem Hp.useRow2 {goal : Prop} {Sx : World → Prop} (T : TyI P ty n true z) (hSH : ∀ w', Keeps Sx w' → Hp S w0 w' R) (b k : Nat) {t : TypeId} {cs : List Value} (hm : rB b t cs ∈ R) {vs : List Value} (hv : (cs.drop k).take n = vs) (hn : vs.length = n)
    (h : (∀ w', Keeps Sx w' → (Instr.loadAt ty (.pointer (some ⟨b, k, none⟩))).run P w' = .ok (.agg vs.toArray) w') → goal) : goal := by
  obtain ⟨i, hi⟩ := idx_of_mem hm
  have hr := T.isRow
  refine h fun w' hw' => ?_
  cases hu : P.underlying ty with
  | none => simp [hu] at hr
  | some d =>
    refine run_loadAt_mid w' b k ty vs d (fun j v hj => ?_) hu (by simpa [hu] using hr) (by rw [T.size, hn])
    refine (hSH w' hw').cell i hi (k + j) v ?_
    rw [← hv] at hj
    have hjl : j < n := by
      have := (List.getElem?_eq_some_iff.1 hj).1
      simp at this; omega
    rw [List.getElem?_take_of_lt hjl, List.getElem?_drop] at hj
    exact hj
end
end Go.Proofs.Ytnanihffljpdbaa.Mem

/- Contracts of the functions of layer 2 that read. -/
namespace Go.Proofs.Ytnanihffljpdbaa.Pk
set_option linter.unusedVariables false
set_option linter.unusedSimpArgs false
open Go.RowKit Go.Proofs.Ytnanihffljpdbaa.Mem

theorem ret_bool {a b : Bool} (h : a = b) : Ending.returned (.bool a) = .returned (.bool b) := by rw [h]
theorem ret_int {k : IntKind} {a b : Int} (h : a = b) : Ending.returned (.int k a) = .returned (.int k b) := by rw [h]

theorem ret2 {k : IntKind} {a b : Int} {c d : Bool} (h : a = b) (h' : c = d) : Ending.returned (.tuple #[.int k a, .bool c]) = .returned (.tuple #[.int k b, .bool d]) := by rw [h, h']

def wide (w : Int) : Bool := w == 1 || w == 2 || w == 4 || w == 8

def inLeftV (s : ByteArray) (bad : Bool) : Int := if bad then 0 else s.size
/-- the first bytes as a number, the highest first -/
def beL (l : List Nat) : Nat := l.foldl (fun n c => n * 256 + c) 0
def nums (s : ByteArray) : List Nat := s.data.toList.map UInt8.toNat
def be (s : ByteArray) (k : Nat) : Nat := beL ((nums s).take k)
theorem nums_length (s : ByteArray) : (nums s).length = s.size := by simp [nums]
theorem beL_snoc (l : List Nat) (c : Nat) : beL (l ++ [c]) = beL l * 256 + c := by simp [beL]
theorem be_succ (s : ByteArray) (k : Nat) (h : k < s.size) : be s (k + 1) = be s k * 256 + s[k].toNat := by
  unfold be
  rw [List.take_succ_eq_append_getElem (by rw [nums_length]; exact h), beL_snoc]
  simp [nums]
  rfl
theorem be_lt (s : ByteArray) : ∀ k, k ≤ s.size → be s k < 256 ^ k
  | 0, _ => by simp [be, beL]
  | k + 1, h => by
    rw [be_succ s k (by omega), Nat.pow_succ]
    have := be_lt s k (by omega)
    have := s[k].toNat_lt
    omega
theorem be_lt8 (s : ByteArray) (k : Nat) (h : k ≤ s.size) (h8 : k ≤ 8) : be s k < 18446744073709551616 :=
  Nat.lt_of_lt_of_le (be_lt s k h) (Nat.le_trans (Nat.pow_le_pow_right (by decide) h8) (by decide))
theorem wide_le {n : Nat} (h : wide n = true) : n ≤ 8 := by unfold wide at h; simp at h; omega
/-- one byte more, as the code reckons it -/
theorem be_step (s : ByteArray) (k : Nat) (h : k < s.size) (h8 : k < 8) :
    bits BinOp.or IntKind.u64 (IntKind.u64.wrap (↑(be s k) * 256)) (IntKind.u64.wrap ↑s[k].toNat) = ((be s (k + 1) : Nat) : Int) := by
  have h1 := be_lt s k (by omega)
  have h2 : be s k < 72057594037927936 := Nat.lt_of_lt_of_le h1 (Nat.le_trans (Nat.pow_le_pow_right (by decide) (show k ≤ 7 by omega)) (by decide))
  have h3 := s[k].toNat_lt
  rw [IntKind.wrap_u64, IntKind.wrap_u64, show (↑(be s k) * 256 : Int) % 18446744073709551616 = (be s k : Int) * 256 by omega, show ((s[k].toNat : Nat) : Int) % 18446744073709551616 = (s[k].toNat : Int) by omega]
  rw [bits_join .u64 64 (by decide) (by intro n h0 h1; rw [IntKind.wrap_u64]; omega) 8 _ _ (by omega) (by omega) (by omega) (by omega) (by omega) (by omega), be_succ s k h]
  omega

end Go.Proofs.Ytnanihffljpdbaa.Pk

/- Contracts of the functions of layer 2 that write. -/
namespace Go.Proofs.Ytnanihffljpdbaa.Pk
set_option linter.unusedVariables false
set_option linter.unusedSimpArgs false
open Go.RowKit Go.Proofs.Ytnanihffljpdbaa.Mem

/-- whether a number has so many bytes -/
def fitsV (w n : Int) : Bool := wide w && decide (0 ≤ n) && (w == 8 || n / 2 ^ (8 * w.toNat) == 0)
theorem wide_cases {w : Int} (h : wide w = true) : w = 1 ∨ w = 2 ∨ w = 4 ∨ w = 8 := by unfold wide at h; simp at h; omega
/-- bytes as cells -/
def bytesL (l : List Nat) : List Value := l.map fun c : Nat => Value.int .u8 (c : Int)
theorem bytesL_append (a b : List Nat) : bytesL (a ++ b) = bytesL a ++ bytesL b := by simp [bytesL]
theorem bytesL_length (l : List Nat) : (bytesL l).length = l.length := by simp [bytesL]
theorem strCells_bytesL (s : ByteArray) : Lib.strCells s = bytesL (nums s) := by simp [Lib.strCells, bytesL, nums]
/-- a slice goes on in its own block, or in a new one -/
def Goes (w : World) (v v' : Value) : Prop := v'.ownBlock = v.ownBlock ∨ ∃ k, v'.ownBlock = some k ∧ w.heap.size ≤ k
theorem Goes.refl (w : World) (v : Value) : Goes w v v := .inl rfl
theorem Goes.trans {w w1 : World} {v v1 v2 : Value} (h : Goes w v v1) (h' : Goes w1 v1 v2) (hs : w.heap.size ≤ w1.heap.size) : Goes w v v2 := by
  rcases h' with h' | ⟨k, hk, hk2⟩
  · rcases h with h | ⟨k, hk, hk2⟩
    · exact .inl (h'.trans h)
    · exact .inr ⟨k, h'.trans hk, hk2⟩
  · exact .inr ⟨k, hk, Nat.le_trans hs hk2⟩
theorem Goes.above {w : World} {v v' : Value} {B : Nat} (h : Goes w v v') (hv : ∀ k, v.ownBlock = some k → B ≤ k) (hB : B ≤ w.heap.size) : ∀ k, v'.ownBlock = some k → B ≤ k := by
  intro k hk
  rcases h with h | ⟨k', h, hk'⟩
  · exact hv k (by rw [← h]; exact hk)
  · rw [h] at hk
    simp at hk
    omega
/-- a number's bytes, the highest first -/
def beB : Nat → Nat → List Nat
  | 0, _ => []
  | k + 1, n => beB k (n / 256) ++ [n % 256]
theorem beB_length : ∀ (k n : Nat), (beB k n).length = k
  | 0, _ => rfl
  | k + 1, n => by simp [beB, beB_length k]
theorem beB_lt : ∀ (k n : Nat), ∀ c ∈ beB k n, c < 256
  | 0, _, c, h => by simp [beB] at h
  | k + 1, n, c, h => by
    simp only [beB, List.mem_append, List.mem_singleton] at h
    rcases h with h | rfl
    · exact beB_lt k _ c h
    · omega
theorem beB_step (wd q n : Nat) (h : q < wd) : beB (wd - q) (n / 256 ^ q) = beB (wd - (q + 1)) (n / 256 ^ (q + 1)) ++ [n / 256 ^ q % 256] := by
  rw [show wd - q = (wd - (q + 1)) + 1 by omega]
  simp only [beB]
  rw [Nat.div_div_eq_div_mul, Nat.pow_succ]
def beBs (wd : Nat) (ns : List Int) : List Nat := (ns.map fun n : Int => beB wd n.toNat).flatten
theorem beBs_snoc (wd : Nat) (ns : List Int) (n : Int) : beBs wd (ns ++ [n]) = beBs wd ns ++ beB wd n.toNat := by simp [beBs]
theorem beBs_lt (wd : Nat) (ns : List Int) : ∀ c ∈ beBs wd ns, c < 256 := by
  intro c hc
  simp only [beBs, List.mem_flatten, List.mem_map] at hc
  obtain ⟨l, ⟨n, _, rfl⟩, h⟩ := hc
  exact beB_lt _ _ c h
theorem beBs_length (wd : Nat) : ∀ (ns : List Int), (beBs wd ns).length = wd * ns.length
  | [] => rfl
  | n :: ns => by
    have := beBs_length wd ns
    simp only [beBs] at this
    simp [beBs, beB_length, this, Nat.mul_add, Nat.add_comm]
theorem info_byte : (Try.prog.info? 5).map (fun i => (i.zero, i.size, i.bytes)) = some (some (.int .u8 0), 1, 1) := by kernel_rfl

theorem goes_mem {w : World} {v v' : Value} {b : Nat} (h : Goes w v v') : ∀ i, i < w.heap.size → i ∈ b :: v'.ownBlock.toList → i ∈ b :: v.ownBlock.toList := by
  intro i hi hm
  simp only [List.mem_cons, Option.mem_toList] at hm ⊢
  rcases hm with rfl | hm
  · exact .inl rfl
  · right
    rcases h with h | ⟨k, h, hk⟩
    · rw [← h]; exact hm
    · rw [h] at hm
      simp at hm
      omega
theorem goes_lies {wr : World} {v : Value} {g n cap : Nat} {H : Nat} (h : v.ownBlock = some g ∨ g = H) (hH : wr.heap.size ≤ H) : Goes wr v (.slice (some ⟨g, 0, none⟩) n cap) := by
  rcases h with h | h
  · exact .inl (by rw [h]; rfl)
  · exact .inr ⟨g, rfl, by omega⟩
theorem shift_byte (m q : Nat) : ((m : Int) / 2 ^ (q * 8) % 256) = ((m / 256 ^ q % 256 : Nat) : Int) := by
  rw [show (256 : Nat) = 2 ^ 8 from rfl, ← Nat.pow_mul, Nat.mul_comm 8 q]
  simp
end Go.Proofs.Ytnanihffljpdbaa.Pk

/- Contracts of the functions of layer 2: texts that are written, and what was written. -/
namespace Go.Proofs.Ytnanihffljpdbaa.Pk
set_option linter.unusedVariables false
set_option linter.unusedSimpArgs false
open Go.RowKit Go.Proofs.Ytnanihffljpdbaa.Mem
set_option maxRecDepth 20000

section
variable {P : Program} (w : World)
/-- a text's bytes behind a row of the call's own: it goes on in its block, or in a new one -/
theorem run_append_text (t u ty e : TypeId) (i : TypeInfo) (ht : P.underlying t = some (.slice e)) (hu : P.underlying u = some .string) (hi : P.info? e = some i) (hz : i.zero = some (.int .u8 0))
    (hsize : i.size = 1) (hby : i.bytes = 1) (v : Value) (n : Nat) (xs : List Value) (hown : w.ownsRow 0 e 1 v n xs) (s : ByteArray) (h63 : n + s.size ≤ maxLen) (hbytes : n + s.size ≤ 140737488355328) :
    ∃ v' w', (Builtin.append_ #[t, u] ty #[v, .string s]).run P w = .ok v' w' ∧ w'.ownsRow 0 e 1 v' (n + s.size) (xs ++ Lib.strCells s) ∧ w.grownBy w' v.ownBlock ∧ Goes w v v' := by
  obtain ⟨v', w', hr, h2, h3, h4⟩ := Lib.run_append_own_string (P := P) w 0 t u ty e i ht hu hi hz hsize hby v n xs hown s h63 hbytes (Nat.zero_le _)
  refine ⟨v', w', hr, h2, h3, ?_⟩
  have hm : n + s.size ≤ 9223372036854775807 := by simp only [maxLen] at h63; omega
  rcases hown.2 with ⟨rfl, rfl⟩ | ⟨g, cap, cur, rfl, hbg, hg, hnc, hcm, hcs, htake⟩
  · by_cases h0 : s.size = 0
    · exact .inl (by rw [h4.2 ⟨rfl, h0⟩])
    · have hq := run_append_nil_string (P := P) w t u ty e i (.int .u8 0) ht hu hi hz s (by omega) (by omega) (by rw [hby]; omega)
      rw [hr] at hq
      injection hq with hv hw
      exact .inr ⟨w.heap.size, by rw [hv]; rfl, Nat.le_refl _⟩
  · by_cases hroom : n + s.size ≤ cap
    · have hq := Lib.run_append_room_string (P := P) w t u ty e i ht hu hi hsize g n cap cur hg s hroom (by rw [hcs]; omega)
      rw [hr] at hq
      injection hq with hv hw
      exact .inl (by rw [hv]; rfl)
    · have holds : ∀ j u, xs[j]? = some u → w.cell? ((⟨g, 0, none⟩ : Addr).add j) = some u := hown.cells (g := g) rfl
      have hq := Lib.run_append_grow_string (P := P) w t u ty e i (.int .u8 0) ht hu hi hz ⟨g, 0, none⟩ n cap xs (by rw [hsize]; exact hown.1) holds s (by omega) (by omega) (by rw [hby]; exact growslice_fits (by omega) (by omega))
      rw [hr] at hq
      injection hq with hv hw
      exact .inr ⟨w.heap.size, by rw [hv]; rfl, Nat.le_refl _⟩
theorem wpList_append_text {ops : Array Oper} {rest : List Oper} {o : Oper} {a : Act} {Q : Exit → Act → World → Prop} (hgd : o.guard = none) (sl x : Operand) (t u : TypeId)
    (ho : o.op = .call { callee := .builtin .append, args := #[sl, x], argTypes := #[t, u] })
    (e : TypeId) (i : TypeInfo) (ht : P.underlying t = some (.slice e)) (hu : P.underlying u = some .string) (hi : P.info? e = some i) (hz : i.zero = some (.int .u8 0)) (hsize : i.size = 1) (hby : i.bytes = 1)
    (v : Value) (n : Nat) (xs : List Value) (hs : a.eval sl = v) (hown : w.ownsRow 0 e 1 v n xs) (s : ByteArray) (hx : a.eval x = .string s) (h63 : n + s.size ≤ maxLen) (hbytes : n + s.size ≤ 140737488355328)
    (h : ∀ v' w', w'.ownsRow 0 e 1 v' (n + s.size) (xs ++ Lib.strCells s) → w.grownBy w' v.ownBlock → Goes w v v' → wpList P ops Q rest (a.put o.dst v') w') : wpList P ops Q (o :: rest) a w := by
  refine wpList_plain hgd fun K hK => ?_
  obtain ⟨v', w', hr, h2, h3, h4⟩ := run_append_text (P := P) w t u o.type e i ht hu hi hz hsize hby v n xs hown s h63 hbytes
  unfold Oper.wp execOp
  simp only [ho, resolve, invoke, builtin, Sem.run_bind, Sem.run_pure, Result.andThen_ok, List.map_toArray, List.map_cons, List.map_nil, hs, hx, hr]
  exact hK _ _ (h v' w' h2 h3 h4)
end

theorem owns_form {w : World} {base : Nat} {e : TypeId} {v : Value} {n : Nat} {xs : List Value} (h : w.ownsRow base e 1 v n xs) : ∃ a c, v = .slice a n c := by
  rcases h.2 with ⟨rfl, rfl⟩ | ⟨g, cap, cur, rfl, _⟩
  · exact ⟨_, _, rfl⟩
  · exact ⟨_, _, rfl⟩
theorem Goes.of_alloc {w : World} {o : Obj} {v v' : Value} (h : Goes (w.alloc o) v v') : Goes w v v' := by
  rcases h with h | ⟨k, h, hk⟩
  · exact .inl h
  · exact .inr ⟨k, h, by simp at hk; omega⟩
theorem nums_lt (s : ByteArray) : ∀ c ∈ nums s, c < 256 := by
  intro c hc
  obtain ⟨x, _, rfl⟩ := List.mem_map.mp hc
  exact x.toNat_lt
/-- the text of these bytes -/
def str (l : List Nat) : ByteArray := ⟨(l.map UInt8.ofNat).toArray⟩
theorem nums_str (l : List Nat) (h : ∀ c ∈ l, c < 256) : nums (str l) = l := by
  simp only [nums, str, List.map_map]
  refine (List.map_congr_left (g := id) fun c hc => ?_).trans (by simp)
  have := h c hc
  simp
  omega
theorem str_nums (s : ByteArray) : str (nums s) = s := by
  simp [str, nums, Function.comp_def]
theorem str_size (l : List Nat) : (str l).size = l.length := by simp [str, ByteArray.size]
end Go.Proofs.Ytnanihffljpdbaa.Pk

/- Rows of structs of the call's own, on memory; appends to them. -/
namespace Go.Proofs.Ytnanihffljpdbaa.Mem
set_option linter.unusedVariables false
set_option linter.unusedSimpArgs false
open Go.RowKit Go.Proofs.Ytnanihffljpdbaa.Pk

theorem flatten_get (sz : Nat) : ∀ (rows : List (List Value)) (i j : Nat), (∀ r ∈ rows, r.length = sz) → (hi : i < rows.length) → j < sz → rows.flatten[i * sz + j]? = rows[i][j]?
  | r :: rows, 0, j, hs, _, hj => by
    have hr : r.length = sz := hs r (by simp)
    rw [List.flatten_cons, List.getElem?_append_left (by omega)]
    simp
  | r :: rows, i + 1, j, hs, hi, hj => by
    have hr : r.length = sz := hs r (by simp)
    rw [List.flatten_cons, List.getElem?_append_right (by rw [hr, Nat.succ_mul]; omega), show (i + 1) * sz + j - r.length = i * sz + j by rw [hr, Nat.succ_mul]; omega]
    exact flatten_get sz rows i j (fun x hx => hs x (by simp [hx])) (by simpa using hi) hj
theorem flatten_len (sz : Nat) : ∀ (rows : List (List Value)), (∀ r ∈ rows, r.length = sz) → rows.flatten.length = rows.length * sz
  | [], _ => by simp
  | r :: rows, hs => by
    have hr : r.length = sz := hs r (by simp)
    have := flatten_len sz rows (fun x hx => hs x (by simp [hx]))
    rw [List.flatten_cons, List.length_append, this, hr, List.length_cons, Nat.succ_mul]
    omega
/-- a row of structs of the call's own, read as any other -/
theorem rows_owns {w : World} {base : Nat} {e : TypeId} {sz : Nat} {v : Value} {n : Nat} {rows : List (List Value)} (h : w.ownsRow base e sz v n rows.flatten) (hn : rows.length = n) (hs : ∀ r ∈ rows, r.length = sz) : RowsAt w v sz rows := by
  subst hn
  rcases h.2 with ⟨rfl, h0⟩ | ⟨g, cap, cur, rfl, _⟩
  · exact .inl ⟨rfl, by simpa using h0⟩
  · refine .inr ⟨⟨g, 0, none⟩, cap, rfl, fun i hi j u hu => ?_⟩
    have hj : j < sz := by rw [← hs rows[i] (List.getElem_mem hi)]; exact (List.getElem?_eq_some_iff.1 hu).1
    rw [Deep.add_add]
    exact h.cells (g := g) rfl _ u (by rw [flatten_get sz rows i j hs hi hj]; exact hu)
theorem RowsAt.off {S : List Nat} {w w' : World} {v : Value} {sz : Nat} {rows : List (List Value)} (h : RowsAt w v sz rows) (ho : Off S w w') (hS : ∀ k, v.ownBlock = some k → k ∉ S) : RowsAt w' v sz rows := by
  rcases h with h | ⟨x, c, rfl, hc⟩
  · exact .inl h
  · exact .inr ⟨x, c, rfl, fun i hi => (hc i hi).off ho (by rw [add_block]; exact hS _ rfl)⟩
/-- one row of cells in a new block -/
theorem rows_one {w : World} {g : Nat} {cs : List Value} {t : TypeId} (h : Blk w g cs.toArray t) : ∀ j u, cs[j]? = some u → w.cell? ((⟨g, 0, none⟩ : Addr).add j) = some u := by
  intro j u hu
  have e : (⟨g, 0, none⟩ : Addr).add j = ⟨g, j, none⟩ := by unfold Addr.add; split <;> simp_all
  rw [e]
  exact h.cell j u (by simpa using hu)

/-! Several objects that change side by side: each has its blocks; no two share one. -/
/-- blocks go on as they were, or to new ones -/
def Grow (w : World) (F F' : List Nat) : Prop := ∀ k ∈ F', k ∈ F ∨ w.heap.size ≤ k
structure Sep (w : World) (Fs : List (List Nat)) : Prop where
  pw : Fs.Pairwise fun F G => ∀ k ∈ F, k ∉ G
  lt : ∀ F ∈ Fs, ∀ k ∈ F, k < w.heap.size
theorem Sep.apart {w : World} {Fs : List (List Nat)} (h : Sep w Fs) (i j : Nat) (hij : i ≠ j) {F G : List Nat} (hi : Fs[i]? = some F) (hj : Fs[j]? = some G) : ∀ k ∈ F, k ∉ G := by
  obtain ⟨hi1, rfl⟩ := List.getElem?_eq_some_iff.1 hi
  obtain ⟨hj1, rfl⟩ := List.getElem?_eq_some_iff.1 hj
  have hp := List.pairwise_iff_getElem.1 h.pw
  rcases Nat.lt_or_gt_of_ne hij with h1 | h1
  · exact hp i j hi1 hj1 h1
  · exact fun k hk hk' => hp j i hj1 hi1 h1 k hk' hk
theorem Sep.below {w : World} {Fs : List (List Nat)} (h : Sep w Fs) (i : Nat) {F : List Nat} (hi : Fs[i]? = some F) : ∀ k ∈ F, k < w.heap.size := by
  obtain ⟨hi1, rfl⟩ := List.getElem?_eq_some_iff.1 hi
  exact h.lt _ (List.getElem_mem hi1)
theorem Sep.mono {w w' : World} {Fs : List (List Nat)} (h : Sep w Fs) (hs : w.heap.size ≤ w'.heap.size) : Sep w' Fs := ⟨h.pw, fun F hF k hk => Nat.lt_of_lt_of_le (h.lt F hF k hk) hs⟩
theorem Sep.step {w w' : World} {pre post : List (List Nat)} {F F' : List Nat} (h : Sep w (pre ++ F :: post)) (hg : Grow w F F') (hs : w.heap.size ≤ w'.heap.size) (hl : ∀ k ∈ F', k < w'.heap.size) : Sep w' (pre ++ F' :: post) := by
  obtain ⟨pw, lt⟩ := h
  rw [List.pairwise_append, List.pairwise_cons] at pw
  obtain ⟨p1, ⟨p2, p3⟩, p4⟩ := pw
  refine ⟨?_, ?_⟩
  · rw [List.pairwise_append, List.pairwise_cons]
    refine ⟨p1, ⟨fun G hG k hk hk' => ?_, p3⟩, fun G hG K hK k hk hk' => ?_⟩
    · rcases hg k hk with h1 | h1
      · exact p2 G hG k h1 hk'
      · have := lt G (by simp [hG]) k hk'
        omega
    · rcases List.mem_cons.1 hK with rfl | hK
      · rcases hg k hk' with h1 | h1
        · exact p4 G hG F (by simp) k hk h1
        · have := lt G (by simp [hG]) k hk
          omega
      · exact p4 G hG K (by simp [hK]) k hk hk'
  · intro G hG k hk
    rcases List.mem_append.1 hG with h1 | h1
    · exact Nat.lt_of_lt_of_le (lt G (by simp [h1]) k hk) hs
    · rcases List.mem_cons.1 h1 with rfl | h1
      · exact hl k hk
      · exact Nat.lt_of_lt_of_le (lt G (by simp [h1]) k hk) hs
theorem Sep.nil (w : World) : Sep w [] := ⟨List.Pairwise.nil, by simp⟩
/-- one more, of new blocks -/
theorem Sep.push {w w' : World} {Fs : List (List Nat)} {F : List Nat} (h : Sep w Fs) (hs : w.heap.size ≤ w'.heap.size) (hF : ∀ k ∈ F, w.heap.size ≤ k ∧ k < w'.heap.size) : Sep w' (F :: Fs) := by
  refine ⟨List.pairwise_cons.2 ⟨fun G hG k hk hk' => ?_, h.pw⟩, fun G hG k hk => ?_⟩
  · have := h.lt G hG k hk'
    have := (hF k hk).1
    omega
  · rcases List.mem_cons.1 hG with rfl | hG
    · exact (hF k hk).2
    · exact Nat.lt_of_lt_of_le (h.lt G hG k hk) hs
/-- nothing but old blocks: the ones that a call found -/
theorem Sep.old (w w' : World) (h : w.heap.size ≤ w'.heap.size) : Sep w' [List.range w.heap.size] :=
  ⟨List.pairwise_singleton _ _, by simp; omega⟩
theorem Sep.above {w w' : World} {Fs : List (List Nat)} (h : Sep w' Fs) (i j : Nat) (hij : i ≠ j) {F : List Nat} (hi : Fs[i]? = some F) (hj : Fs[j]? = some (List.range w.heap.size)) : ∀ k ∈ F, w.heap.size ≤ k := by
  intro k hk
  have := h.apart i j hij hi hj k hk
  simp at this
  exact this
def foot (b : Nat) (v : Value) : List Nat := b :: v.ownBlock.toList
theorem Grow.foot {w : World} {b : Nat} {v v' : Value} (h : Goes w v v') : Grow w (foot b v) (foot b v') := by
  intro k hk
  simp only [Mem.foot, List.mem_cons, Option.mem_toList] at hk ⊢
  rcases hk with rfl | hk
  · exact .inl (.inl rfl)
  · rcases h with h | ⟨g, h, hg⟩
    · exact .inl (.inr (by rw [← h]; exact hk))
    · rw [h] at hk
      obtain rfl : g = k := by simpa using hk
      exact .inr hg
theorem Grow.own {w : World} {v v' : Value} (h : Goes w v v') : Grow w v.ownBlock.toList v'.ownBlock.toList := by
  intro k hk
  simp only [Option.mem_toList] at hk ⊢
  rcases h with h | ⟨g, h, hg⟩
  · exact .inl (by rw [← h]; exact hk)
  · rw [h] at hk
    obtain rfl : g = k := by simpa using hk
    exact .inr hg
theorem owns_lt {w : World} {base : Nat} {e : TypeId} {sz : Nat} {v : Value} {n : Nat} {xs : List Value} (h : w.ownsRow base e sz v n xs) : ∀ k ∈ v.ownBlock.toList, k < w.heap.size := by
  intro k hk
  exact (h.lt k (by simpa using hk)).2
theorem owns_off {S : List Nat} {w w' : World} {base : Nat} {e : TypeId} {sz : Nat} {v : Value} {n : Nat} {xs : List Value} (h : w.ownsRow base e sz v n xs) (ho : Off S w w') (hd : ∀ k ∈ v.ownBlock.toList, k ∉ S) : w'.ownsRow base e sz v n xs :=
  ho.owns h (fun k hk => hd k (by simp [hk]))
theorem own_form {w : World} {base : Nat} {e : TypeId} {sz : Nat} {v : Value} {n : Nat} {xs : List Value} (h : w.ownsRow base e sz v n xs) : ∃ a c, v = .slice a n c := by
  rcases h.2 with ⟨rfl, rfl⟩ | ⟨g, cap, cur, rfl, _⟩
  · exact ⟨_, _, rfl⟩
  · exact ⟨_, _, rfl⟩
theorem off_grown {w w' : World} {v : Value} (hg : w.grownBy w' v.ownBlock) : Off v.ownBlock.toList w w' :=
  (Off.refl _ w).grown hg (fun k hk => .inl (by simp [hk]))

section
variable {P : Program} (w : World)
theorem run_append_goes (base : Nat) (t ty e : TypeId) (i : TypeInfo) (z : Value) (size bytes : Nat) (ht : P.underlying t = some (.slice e)) (hi : P.info? e = some i) (hz : i.zero = some z)
    (hsize : i.size = size) (hby : i.bytes = bytes) (hzs : z.cells.size = size) (hsz : 0 < size)
    (v : Value) (n : Nat) (xs : List Value) (hown : w.ownsRow base e size v n xs)
    (a : Addr) (m c : Nat) (news : List Value) (hl : news.length = m * size) (hnews : ∀ j u, news[j]? = some u → w.cell? (a.add j) = some u) (h1 : ∀ u ∈ news, u.oneCell' = true)
    (h63 : n + m ≤ maxLen) (hbytes : (n + m) * bytes ≤ 140737488355328) (hbase : base ≤ w.heap.size) :
    ∃ v' w', (Builtin.append_ #[t, t] ty #[v, .slice (some a) m c]).run P w = .ok v' w' ∧ w'.ownsRow base e size v' (n + m) (xs ++ news) ∧ w.grownBy w' v.ownBlock ∧ Goes w v v' := by
  obtain ⟨v', w', hr, h2, h3, h4⟩ := run_append_own (P := P) w base t ty e i z size bytes ht hi hz hsize hby hzs hsz v n xs hown a m c news hl hnews h1 h63 hbytes hbase
  refine ⟨v', w', hr, h2, h3, ?_⟩
  subst hsize
  subst hby
  have hsmall : n + m ≤ 9223372036854775807 := by simp only [maxLen] at h63; omega
  rcases hown.2 with ⟨rfl, rfl⟩ | ⟨g, cap, cur, rfl, hbg, hg, hnc, hcm, hcs, htake⟩
  · by_cases h0 : m = 0
    · exact .inl (by rw [h4.2 ⟨rfl, h0⟩])
    · have hq := run_append_nil (P := P) w t ty e i z ht hi hz a m c news hl hnews (by omega) (by omega) (by have hb := hbytes; simp only [Nat.zero_add] at hb; omega)
      rw [hr] at hq
      injection hq with hv hw
      exact .inr ⟨w.heap.size, by rw [hv]; rfl, Nat.le_refl _⟩
  · by_cases hroom : n + m ≤ cap
    · have hfit : n * i.size + news.length ≤ cur.size := by rw [hl, hcs, ← Nat.add_mul]; exact Nat.mul_le_mul_right _ hroom
      have hq := run_append_room (P := P) w t ty e i ht hi g n cap cur hg a m c news hl hnews h1 hroom hfit
      rw [hr] at hq
      injection hq with hv hw
      exact .inl (by rw [hv]; rfl)
    · have holds : ∀ j u, xs[j]? = some u → w.cell? ((⟨g, 0, none⟩ : Addr).add j) = some u := hown.cells (g := g) rfl
      have hq := run_append_grow (P := P) w t ty e i z ht hi hz ⟨g, 0, none⟩ n cap xs hown.1 holds a m c news hl hnews (by omega) (by omega) (growslice_fits (by omega) hbytes)
      rw [hr] at hq
      injection hq with hv hw
      exact .inr ⟨w.heap.size, by rw [hv]; rfl, Nat.le_refl _⟩
theorem wpList_append_rows {ops : Array Oper} {rest : List Oper} {o : Oper} {a : Act} {Q : Exit → Act → World → Prop} (hgd : o.guard = none) (s x : Operand) (t : TypeId)
    (ho : o.op = .call { callee := .builtin .append, args := #[s, x], argTypes := #[t, t] })
    (base : Nat) (e : TypeId) (i : TypeInfo) (z : Value) (size bytes : Nat) (ht : P.underlying t = some (.slice e)) (hi : P.info? e = some i) (hz : i.zero = some z)
    (hsize : i.size = size) (hby : i.bytes = bytes) (hzs : z.cells.size = size) (hsz : 0 < size)
    (v : Value) (n : Nat) (xs : List Value) (hs : a.eval s = v) (hown : w.ownsRow base e size v n xs)
    (vs : Value) (rows : List (List Value)) (hx : a.eval x = vs) (hr : RowsAt w vs size rows) (hlen : ∀ r ∈ rows, r.length = size) (h1 : ∀ r ∈ rows, ∀ u ∈ r, u.oneCell' = true)
    (h63 : n + rows.length ≤ maxLen) (hbytes : (n + rows.length) * bytes ≤ 140737488355328) (hbase : base ≤ w.heap.size)
    (h : ∀ v' w', w'.ownsRow base e size v' (n + rows.length) (xs ++ rows.flatten) → w.grownBy w' v.ownBlock → Goes w v v' → wpList P ops Q rest (a.put o.dst v') w') : wpList P ops Q (o :: rest) a w := by
  rcases hr with ⟨rfl, rfl⟩ | ⟨ad, c, rfl, hc⟩
  · refine wpList_append_own_none hgd s x t ho base e i size ht hi v n xs hs hown hx ?_
    exact h v w (by simpa using hown) ⟨rfl, rfl, rfl, Nat.le_refl _, fun _ _ _ => rfl⟩ (Goes.refl _ _)
  · refine wpList_plain hgd fun K hK => ?_
    obtain ⟨v', w', hrun, h2, h3, h4⟩ := run_append_goes (P := P) w base t o.type e i z size bytes ht hi hz hsize hby hzs hsz v n xs hown ad rows.length c rows.flatten (flatten_len size rows hlen) (fun j u hu => by
      have hjl : j < rows.flatten.length := (List.getElem?_eq_some_iff.1 hu).1
      rw [flatten_len size rows hlen] at hjl
      have hdiv : j / size < rows.length := (Nat.div_lt_iff_lt_mul hsz).2 hjl
      have hmod : j % size < size := Nat.mod_lt _ hsz
      have hj : j / size * size + j % size = j := by rw [Nat.mul_comm]; exact Nat.div_add_mod _ _
      rw [← hj, flatten_get size rows _ _ hlen hdiv hmod] at hu
      have := hc (j / size) hdiv (j % size) u hu
      rw [Deep.add_add, hj] at this
      exact this) (fun u hu => by
      obtain ⟨r, hr, hu'⟩ := List.mem_flatten.1 hu
      exact h1 r hr u hu') h63 hbytes hbase
    unfold Oper.wp execOp
    simp only [ho, resolve, invoke, builtin, Sem.run_bind, Sem.run_pure, Result.andThen_ok, List.map_toArray, List.map_cons, List.map_nil, hs, hx, hrun]
    exact hK _ _ (h v' w' h2 h3 h4)
end
end Go.Proofs.Ytnanihffljpdbaa.Mem

/- Appends to rows of the call's own, as a step of a region that draws. -/
namespace Go.Proofs.Ytnanihffljpdbaa.Mem
set_option linter.unusedVariables false
set_option linter.unusedSimpArgs false
open Go.RowKit Go.Proofs.Ytnanihffljpdbaa.Pk

theorem step_append_rows {P : Program} {ops : Array Oper} {o : Oper} {a : Act} {w : World} {K : Act → World → Prop} {Q : Exit → Act → World → Prop} {E : Prop}
    (hgd : o.guard = none) (s x : Operand) (t : TypeId) (ho : o.op = .call { callee := .builtin .append, args := #[s, x], argTypes := #[t, t] })
    (base : Nat) (e : TypeId) (i : TypeInfo) (z : Value) (size bytes : Nat) (ht : P.underlying t = some (.slice e)) (hi : P.info? e = some i) (hz : i.zero = some z)
    (hsize : i.size = size) (hby : i.bytes = bytes) (hzs : z.cells.size = size) (hsz : 0 < size)
    (v : Value) (n : Nat) (xs : List Value) (hs : a.eval s = v) (hown : w.ownsRow base e size v n xs)
    (vs : Value) (rows : List (List Value)) (hx : a.eval x = vs) (hr : RowsAt w vs size rows) (hlen : ∀ r ∈ rows, r.length = size) (h1 : ∀ r ∈ rows, ∀ u ∈ r, u.oneCell' = true) (hne : rows ≠ [])
    (h63 : n + rows.length ≤ maxLen) (hbytes : (n + rows.length) * bytes ≤ 140737488355328) (hbase : base ≤ w.heap.size)
    (hK : ∀ v' w', w'.ownsRow base e size v' (n + rows.length) (xs ++ rows.flatten) → w.grownBy w' v.ownBlock → Goes w v v' → K (a.put o.dst v') w') :
    if Region.wanted o (yielded ops a.tmps) = true then Oper.wp P o a w K Q else E := by
  have hw : Region.wanted o (yielded ops a.tmps) = true := by simp [Region.wanted, hgd]
  rw [if_pos hw]
  rcases hr with ⟨_, h0⟩ | ⟨ad, c, rfl, hc⟩
  · exact absurd h0 hne
  · obtain ⟨v', w', hrun, h2, h3, h4⟩ := run_append_goes (P := P) w base t o.type e i z size bytes ht hi hz hsize hby hzs hsz v n xs hown ad rows.length c rows.flatten (flatten_len size rows hlen) (fun j u hu => by
      have hjl : j < rows.flatten.length := (List.getElem?_eq_some_iff.1 hu).1
      rw [flatten_len size rows hlen] at hjl
      have hdiv : j / size < rows.length := (Nat.div_lt_iff_lt_mul hsz).2 hjl
      have hmod : j % size < size := Nat.mod_lt _ hsz
      have hj : j / size * size + j % size = j := by rw [Nat.mul_comm]; exact Nat.div_add_mod _ _
      rw [← hj, flatten_get size rows _ _ hlen hdiv hmod] at hu
      have := hc (j / size) hdiv (j % size) u hu
      rw [Deep.add_add, hj] at this
      exact this) (fun u hu => by
      obtain ⟨r, hr, hu'⟩ := List.mem_flatten.1 hu
      exact h1 r hr u hu') h63 hbytes hbase
    unfold Oper.wp
    simp [execOp, ho, resolve, invoke, builtin, hs, hx, hrun, Result.andThen]
    exact hK v' w' h2 h3 h4
/-- one value in a new block -/
theorem rows_new1 {w : World} {v : Value} {t : TypeId} {n sz : Nat} (hn : n = w.heap.size) : RowsAt (w.alloc (.cells #[v] t)) (.slice (some ⟨n, 0, none⟩) 1 1) sz [[v]] := by
  refine .inr ⟨⟨n, 0, none⟩, 1, rfl, fun i hi j u hu => ?_⟩
  obtain rfl : i = 0 := by simpa using hi
  have := rows_one (cs := [v]) (blk_new' w #[v] t n hn) j u hu
  simpa [Addr.add] using this
/-- an empty row made by the call -/
theorem own_made (w : World) (n : Nat) (hn : n = w.heap.size) (e : TypeId) (sz : Nat) : (w.alloc (.cells #[] e)).ownsRow 0 e sz (.slice (some ⟨n, 0, none⟩) 0 0) 0 [] := by
  subst hn
  exact World.ownsRow_made w #[] 0 (Nat.zero_le _) (Nat.zero_le _) (by simp)
end Go.Proofs.Ytnanihffljpdbaa.Mem
