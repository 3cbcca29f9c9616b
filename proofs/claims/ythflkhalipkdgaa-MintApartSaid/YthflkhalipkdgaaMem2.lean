/- Rows of structs of the call's own, on memory; appends to them. -/
import Derived.Test.YthflkhalipkdgaaProg
import Derived.Below
import Derived.WalkKit
import Derived.KernelRfl
import Derived.RowKit3
import Derived.Deep.LoopGhost
import Derived.Deep.QuietTactic
import Derived.BigQuiet
import Derived.WideLaws
import Derived.Deep.DeepCutAuto
import Derived.Deep.CutBlock
import Derived.Lib.Hide
import Derived.Laws.BitsLemmas
import Derived.Laws.Bits64
import Derived.Laws.BitsAllLaws
import Derived.IntWalk
import Derived.Outline
import Derived.WalkSpells
import Derived.Test.YthflkhalipkdgaaMem
import Derived.OwnWalk
import Derived.Deep.AppendLies
import Derived.Laws.AppendOwnNone
import Derived.Deep.Slices
import Derived.Test.YthflkhalipkdgaaPk3
namespace Go.Proofs.Ythflkhalipkdgaa.Mem
set_option maxRecDepth 20000
set_option linter.unusedVariables false
set_option linter.unusedSimpArgs false
open Go.RowKit Go.Proofs.Ythflkhalipkdgaa.Pk

theorem flatten_get (sz : Nat) : ∀ (rows : List (List Value)) (i j : Nat), (∀ r ∈ rows, r.length = sz) → (hi : i < rows.length) → j < sz → rows.flatten[i * sz + j]? = rows[i][j]?
  | r :: rows, 0, j, hs, _, hj => by
    have hr : r.length = sz := hs r (by simp)
    rw [List.flatten_cons, List.getElem?_append_left (by omega)]
    simp
  | r :: rows, i + 1, j, hs, hi, hj => by
    have hr : r.length = sz := hs r (by simp)
    rw [List.flatten_cons, List.getElem?_append_right (by rw [hr, Nat.succ_mul]; omega), show (i + 1) * sz + j - r.length = i * sz + j by rw [hr, Nat.succ_mul]; omega]
    exact flatten_get sz rows i j (fun x hx => hs x (by simp [hx])) (by simpa using hi) hj
theorem flatten_len (sz : Nat) : ∀ (rows : List (List Value)), (∀ r ∈ rows, r.length = sz) → rows.flatten.length = rows.length * sz
  | [], _ => by simp
  | r :: rows, hs => by
    have hr : r.length = sz := hs r (by simp)
    have := flatten_len sz rows (fun x hx => hs x (by simp [hx]))
    rw [List.flatten_cons, List.length_append, this, hr, List.length_cons, Nat.succ_mul]
    omega
/-- a row of structs of the call's own, read as any other -/
theorem rows_owns {w : World} {base : Nat} {e : TypeId} {sz : Nat} {v : Value} {n : Nat} {rows : List (List Value)} (h : w.ownsRow base e sz v n rows.flatten) (hn : rows.length = n) (hs : ∀ r ∈ rows, r.length = sz) : RowsAt w v sz rows := by
  subst hn
  rcases h.2 with ⟨rfl, h0⟩ | ⟨g, cap, cur, rfl, _⟩
  · exact .inl ⟨rfl, by simpa using h0⟩
  · refine .inr ⟨⟨g, 0, none⟩, cap, rfl, fun i hi j u hu => ?_⟩
    have hj : j < sz := by rw [← hs rows[i] (List.getElem_mem hi)]; exact (List.getElem?_eq_some_iff.1 hu).1
    rw [Deep.add_add]
    exact h.cells (g := g) rfl _ u (by rw [flatten_get sz rows i j hs hi hj]; exact hu)
theorem RowsAt.off {S : List Nat} {w w' : World} {v : Value} {sz : Nat} {rows : List (List Value)} (h : RowsAt w v sz rows) (ho : Off S w w') (hS : ∀ k, v.ownBlock = some k → k ∉ S) : RowsAt w' v sz rows := by
  rcases h with h | ⟨x, c, rfl, hc⟩
  · exact .inl h
  · exact .inr ⟨x, c, rfl, fun i hi => (hc i hi).off ho (by rw [add_block]; exact hS _ rfl)⟩
/-- one row of cells in a new block -/
theorem rows_one {w : World} {g : Nat} {cs : List Value} {t : TypeId} (h : Blk w g cs.toArray t) : ∀ j u, cs[j]? = some u → w.cell? ((⟨g, 0, none⟩ : Addr).add j) = some u := by
  intro j u hu
  have e : (⟨g, 0, none⟩ : Addr).add j = ⟨g, j, none⟩ := by unfold Addr.add; split <;> simp_all
  rw [e]
  exact h.cell j u (by simpa using hu)

/-! Several objects that change side by side: each has its blocks; no two share one. -/
/-- blocks go on as they were, or to new ones -/
def Grow (w : World) (F F' : List Nat) : Prop := ∀ k ∈ F', k ∈ F ∨ w.heap.size ≤ k
structure Sep (w : World) (Fs : List (List Nat)) : Prop where
  pw : Fs.Pairwise fun F G => ∀ k ∈ F, k ∉ G
  lt : ∀ F ∈ Fs, ∀ k ∈ F, k < w.heap.size
theorem Sep.apart {w : World} {Fs : List (List Nat)} (h : Sep w Fs) (i j : Nat) (hij : i ≠ j) {F G : List Nat} (hi : Fs[i]? = some F) (hj : Fs[j]? = some G) : ∀ k ∈ F, k ∉ G := by
  obtain ⟨hi1, rfl⟩ := List.getElem?_eq_some_iff.1 hi
  obtain ⟨hj1, rfl⟩ := List.getElem?_eq_some_iff.1 hj
  have hp := List.pairwise_iff_getElem.1 h.pw
  rcases Nat.lt_or_gt_of_ne hij with h1 | h1
  · exact hp i j hi1 hj1 h1
  · exact fun k hk hk' => hp j i hj1 hi1 h1 k hk' hk
theorem Sep.below {w : World} {Fs : List (List Nat)} (h : Sep w Fs) (i : Nat) {F : List Nat} (hi : Fs[i]? = some F) : ∀ k ∈ F, k < w.heap.size := by
  obtain ⟨hi1, rfl⟩ := List.getElem?_eq_some_iff.1 hi
  exact h.lt _ (List.getElem_mem hi1)
theorem Sep.mono {w w' : World} {Fs : List (List Nat)} (h : Sep w Fs) (hs : w.heap.size ≤ w'.heap.size) : Sep w' Fs := ⟨h.pw, fun F hF k hk => Nat.lt_of_lt_of_le (h.lt F hF k hk) hs⟩
theorem Sep.step {w w' : World} {pre post : List (List Nat)} {F F' : List Nat} (h : Sep w (pre ++ F :: post)) (hg : Grow w F F') (hs : w.heap.size ≤ w'.heap.size) (hl : ∀ k ∈ F', k < w'.heap.size) : Sep w' (pre ++ F' :: post) := by
  obtain ⟨pw, lt⟩ := h
  rw [List.pairwise_append, List.pairwise_cons] at pw
  obtain ⟨p1, ⟨p2, p3⟩, p4⟩ := pw
  refine ⟨?_, ?_⟩
  · rw [List.pairwise_append, List.pairwise_cons]
    refine ⟨p1, ⟨fun G hG k hk hk' => ?_, p3⟩, fun G hG K hK k hk hk' => ?_⟩
    · rcases hg k hk with h1 | h1
      · exact p2 G hG k h1 hk'
      · have := lt G (by simp [hG]) k hk'
        omega
    · rcases List.mem_cons.1 hK with rfl | hK
      · rcases hg k hk' with h1 | h1
        · exact p4 G hG F (by simp) k hk h1
        · have := lt G (by simp [hG]) k hk
          omega
      · exact p4 G hG K (by simp [hK]) k hk hk'
  · intro G hG k hk
    rcases List.mem_append.1 hG with h1 | h1
    · exact Nat.lt_of_lt_of_le (lt G (by simp [h1]) k hk) hs
    · rcases List.mem_cons.1 h1 with rfl | h1
      · exact hl k hk
      · exact Nat.lt_of_lt_of_le (lt G (by simp [h1]) k hk) hs
theorem Sep.nil (w : World) : Sep w [] := ⟨List.Pairwise.nil, by simp⟩
/-- one more, of new blocks -/
theorem Sep.push {w w' : World} {Fs : List (List Nat)} {F : List Nat} (h : Sep w Fs) (hs : w.heap.size ≤ w'.heap.size) (hF : ∀ k ∈ F, w.heap.size ≤ k ∧ k < w'.heap.size) : Sep w' (F :: Fs) := by
  refine ⟨List.pairwise_cons.2 ⟨fun G hG k hk hk' => ?_, h.pw⟩, fun G hG k hk => ?_⟩
  · have := h.lt G hG k hk'
    have := (hF k hk).1
    omega
  · rcases List.mem_cons.1 hG with rfl | hG
    · exact (hF k hk).2
    · exact Nat.lt_of_lt_of_le (h.lt G hG k hk) hs
/-- nothing but old blocks: the ones that a call found -/
theorem Sep.old (w w' : World) (h : w.heap.size ≤ w'.heap.size) : Sep w' [List.range w.heap.size] :=
  ⟨List.pairwise_singleton _ _, by simp; omega⟩
theorem Sep.above {w w' : World} {Fs : List (List Nat)} (h : Sep w' Fs) (i j : Nat) (hij : i ≠ j) {F : List Nat} (hi : Fs[i]? = some F) (hj : Fs[j]? = some (List.range w.heap.size)) : ∀ k ∈ F, w.heap.size ≤ k := by
  intro k hk
  have := h.apart i j hij hi hj k hk
  simp at this
  exact this
def foot (b : Nat) (v : Value) : List Nat := b :: v.ownBlock.toList
theorem Grow.foot {w : World} {b : Nat} {v v' : Value} (h : Goes w v v') : Grow w (foot b v) (foot b v') := by
  intro k hk
  simp only [Mem.foot, List.mem_cons, Option.mem_toList] at hk ⊢
  rcases hk with rfl | hk
  · exact .inl (.inl rfl)
  · rcases h with h | ⟨g, h, hg⟩
    · exact .inl (.inr (by rw [← h]; exact hk))
    · rw [h] at hk
      obtain rfl : g = k := by simpa using hk
      exact .inr hg
theorem Grow.own {w : World} {v v' : Value} (h : Goes w v v') : Grow w v.ownBlock.toList v'.ownBlock.toList := by
  intro k hk
  simp only [Option.mem_toList] at hk ⊢
  rcases h with h | ⟨g, h, hg⟩
  · exact .inl (by rw [← h]; exact hk)
  · rw [h] at hk
    obtain rfl : g = k := by simpa using hk
    exact .inr hg
theorem out_off {S : List Nat} {w w' : World} {b : Nat} {v : Value} {l : List Nat} (h : OutAt w b v l) (ho : Off S w w') (hd : ∀ k ∈ foot b v, k ∉ S) : OutAt w' b v l :=
  h.off ho (hd b (by simp [foot])) (fun k hk => hd k (by simp [foot, hk]))
theorem out_lt {w : World} {b : Nat} {v : Value} {l : List Nat} (h : OutAt w b v l) : ∀ k ∈ foot b v, k < w.heap.size := by
  intro k hk
  simp only [foot, List.mem_cons, Option.mem_toList] at hk
  rcases hk with rfl | hk
  · exact h.blk.lt
  · exact h.lt k hk
theorem owns_lt {w : World} {base : Nat} {e : TypeId} {sz : Nat} {v : Value} {n : Nat} {xs : List Value} (h : w.ownsRow base e sz v n xs) : ∀ k ∈ v.ownBlock.toList, k < w.heap.size := by
  intro k hk
  exact (h.lt k (by simpa using hk)).2
theorem owns_off {S : List Nat} {w w' : World} {base : Nat} {e : TypeId} {sz : Nat} {v : Value} {n : Nat} {xs : List Value} (h : w.ownsRow base e sz v n xs) (ho : Off S w w') (hd : ∀ k ∈ v.ownBlock.toList, k ∉ S) : w'.ownsRow base e sz v n xs :=
  ho.owns h (fun k hk => hd k (by simp [hk]))
theorem own_form {w : World} {base : Nat} {e : TypeId} {sz : Nat} {v : Value} {n : Nat} {xs : List Value} (h : w.ownsRow base e sz v n xs) : ∃ a c, v = .slice a n c := by
  rcases h.2 with ⟨rfl, rfl⟩ | ⟨g, cap, cur, rfl, _⟩
  · exact ⟨_, _, rfl⟩
  · exact ⟨_, _, rfl⟩
theorem off_grown {w w' : World} {v : Value} (hg : w.grownBy w' v.ownBlock) : Off v.ownBlock.toList w w' :=
  (Off.refl _ w).grown hg (fun k hk => .inl (by simp [hk]))

section
variable {P : Program} (w : World)
theorem run_append_goes (base : Nat) (t ty e : TypeId) (i : TypeInfo) (z : Value) (size bytes : Nat) (ht : P.underlying t = some (.slice e)) (hi : P.info? e = some i) (hz : i.zero = some z)
    (hsize : i.size = size) (hby : i.bytes = bytes) (hzs : z.cells.size = size) (hsz : 0 < size)
    (v : Value) (n : Nat) (xs : List Value) (hown : w.ownsRow base e size v n xs)
    (a : Addr) (m c : Nat) (news : List Value) (hl : news.length = m * size) (hnews : ∀ j u, news[j]? = some u → w.cell? (a.add j) = some u) (h1 : ∀ u ∈ news, u.oneCell' = true)
    (h63 : n + m ≤ maxLen) (hbytes : (n + m) * bytes ≤ 140737488355328) (hbase : base ≤ w.heap.size) :
    ∃ v' w', (Builtin.append_ #[t, t] ty #[v, .slice (some a) m c]).run P w = .ok v' w' ∧ w'.ownsRow base e size v' (n + m) (xs ++ news) ∧ w.grownBy w' v.ownBlock ∧ Goes w v v' := by
  obtain ⟨v', w', hr, h2, h3, h4⟩ := run_append_own (P := P) w base t ty e i z size bytes ht hi hz hsize hby hzs hsz v n xs hown a m c news hl hnews h1 h63 hbytes hbase
  refine ⟨v', w', hr, h2, h3, ?_⟩
  subst hsize
  subst hby
  have hsmall : n + m ≤ 9223372036854775807 := by simp only [maxLen] at h63; omega
  rcases hown.2 with ⟨rfl, rfl⟩ | ⟨g, cap, cur, rfl, hbg, hg, hnc, hcm, hcs, htake⟩
  · by_cases h0 : m = 0
    · exact .inl (by rw [h4.2 ⟨rfl, h0⟩])
    · have hq := run_append_nil (P := P) w t ty e i z ht hi hz a m c news hl hnews (by omega) (by omega) (by have hb := hbytes; simp only [Nat.zero_add] at hb; omega)
      rw [hr] at hq
      injection hq with hv hw
      exact .inr ⟨w.heap.size, by rw [hv]; rfl, Nat.le_refl _⟩
  · by_cases hroom : n + m ≤ cap
    · have hfit : n * i.size + news.length ≤ cur.size := by rw [hl, hcs, ← Nat.add_mul]; exact Nat.mul_le_mul_right _ hroom
      have hq := run_append_room (P := P) w t ty e i ht hi g n cap cur hg a m c news hl hnews h1 hroom hfit
      rw [hr] at hq
      injection hq with hv hw
      exact .inl (by rw [hv]; rfl)
    · have holds : ∀ j u, xs[j]? = some u → w.cell? ((⟨g, 0, none⟩ : Addr).add j) = some u := hown.cells (g := g) rfl
      have hq := run_append_grow (P := P) w t ty e i z ht hi hz ⟨g, 0, none⟩ n cap xs hown.1 holds a m c news hl hnews (by omega) (by omega) (growslice_fits (by omega) hbytes)
      rw [hr] at hq
      injection hq with hv hw
      exact .inr ⟨w.heap.size, by rw [hv]; rfl, Nat.le_refl _⟩
theorem wpList_append_rows {ops : Array Oper} {rest : List Oper} {o : Oper} {a : Act} {Q : Exit → Act → World → Prop} (hgd : o.guard = none) (s x : Operand) (t : TypeId)
    (ho : o.op = .call { callee := .builtin .append, args := #[s, x], argTypes := #[t, t] })
    (base : Nat) (e : TypeId) (i : TypeInfo) (z : Value) (size bytes : Nat) (ht : P.underlying t = some (.slice e)) (hi : P.info? e = some i) (hz : i.zero = some z)
    (hsize : i.size = size) (hby : i.bytes = bytes) (hzs : z.cells.size = size) (hsz : 0 < size)
    (v : Value) (n : Nat) (xs : List Value) (hs : a.eval s = v) (hown : w.ownsRow base e size v n xs)
    (vs : Value) (rows : List (List Value)) (hx : a.eval x = vs) (hr : RowsAt w vs size rows) (hlen : ∀ r ∈ rows, r.length = size) (h1 : ∀ r ∈ rows, ∀ u ∈ r, u.oneCell' = true)
    (h63 : n + rows.length ≤ maxLen) (hbytes : (n + rows.length) * bytes ≤ 140737488355328) (hbase : base ≤ w.heap.size)
    (h : ∀ v' w', w'.ownsRow base e size v' (n + rows.length) (xs ++ rows.flatten) → w.grownBy w' v.ownBlock → Goes w v v' → wpList P ops Q rest (a.put o.dst v') w') : wpList P ops Q (o :: rest) a w := by
  rcases hr with ⟨rfl, rfl⟩ | ⟨ad, c, rfl, hc⟩
  · refine wpList_append_own_none hgd s x t ho base e i size ht hi v n xs hs hown hx ?_
    exact h v w (by simpa using hown) ⟨rfl, rfl, rfl, Nat.le_refl _, fun _ _ _ => rfl⟩ (Goes.refl _ _)
  · refine wpList_plain hgd fun K hK => ?_
    obtain ⟨v', w', hrun, h2, h3, h4⟩ := run_append_goes (P := P) w base t o.type e i z size bytes ht hi hz hsize hby hzs hsz v n xs hown ad rows.length c rows.flatten (flatten_len size rows hlen) (fun j u hu => by
      have hjl : j < rows.flatten.length := (List.getElem?_eq_some_iff.1 hu).1
      rw [flatten_len size rows hlen] at hjl
      have hdiv : j / size < rows.length := (Nat.div_lt_iff_lt_mul hsz).2 hjl
      have hmod : j % size < size := Nat.mod_lt _ hsz
      have hj : j / size * size + j % size = j := by rw [Nat.mul_comm]; exact Nat.div_add_mod _ _
      rw [← hj, flatten_get size rows _ _ hlen hdiv hmod] at hu
      have := hc (j / size) hdiv (j % size) u hu
      rw [Deep.add_add, hj] at this
      exact this) (fun u hu => by
      obtain ⟨r, hr, hu'⟩ := List.mem_flatten.1 hu
      exact h1 r hr u hu') h63 hbytes hbase
    unfold Oper.wp execOp
    simp only [ho, resolve, invoke, builtin, Sem.run_bind, Sem.run_pure, Result.andThen_ok, List.map_toArray, List.map_cons, List.map_nil, hs, hx, hrun]
    exact hK _ _ (h v' w' h2 h3 h4)
end
end Go.Proofs.Ythflkhalipkdgaa.Mem
