/- Contracts of layer 4: the document's joint. -/
import Derived.Test.YtfjkcegdodpgdaaProg
import Derived.Below
import Derived.WalkKit
import Derived.KernelRfl
import Derived.RowKit3
import Derived.Deep.LoopGhost
import Derived.Deep.QuietTactic
import Derived.BigQuiet
import Derived.WideLaws
import Derived.Deep.DeepCutAuto
import Derived.Deep.CutBlock
import Derived.Lib.Hide
import Derived.Laws.BitsLemmas
import Derived.Laws.Bits64
import Derived.Laws.BitsAllLaws
import Derived.IntWalk
import Derived.Outline
import Derived.WalkSpells
import Derived.Test.YtfjkcegdodpgdaaMem
import Derived.Test.YtfjkcegdodpgdaaJoM
namespace Go.Proofs.Ytfjkcegdodpgdaa.Jo
open Go.RowKit Go.Proofs.Ytfjkcegdodpgdaa.Mem Go.Proofs.Ytfjkcegdodpgdaa.Pk Go.Proofs.Ytfjkcegdodpgdaa.Fr

/-- what a joint is behind these bytes -/
def stOf (A : ByteArray) : JSt := (feedV zero A).1
theorem stOf_eq (A : ByteArray) : stOf A = if (cutV A).2.2 = 3 then ⟨⟨#[]⟩, true, (cutV A).1.length⟩ else ⟨(cutV A).2.1, false, (cutV A).1.length⟩ := by
  unfold stOf feedV
  rw [show zero.left ++ A = A from nil_append A, if_neg (show ¬ (zero.bad = true) by decide)]
  split
  · show (⟨⟨#[]⟩, true, 0 + _⟩ : JSt) = _
    rw [Nat.zero_add]
  · show (⟨(cutV A).2.1, false, 0 + _⟩ : JSt) = _
    rw [Nat.zero_add]
theorem fed_eq (A : ByteArray) : (feedV zero A).2.1 = (cutV A).1 := by
  unfold feedV
  rw [show zero.left ++ A = A from nil_append A, if_neg (show ¬ (zero.bad = true) by decide)]
  split <;> rfl
theorem feed_all (A c : ByteArray) (h : (stOf A).bad = false) : (feedV (stOf A) c).1 = stOf (A ++ c) ∧ (feedV (stOf A) c).2.2 = !(stOf (A ++ c)).bad ∧ (cutV (A ++ c)).1 = (cutV A).1 ++ (feedV (stOf A) c).2.1 := by
  have h1 := feed_add zero A c
  rw [fed_eq, fed_eq] at h1
  have h2 := feed_ok (stOf A) c
  refine ⟨h1.1.symm, ?_, h1.2⟩
  rw [h2]
  congr 2
  exact h1.1.symm
theorem stOf_seen (A : ByteArray) : (stOf A).seen = (cutV A).1.length := by
  rw [stOf_eq]
  split <;> rfl
theorem next_two (s : ByteArray) (h : (nextV s).2.2 = 2) : s.size ≤ 2053 := by
  unfold nextV at h
  split at h
  · omega
  · split at h
    · cases h
    · split at h
      · omega
      · split at h
        · cases h
        · cases h
theorem cut_two : ∀ (k : Nat) (s : ByteArray), s.size ≤ k → (cutV s).2.2 ≠ 3 → (cutV s).2.1.size ≤ 2053
  | k, s, hk, h3 => by
    rcases next_state s with h | h | h
    · have hw := next_whole s h
      have hz : (s.extract (nextV s).2.1 s.size).size = s.size - (nextV s).2.1 := by rw [ByteArray.size_extract]; omega
      rw [cutV_yes s h] at h3 ⊢
      match k, hk with
      | 0, hk => omega
      | k + 1, hk =>
        have ih := cut_two k (s.extract (nextV s).2.1 s.size) (by omega)
        generalize cutV (s.extract (nextV s).2.1 s.size) = q at *
        obtain ⟨q1, q2, q3⟩ := q
        exact ih h3
    · rw [cutV_no s (by rw [h]; decide)]
      exact next_two s h
    · rw [cutV_no s (by rw [h]; decide)] at h3
      exact absurd h h3
theorem stOf_left (A : ByteArray) : (stOf A).left.size ≤ 2053 := by
  rw [stOf_eq]
  split
  · exact Nat.zero_le _
  · rename_i h
    exact cut_two _ A (Nat.le_refl _) h
theorem cut_len (A : ByteArray) : (cutV A).1.length ≤ A.size := cutN_len _ _
/-- the document's joint: all bytes, how many frames were told -/
def RAt (w : World) (b : Nat) (A : ByteArray) (n : Nat) : Prop := Blk w b #[.string A, .int .i64 ((n : Nat) : Int)] 49
theorem made_base (w : World) (n : Nat) (hn : n = w.heap.size) (e : TypeId) (sz : Nat) : (w.alloc (.cells #[] e)).ownsRow w.heap.size e sz (.slice (some ⟨n, 0, none⟩) 0 0) 0 [] := by
  subst hn
  exact World.ownsRow_made w #[] 0 (Nat.le_refl _) (Nat.zero_le _) (by simp)
set_option maxHeartbeats 1600000 in
theorem rState (b : Nat) (A : ByteArray) (n : Nat) (w : World) (h : RAt w b A n) (hA : A.size ≤ 1000000) :
    Calls Try.prog 26 #[.pointer (some ⟨b, 0, none⟩)] w fun e w' => ∃ v, e = .returned (.tuple #[v, .int .i64 (((stOf A).left.size : Nat) : Int), .bool (stOf A).bad]) ∧ Off [] w w' ∧ w'.ownsRow w.heap.size 9 1 v (cutV A).1.length ((cutV A).1.map .string) := by
  obtain ⟨i0, hi, hh⟩ := Option.map_eq_some_iff.1 info_string
  simp only [Prod.mk.injEq] at hh
  have c0 := Blk.cell h 0 (.string A) rfl
  have hst := Lib.hid (stOf_eq A)
  have hown0 := Lib.hid (made_base w w.heap.size rfl 9 1)
  clear h
  go_enter Try.func26, Try.ntmps26
  go_wp2
  have hof0 : Off [] w (w.alloc (.cells #[] 9)) := (Off.refl _ _).alloc _
  generalize w.alloc (.cells #[] 9) = wa at *
  go_loopw [5, 6] (fun vs vl wr => ∃ (r : ByteArray) (l : List ByteArray), vs = .string r ∧ r.size + l.length ≤ A.size ∧ Hid (cutV A = (l ++ (cutV r).1, (cutV r).2)) ∧ wr.ownsRow w.heap.size 9 1 vl l.length (l.map .string) ∧ Off [] w wr) (fun vs _ _ => strSz vs)
  case atStart => exact ⟨A, [], rfl, by simp, Lib.hid rfl, hown0.out, hof0⟩
  case round =>
    obtain ⟨r, l, rfl, hz, hc, hown, hof⟩ := hrel
    have hk := Lib.hid (refNext r (by omega) wr)
    obtain ⟨va, vc, rfl⟩ := own_form hown
    rcases next_state r with h1 | h1 | h1
    · have hw := next_whole r h1
      have hcy := Lib.hid (cutV_yes r h1)
      rw [h1] at hk
      obtain ⟨⟨bb, n', t⟩, hq⟩ : ∃ q, nextV r = q := ⟨_, rfl⟩
      rw [hq] at hk hw hcy
      clear h1 hq
      obtain ⟨w1, w2, w3⟩ := hw
      have d1 : (n' : Int) ≤ (r.size : Int) := by have : n' ≤ r.size := w2; omega
      dsimp only at hk hcy w1 w2 w3
      have hz2 : (r.extract n' r.size).size = r.size - n' := by rw [ByteArray.size_extract]; omega
      go_wp2_with (first
        | (go_at_call 15; refine hk.out.mono ?_; rintro e w4 ⟨rfl, hf4⟩; have hown4 := owns_off hown hf4 (by simp); have hof4 := hof.trans hf4 (by simp))
        | (at_builtin; go_loud (refine wpList_append_rows _ rfl (.tmp 29) (.tmp 31) 39 rfl w.heap.size 9 i0 _ 1 16 Try.underlying39 hi hh.1 hh.2.1 hh.2.2 rfl (by decide) (.slice va l.length vc) _ _ rfl (hown4.alloc _) (.slice (some ⟨w4.heap.size, 0, none⟩) 1 1) [[.string bb]] rfl (rows_new1 rfl) (by simp) (by simp; rfl) (by unfold maxLen; simp; omega) (by simp; omega) (by have := hof4.size; simp; omega) ?_; intro v5 w5 hown5 hgr5 hgo5; have hown6 := hown5; rw [show ∀ z : Value, [[z]].flatten = [z] from fun _ => rfl, show ∀ z : Value, [[z]].length = 1 from fun _ => rfl] at hown6; obtain ⟨va5, vc5, rfl⟩ := own_form hown6)))
      go_roundw
      case rel => exact ⟨r.extract n' r.size, l ++ [bb], rfl, by rw [hz2, List.length_append]; simp; omega, Lib.hid (by rw [hc.out, hcy.out, List.append_assoc]; rfl), by simpa using hown6, (hof4.alloc _).grown hgr5 (fun k hk => .inr (hown.lt k hk).1)⟩
      case measure =>
        show (r.extract n' r.size).size < r.size
        omega
    · have hc' := hc.out
      rw [cutV_no r (by rw [h1]; decide), List.append_nil] at hc'
      have hs := hst.out
      rw [hc', h1, if_neg (fun h => by cases h)] at hs
      rw [h1] at hk
      have HS := Lib.hid hs
      have HC := Lib.hid hc'
      clear hs hc' hst
      generalize nextV r = q at *
      go_wp2_with (go_at_call 15; refine hk.out.mono ?_; rintro e w4 ⟨rfl, hf4⟩)
      go_ret3
      rw [HS.out, HC.out]
      refine ⟨_, rfl, hof.trans hf4 (by simp), ?_⟩
      exact owns_off hown hf4 (by simp)
    · have hc' := hc.out
      rw [cutV_no r (by rw [h1]; decide), List.append_nil] at hc'
      have hs := hst.out
      rw [hc', h1, if_pos rfl] at hs
      rw [h1] at hk
      have HS := Lib.hid hs
      have HC := Lib.hid hc'
      clear hs hc' hst
      generalize nextV r = q at *
      go_wp2_with (go_at_call 15; refine hk.out.mono ?_; rintro e w4 ⟨rfl, hf4⟩)
      go_ret3
      rw [HS.out, HC.out]
      refine ⟨_, rfl, hof.trans hf4 (by simp), ?_⟩
      exact owns_off hown hf4 (by simp)
theorem made_at (w : World) (base n : Nat) (hn : n = w.heap.size) (hb : base ≤ w.heap.size) (e : TypeId) (sz : Nat) : (w.alloc (.cells #[] e)).ownsRow base e sz (.slice (some ⟨n, 0, none⟩) 0 0) 0 [] := by
  subst hn
  exact World.ownsRow_made w #[] 0 hb (Nat.zero_le _) (by simp)
theorem flat_strs : ∀ (l : List ByteArray), (l.map fun b => [Value.string b]).flatten = l.map .string
  | [] => rfl
  | x :: l => by
    have := flat_strs l
    simp only [List.map_cons, List.flatten_cons, this]
    rfl
/-- the tail of an own row, as a source -/
theorem tail_rows {w : World} {base g L cap : Nat} {l1 nw : List ByteArray} (h : w.ownsRow base 9 1 (.slice (some ⟨g, 0, none⟩) L cap) L ((l1 ++ nw).map .string)) (hL : L - l1.length = nw.length) (c : Nat) :
    RowsAt w (.slice (some ⟨g, l1.length, none⟩) (L - l1.length) c) 1 (nw.map fun b => [Value.string b]) := by
  rw [hL]
  refine .inr ⟨⟨g, l1.length, none⟩, c, by rw [List.length_map], fun i hi j u hu => ?_⟩
  have hi' : i < nw.length := by simpa using hi
  rw [List.getElem_map] at hu
  obtain rfl : j = 0 := by
    have := (List.getElem?_eq_some_iff.1 hu).1
    simpa using this
  have hv : u = .string nw[i] := by simpa using hu.symm
  subst hv
  have := h.cells (g := g) rfl (l1.length + i) (.string nw[i]) (by rw [List.getElem?_map, List.getElem?_append_right (by omega)]; simp [hi'])
  have e : ∀ (p : Addr), p.add 0 = p := fun p => by simp [Addr.add]
  rw [Nat.mul_one, e]
  have e2 : (⟨g, l1.length, none⟩ : Addr).add i = (⟨g, 0, none⟩ : Addr).add (l1.length + i) := by
    by_cases hi0 : i = 0
    · subst hi0
      by_cases hl0 : l1.length = 0
      · rw [hl0]
      · rw [Nat.add_zero]
        simp [Addr.add]
        try (intro h; subst h; exact absurd rfl hl0)
    · simp [Addr.add, hi0]
  rw [e2]
  exact this
theorem rFeed_bad (b : Nat) (A c : ByteArray) (n : Nat) (w : World) (h : RAt w b A n) (hA : A.size ≤ 1000000) (hb : (stOf A).bad = true) :
    Calls Try.prog 25 #[.pointer (some ⟨b, 0, none⟩), .string c] w fun e w' => e = .returned (.tuple #[.slice none 0 0, .bool false]) ∧ Off [] w w' := by
  have k := Lib.hid (rState b A n w h hA)
  rw [hb] at k
  clear h
  go_enter Try.func25, Try.ntmps25
  go_wp2_with (go_at_call 26; refine k.out.mono ?_; rintro e w1 ⟨v, rfl, ho1, hown1⟩; obtain ⟨a1, c1, rfl⟩ := own_form hown1)
  go_ret2
  exact ⟨rfl, ho1⟩
set_option maxHeartbeats 1600000 in
theorem rFeed (b : Nat) (A c : ByteArray) (w : World) (h : RAt w b A (cutV A).1.length) (hA : A.size + c.size ≤ 1000000) (hb : (stOf A).bad = false) :
    Calls Try.prog 25 #[.pointer (some ⟨b, 0, none⟩), .string c] w fun e w' => ∃ v, e = .returned (.tuple #[v, .bool (!(stOf (A ++ c)).bad)]) ∧ RAt w' b (A ++ c) (cutV (A ++ c)).1.length ∧ Off [b] w w' ∧
      w'.ownsRow w.heap.size 9 1 v (feedV (stOf A) c).2.1.length ((feedV (stOf A) c).2.1.map .string) := by
  obtain ⟨i0, hi, hh⟩ := Option.map_eq_some_iff.1 info_string
  simp only [Prod.mk.injEq] at hh
  have hbl := Blk.lt h
  have k1 := Lib.hid (rState b A _ w h (by omega))
  have hfa := (feed_all A c hb).2.2
  rw [hb] at k1
  have hl1 : (cutV A).1.length ≤ 1000000 := Nat.le_trans (cut_len A) (by omega)
  have hl2 : (cutV (A ++ c)).1.length ≤ 1000000 := Nat.le_trans (cut_len (A ++ c)) (by rw [ByteArray.size_append]; omega)
  have k2 := Lib.hid (fun n w' h' => rState b (A ++ c) n w' h' (by rw [ByteArray.size_append]; omega))
  have hz0 : A.size + c.size ≤ 9223372036854775807 := by omega
  have H := Lib.hid h
  clear h
  generalize (feedV (stOf A) c).2.1 = nw at *
  generalize (cutV A).1 = l1 at *
  generalize (cutV (A ++ c)).1 = l2 at *
  subst hfa
  generalize (stOf (A ++ c)).bad = bd at *
  rw [List.length_append] at hl2
  go_enter Try.func25, Try.ntmps25
  go_wp2_with (first
    | (go_at_call 26; (with_reducible refine k1.out.mono ?_); rintro e w1 ⟨v1, rfl, ho1, hown1⟩; obtain ⟨a1, c1, rfl⟩ := own_form hown1; have hb1 : RAt w1 b A l1.length := ho1.blk H.out (by simp); have e0 := Blk.cell hb1 0 (.string A) rfl; have f0 := Blk.free hb1 0; have HB1 := Lib.hid hb1; clear hb1)
    | (go_at_call 26; fail))
  have hb2 : RAt (w1.setCell ⟨b, 0, none⟩ (.string (A ++ c))) b (A ++ c) l1.length := by
    have := Blk.set HB1.out 0 (.string (A ++ c))
    simpa [RAt] using this
  have ho2 : Off [b] w (w1.setCell ⟨b, 0, none⟩ (.string (A ++ c))) := (ho1.mono (by simp)).setCell _ _ (.inl (by simp))
  generalize w1.setCell ⟨b, 0, none⟩ (.string (A ++ c)) = w2 at *
  refine (k2.out l1.length w2 hb2).mono ?_
  rintro e w3 ⟨v3, rfl, ho3, hown3⟩
  have hb3 : RAt w3 b (A ++ c) l1.length := ho3.blk hb2 (by simp)
  have e1 := Blk.cell (Blk.alloc hb3 (.cells #[] 9)) 1 (.int .i64 ((l1.length : Nat) : Int)) rfl
  have f1 := Blk.free (Blk.alloc hb3 (.cells #[] 9)) 1
  have HB3 := Lib.hid hb3
  clear e0 f0 hb2 hb3
  have hw3 := ho3.size
  have hw2 := ho2.size
  rcases hown3.2 with ⟨rfl, h0⟩ | ⟨g, cap, cur, rfl, hg, hh3, hnc, _⟩
  · obtain ⟨rfl, rfl⟩ : l1 = [] ∧ nw = [] := by
      rw [List.length_append] at h0
      exact ⟨List.eq_nil_of_length_eq_zero (by omega), List.eq_nil_of_length_eq_zero (by omega)⟩
    go_wp2_with fail
    go_ret2
    refine ⟨_, rfl, ?_, ?_, ?_⟩
    · have := Blk.set (Blk.alloc HB3.out (.cells #[] 9)) 1 (.int .i64 0)
      simpa [RAt] using this
    · exact ((ho2.trans ho3 (by simp)).alloc _).setCell _ _ (.inl (by simp))
    · exact owns_off (made_at w3 w.heap.size w3.heap.size rfl (by omega) 9 1) ((Off.refl [b] _).setCell ⟨b, 1, none⟩ (.int .i64 0) (.inl (by simp))) (by simp [Value.ownBlock]; omega)
  · have hL0 : (l1 ++ nw).length = l1.length + nw.length := List.length_append
    have m1 : (l1.length : Int) ≤ ((l1 ++ nw).length : Int) := by rw [List.length_append]; omega
    have m2 : ((l1 ++ nw).length : Int) ≤ (cap : Int) := by omega
    have htl := Lib.hid (fun L (hL : (l1 ++ nw).length = L) c => tail_rows (w := w3.alloc (.cells #[] 9)) (base := w2.heap.size) (g := g) (L := L) (cap := cap) (l1 := l1) (nw := nw) (by have := hown3.alloc (.cells #[] 9); rw [← hL]; exact this) (by omega) c)
    generalize hL : (l1 ++ nw).length = L at *
    have HT := Lib.hid (htl.out L rfl)
    have HLL := Lib.hid hL0
    clear htl hL0
    by_cases hcl : cap = l1.length
    · subst hcl
      obtain rfl : nw = [] := List.eq_nil_of_length_eq_zero (by have := HLL.out; omega)
      obtain rfl : L = l1.length := by have := HLL.out; simp at this; exact this
      go_wp2_with fail
      go_ret2
      refine ⟨_, rfl, ?_, ?_, ?_⟩
      · have := Blk.set (Blk.alloc HB3.out (.cells #[] 9)) 1 (.int .i64 ((l1.length : Nat) : Int))
        simpa [RAt] using this
      · exact ((ho2.trans ho3 (by simp)).alloc _).setCell _ _ (.inl (by simp))
      · exact owns_off (made_at w3 w.heap.size w3.heap.size rfl (by omega) 9 1) ((Off.refl [b] _).setCell ⟨b, 1, none⟩ (.int .i64 ((l1.length : Nat) : Int)) (.inl (by simp))) (by simp [Value.ownBlock]; omega)
    · have hcd : (cap == l1.length) = false := by simpa using hcl
      go_wp2_with (at_builtin; go_loud (refine wpList_append_rows _ rfl (.tmp 35) (.tmp 41) 39 rfl w.heap.size 9 i0 _ 1 16 Try.underlying39 hi hh.1 hh.2.1 hh.2.2 rfl (by decide) (.slice (some ⟨w3.heap.size, 0, none⟩) 0 0) 0 [] rfl (made_at w3 w.heap.size w3.heap.size rfl (by omega) _ _) (.slice (some ⟨g, l1.length, none⟩) (L - l1.length) (cap - l1.length)) (nw.map fun b => [Value.string b]) rfl (HT.out _) (by simp) (by simp; intro u hu; rfl) (by unfold maxLen; simp; omega) (by simp; omega) (by simp; omega) ?_; intro v5 w5 hown5 hgr5 hgo5; have hb5 : RAt w5 b (A ++ c) l1.length := (off_grown hgr5).blk (Blk.alloc HB3.out _) (by simp [Value.ownBlock]; omega); have g1 := Blk.cell hb5 1 (.int .i64 ((l1.length : Nat) : Int)) rfl; have fz1 := Blk.free hb5 1; have HB5 := Lib.hid hb5; clear hb5; obtain ⟨a5, c5, rfl⟩ := own_form hown5))
      go_ret2
      rw [List.length_map, Nat.zero_add, List.nil_append, flat_strs] at hown5
      refine ⟨_, rfl, ?_, ?_, ?_⟩
      · have := Blk.set HB5.out 1 (.int .i64 ((L : Nat) : Int))
        rw [hL]
        simpa [RAt] using this
      · exact (((ho2.trans ho3 (by simp)).alloc _).grown hgr5 (fun k hk => .inr (by have e : w3.heap.size = k := Option.some.inj hk; omega))).setCell _ _ (.inl (by simp))
      · have := owns_off hown5 ((Off.refl [b] w5).setCell ⟨b, 1, none⟩ (.int .i64 ((L : Nat) : Int)) (.inl (by simp))) (fun k hk => by have := (hown5.lt k (by simpa using hk)).1; simp; omega)
        simpa using this
end Go.Proofs.Ytfjkcegdodpgdaa.Jo
