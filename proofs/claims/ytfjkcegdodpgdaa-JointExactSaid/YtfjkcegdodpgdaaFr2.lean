/- Contracts of layer 3: cutting bytes into frames; its statements are awake. -/
import Derived.Test.YtfjkcegdodpgdaaProg
import Derived.Below
import Derived.WalkKit
import Derived.KernelRfl
import Derived.RowKit3
import Derived.Deep.LoopGhost
import Derived.Deep.QuietTactic
import Derived.BigQuiet
import Derived.WideLaws
import Derived.Deep.DeepCutAuto
import Derived.Deep.CutBlock
import Derived.Lib.Hide
import Derived.Laws.BitsLemmas
import Derived.Laws.Bits64
import Derived.Laws.BitsAllLaws
import Derived.IntWalk
import Derived.Outline
import Derived.WalkSpells
import Derived.Test.YtfjkcegdodpgdaaMem
import Derived.Test.YtfjkcegdodpgdaaFrM
import Derived.Test.YtfjkcegdodpgdaaMem3
namespace Go.Proofs.Ytfjkcegdodpgdaa.Fr
open Go.RowKit Go.Proofs.Ytfjkcegdodpgdaa.Mem Go.Proofs.Ytfjkcegdodpgdaa.Pk

/-- all whole frames: the bodies, what is left, what that is -/
def cutN : Nat → ByteArray → List ByteArray × ByteArray × Nat
  | 0, s => ([], s, (nextV s).2.2)
  | k + 1, s => if (nextV s).2.2 = 1 then ((nextV s).1 :: (cutN k (s.extract (nextV s).2.1 s.size)).1, (cutN k (s.extract (nextV s).2.1 s.size)).2) else ([], s, (nextV s).2.2)
def cutV (s : ByteArray) : List ByteArray × ByteArray × Nat := cutN s.size s
theorem next_whole (s : ByteArray) (h : (nextV s).2.2 = 1) : 7 ≤ (nextV s).2.1 ∧ (nextV s).2.1 ≤ s.size ∧ (nextV s).1.size ≤ 2048 := by
  unfold nextV at *
  split at h
  · cases h
  · split at h
    · cases h
    · split at h
      · cases h
      · split at h
        · rename_i h1 h2 h3 h4
          rw [if_neg h1, if_neg h2, if_neg h3, if_pos h4]
          refine ⟨?_, ?_, ?_⟩
          · show 7 ≤ be s 2 + 6
            omega
          · show be s 2 + 6 ≤ s.size
            omega
          · show (s.extract 2 (be s 2 + 2)).size ≤ 2048
            rw [ByteArray.size_extract]
            omega
        · cases h
theorem cutN_succ (k : Nat) (s : ByteArray) : cutN (k + 1) s = if (nextV s).2.2 = 1 then ((nextV s).1 :: (cutN k (s.extract (nextV s).2.1 s.size)).1, (cutN k (s.extract (nextV s).2.1 s.size)).2) else ([], s, (nextV s).2.2) := rfl
theorem cutN_more : ∀ (k : Nat) (s : ByteArray), s.size ≤ k → cutN (k + 1) s = cutN k s
  | 0, s, h => by
    have hz : s.size = 0 := by omega
    have h1 : (nextV s).2.2 ≠ 1 := fun e => by have := next_whole s e; omega
    rw [cutN, cutN, if_neg h1]
  | k + 1, s, h => by
    rw [cutN_succ (k + 1) s, cutN_succ k s]
    by_cases h1 : (nextV s).2.2 = 1
    · have hw := next_whole s h1
      rw [if_pos h1, if_pos h1, cutN_more k _ (by rw [ByteArray.size_extract]; omega)]
    · rw [if_neg h1, if_neg h1]
theorem cutN_fuel (s : ByteArray) : ∀ (d : Nat), cutN (s.size + d) s = cutN s.size s
  | 0 => rfl
  | d + 1 => by rw [← Nat.add_assoc, cutN_more _ s (by omega), cutN_fuel s d]
theorem cutV_yes (s : ByteArray) (h : (nextV s).2.2 = 1) : cutV s = ((nextV s).1 :: (cutV (s.extract (nextV s).2.1 s.size)).1, (cutV (s.extract (nextV s).2.1 s.size)).2) := by
  have hw := next_whole s h
  have hz : (s.extract (nextV s).2.1 s.size).size = s.size - (nextV s).2.1 := by rw [ByteArray.size_extract]; omega
  unfold cutV
  rw [show s.size = (s.size - 1) + 1 by omega, cutN, if_pos h, show s.size - 1 + 1 = s.size by omega]
  have e := cutN_fuel (s.extract (nextV s).2.1 s.size) ((nextV s).2.1 - 1)
  rw [show (s.extract (nextV s).2.1 s.size).size + ((nextV s).2.1 - 1) = s.size - 1 by omega] at e
  rw [e]
theorem cutV_no (s : ByteArray) (h : (nextV s).2.2 ≠ 1) : cutV s = ([], s, (nextV s).2.2) := by
  unfold cutV
  rcases hs : s.size with _ | k
  · rfl
  · rw [cutN, if_neg h]
/-- frames in a row -/
theorem cut_frm (l r : List Nat) (hl : ∀ c ∈ l, c < 256) (hr : ∀ c ∈ r, c < 256) (h1 : 1 ≤ l.length) (h2 : l.length ≤ 2048) : cutV (str (frm l ++ r)) = (str l :: (cutV (str r)).1, (cutV (str r)).2) := by
  have hn := next_frm l r hl hr h1 h2
  rw [cutV_yes _ (by rw [hn]), hn]
  have e : (str (frm l ++ r)).extract (l.length + 6) (str (frm l ++ r)).size = str r := by
    rw [extract_str, str_size, List.take_of_length_le (Nat.le_refl _), List.drop_left' (frm_len l)]
  rw [e]
theorem info_string : (Try.prog.info? 9).map (fun i => (i.zero, i.size, i.bytes)) = some (some (.string ⟨#[]⟩), 1, 16) := by kernel_rfl
theorem strs_snoc (l : List ByteArray) (b : ByteArray) : (l ++ [b]).map Value.string = l.map Value.string ++ [Value.string b] := by simp
/-- how long a string value is -/
def strSz (v : Value) : Nat := match v with
  | .string r => r.size
  | _ => 0
set_option maxHeartbeats 1600000 in
theorem cut (s : ByteArray) (hs : s.size ≤ 1099511627776) (w : World) : Calls Try.prog 28 #[.string s] w fun e w' => ∃ v, e = .returned (.tuple #[v, .string (cutV s).2.1, .int .i64 ((cutV s).2.2 : Nat)]) ∧ Off [] w w' ∧ w'.ownsRow w.heap.size 9 1 v (cutV s).1.length ((cutV s).1.map .string) := by
  obtain ⟨i0, hi, hh⟩ := Option.map_eq_some_iff.1 info_string
  simp only [Prod.mk.injEq] at hh
  go_enter Try.func28, Try.ntmps28
  go_wp2
  go_loopw [0, 5] (fun vs vl wr => ∃ (r : ByteArray) (l : List ByteArray), vs = .string r ∧ r.size + l.length ≤ s.size ∧ Hid (cutV s = (l ++ (cutV r).1, (cutV r).2)) ∧ wr.ownsRow w.heap.size 9 1 vl l.length (l.map .string) ∧ Off [] w wr) (fun vs _ _ => strSz vs)
  case atStart => exact ⟨s, [], rfl, by simp, Lib.hid rfl, World.ownsRow_nil _ _ _ _, Off.refl _ _⟩
  case round =>
    obtain ⟨r, l, rfl, hz, hc, hown, hof⟩ := hrel
    have hk := next r (by omega) wr
    obtain ⟨va, vc, rfl⟩ := own_form hown
    by_cases h1 : (nextV r).2.2 = 1
    · have hw := next_whole r h1
      have hcy := Lib.hid (cutV_yes r h1)
      rw [h1] at hk
      obtain ⟨⟨b, n, t⟩, hq⟩ : ∃ q, nextV r = q := ⟨_, rfl⟩
      rw [hq] at hk hw hcy
      clear h1 hq
      obtain ⟨w1, w2, w3⟩ := hw
      have d1 : (n : Int) ≤ (r.size : Int) := by have : n ≤ r.size := w2; omega
      dsimp only at hk hcy w1 w2 w3
      go_wp2_with (go_at_call 14; refine hk.mono ?_; rintro e w4 ⟨rfl, hf4⟩)
      have hown4 := owns_off hown hf4 (by simp)
      have hof4 := hof.trans hf4 (by simp)
      go_region_law (refine step_append_rows rfl (.tmp 20) (.tmp 22) 39 rfl w.heap.size 9 i0 _ 1 16 Try.underlying39 hi hh.1 hh.2.1 hh.2.2 rfl (by decide) (.slice va l.length vc) l.length (l.map .string) rfl (hown4.alloc _).drew (.slice (some ⟨w4.heap.size, 0, none⟩) 1 1) [[.string b]] rfl (rows_new1 rfl) (by simp) (by simp; rfl) (by simp) (by unfold maxLen; simp; omega) (by simp; omega) (by have := hof4.size; simp; omega) ?_; intro v5 w5 hown5 hgr5 hgo5)
      obtain ⟨va5, vc5, rfl⟩ := own_form hown5
      have hz2 : (r.extract n r.size).size = r.size - n := by rw [ByteArray.size_extract]; omega
      go_simp
      go_wp2
      go_roundw
      case rel =>
        exact ⟨r.extract n r.size, l ++ [b], rfl, by rw [hz2, List.length_append]; simp; omega, Lib.hid (by rw [hc.out, hcy.out, List.append_assoc]; rfl), by simpa using hown5, (hof4.alloc _).drew.grown hgr5 (fun k hk => .inr (hown.lt k hk).1)⟩
      case measure =>
        show (r.extract n r.size).size < r.size
        omega
    · have hc' := hc.out
      rw [cutV_no r h1, List.append_nil] at hc'
      have HC := Lib.hid hc'
      clear hc'
      generalize nextV r = q at *
      obtain ⟨b, n, t⟩ := q
      have hd : (((t : Nat) : Int) != 1) = true := by
        have h2 : t ≠ 1 := h1
        rw [bne_iff_ne]
        omega
      dsimp only at hk h1
      go_wp2_with (go_at_call 14; refine hk.mono ?_; rintro e w4 ⟨rfl, hf4⟩)
      go_ret3
      rw [HC.out]
      refine ⟨_, rfl, hof.trans hf4 (by simp), ?_⟩
      exact owns_off hown hf4 (by simp)
/-! the statements of layer 3 are awake -/
abbrev a1 : ByteArray := ⟨#[97]⟩
theorem of_a : ofV a1 = (str (frm [97]), 0) := rfl
theorem hd_a : (str (frm [97])).extract 0 3 = ⟨#[0, 1, 97]⟩ := by
  rw [extract_str]
  rfl
theorem size_a : (str (frm [97])).size = 7 := by rw [str_size]; rfl
theorem next_ax : nextV (str (frm [97]) ++ ⟨#[120]⟩) = (⟨#[97]⟩, 7, 1) := by
  have h := next_frm [97] [120] (by decide) (by decide) (by decide) (by decide)
  rw [str_append] at h
  exact h
theorem next_z : nextV ⟨#[0]⟩ = (⟨#[]⟩, 0, 2) := rfl
theorem cut_aa : cutV (str (frm [97]) ++ str (frm [97]) ++ ⟨#[0]⟩) = ([⟨#[97]⟩, ⟨#[97]⟩], ⟨#[0]⟩, 2) := by
  have h1 := cut_frm [97] (frm [97] ++ [0]) (by decide) (by intro c hc; rcases List.mem_append.1 hc with h | h; exact frm_lt [97] (by decide) c h; revert c; decide) (by decide) (by decide)
  have h2 := cut_frm [97] [0] (by decide) (by decide) (by decide) (by decide)
  have h3 : cutV (str [0]) = ([], str [0], 2) := cutV_no _ (by rw [show str [0] = ⟨#[0]⟩ from rfl, next_z]; decide)
  rw [h2, h3, ← List.append_assoc, str_append, str_append] at h1
  exact h1
set_option maxHeartbeats 1600000 in
theorem awake (w : World) : Calls Try.prog 11 #[] w fun e w' => e = .returned (.bool true) ∧ Off [] w w' := by
  have k1 := Lib.hid (fun w' => frameOf a1 w')
  have k2 := Lib.hid (fun w' => next (str (frm [97]) ++ ⟨#[120]⟩) (by rw [ByteArray.size_append, size_a]; decide) w')
  have k3 := Lib.hid (fun w' => frameOf ⟨#[]⟩ w')
  have k4 := Lib.hid (fun w' => cut (str (frm [97]) ++ str (frm [97]) ++ ⟨#[0]⟩) (by rw [ByteArray.size_append, ByteArray.size_append, size_a]; decide) w')
  rw [of_a] at k1
  rw [next_ax] at k2
  rw [cut_aa] at k4
  rw [show ofV ⟨#[]⟩ = (⟨#[]⟩, 1) from rfl] at k3
  have h3 := hd_a
  have hz := size_a
  generalize str (frm [97]) = S at *
  have z1 : S.size + (⟨#[120]⟩ : ByteArray).size ≤ 9223372036854775807 := by rw [hz]; decide
  have z2 : S.size + S.size ≤ 9223372036854775807 := by rw [hz]; decide
  have z3 : (S ++ S).size + (⟨#[0]⟩ : ByteArray).size ≤ 9223372036854775807 := by rw [ByteArray.size_append, hz]; decide
  go_enter Try.func11, Try.ntmps11
  go_wp2_with (first
    | (go_at_call 12; with_reducible refine (k1.out _).mono ?_; rintro e w1 ⟨rfl, hf1⟩)
    | (go_at_call 14; refine (k2.out _).mono ?_; rintro e w2 ⟨rfl, hf2⟩)
    | (go_at_call 12; with_reducible refine (k3.out _).mono ?_; rintro e w3 ⟨rfl, hf3⟩)
    | (go_at_call 28; refine (k4.out _).mono ?_; rintro e w4 ⟨v, rfl, hf4, hown⟩; obtain ⟨va, vc, rfl⟩ := own_form hown))
  go_ret
  exact ⟨rfl, ((hf1.trans hf2 (by simp)).trans hf3 (by simp)).trans hf4 (by simp)⟩
end Go.Proofs.Ytfjkcegdodpgdaa.Fr
