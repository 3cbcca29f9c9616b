/- Frames, in plain words: what is made is read, what is turned is told. -/
import Derived.Test.YtfjkcegdodpgdaaProg
import Derived.Below
import Derived.WalkKit
import Derived.KernelRfl
import Derived.RowKit3
import Derived.Deep.LoopGhost
import Derived.Deep.QuietTactic
import Derived.BigQuiet
import Derived.WideLaws
import Derived.Deep.DeepCutAuto
import Derived.Deep.CutBlock
import Derived.Lib.Hide
import Derived.Laws.BitsLemmas
import Derived.Laws.Bits64
import Derived.Laws.BitsAllLaws
import Derived.IntWalk
import Derived.Outline
import Derived.WalkSpells
import Derived.Test.YtfjkcegdodpgdaaMem
import Derived.Test.YtfjkcegdodpgdaaFr1
namespace Go.Proofs.Ytfjkcegdodpgdaa.Fr
open Go.RowKit Go.Proofs.Ytfjkcegdodpgdaa.Mem Go.Proofs.Ytfjkcegdodpgdaa.Pk

theorem low (c : Nat) : c ^^^ (c % 256) = 256 * (c / 256) := by
  apply Nat.eq_of_testBit_eq
  intro i
  rw [show (256 : Nat) = 2 ^ 8 from rfl, Nat.testBit_xor, Nat.testBit_mod_two_pow, Nat.testBit_two_pow_mul, Nat.testBit_div_two_pow]
  by_cases h : 8 ≤ i
  · rw [show i - 8 + 8 = i by omega]
    rw [decide_eq_false (show ¬ i < 8 by omega), decide_eq_true (show i ≥ 8 from h)]
    simp
  · have h2 : i < 8 := by omega
    simp [h, h2]
theorem turn1 (x c : Nat) : Crc.Xn 8 (x ^^^ c ^^^ c % 256) = Crc.Xn 8 x ^^^ c / 256 := by
  rw [Nat.xor_assoc, low, Crc.Xn_xor, Crc.Xn_up]
theorem resid (R : Nat) (hR : R < 4294967296) : Crc.run R (le4 (R ^^^ Crc.ones)) = Crc.Xn 32 Crc.ones := by
  have hc : R ^^^ Crc.ones < 4294967296 := Crc.xor_lt hR (by decide)
  have h0 : R = Crc.ones ^^^ (R ^^^ Crc.ones) := by rw [Nat.xor_comm R, ← Nat.xor_assoc, Nat.xor_self, Nat.zero_xor]
  generalize R ^^^ Crc.ones = c at *
  subst h0
  have d2 : c / 65536 = c / 256 / 256 := by omega
  have d3 : c / 16777216 = c / 256 / 256 / 256 := by omega
  have d4 : c / 256 / 256 / 256 / 256 = 0 := by omega
  simp only [le4, Crc.run, Crc.stepN, d2, d3, turn1]
  rw [d4, Nat.xor_zero]
  rw [← Crc.Xn_add, ← Crc.Xn_add, ← Crc.Xn_add]
def residue : Nat := Crc.Xn 32 Crc.ones ^^^ Crc.ones
theorem le4_lt (n : Nat) : ∀ c ∈ le4 n, c < 256 := by
  intro c hc
  simp only [le4, List.mem_cons, List.not_mem_nil, or_false] at hc
  rcases hc with rfl | rfl | rfl | rfl <;> omega
theorem sumL_lt (l : List Nat) : ∀ c ∈ sumL l, c < 256 := le4_lt _
theorem sumL_len (l : List Nat) : (sumL l).length = 4 := rfl
theorem crc_sum (p : List Nat) (hp : ∀ c ∈ p, c < 256) : Crc.crc (p ++ sumL p) = residue := by
  unfold Crc.crc residue sumL
  rw [Crc.run_append]
  congr 1
  exact resid _ (Crc.run_lt p (by decide) hp)
theorem sum_iff (p q : List Nat) (hp : ∀ c ∈ p, c < 256) (hq : ∀ c ∈ q, c < 256) (hl : q.length = 4) : sumL p = q ↔ Crc.crc (p ++ q) = residue := by
  constructor
  · intro h
    rw [← h]
    exact crc_sum p hp
  · intro h
    rw [← crc_sum p hp] at h
    match q, hl with
    | [a, b, c, d], _ =>
      have k := le4_lt (Crc.crc p)
      have e : sumL p = [Crc.crc p % 256, Crc.crc p / 256 % 256, Crc.crc p / 65536 % 256, Crc.crc p / 16777216 % 256] := rfl
      rw [e] at h ⊢
      have h2 : Crc.crc (p ++ [a, b, c, d] ++ []) = Crc.crc (p ++ [Crc.crc p % 256, Crc.crc p / 256 % 256, Crc.crc p / 65536 % 256, Crc.crc p / 16777216 % 256] ++ []) := by simpa using h
      obtain ⟨e1, e2, e3, e4⟩ := Crc.crc_burst p [] a b c d _ _ _ _ hp (hq a (by simp)) (hq b (by simp)) (hq c (by simp)) (hq d (by simp)) (Nat.mod_lt _ (by decide)) (Nat.mod_lt _ (by decide)) (Nat.mod_lt _ (by decide)) (Nat.mod_lt _ (by decide)) h2
      rw [e1, e2, e3, e4]
theorem extract_str (l : List Nat) (i j : Nat) : (str l).extract i j = str ((l.take j).drop i) := by
  apply ByteArray.ext
  rw [ByteArray.data_extract]
  apply Array.ext'
  simp [str, List.drop_take]
theorem beL_beB : ∀ (k n : Nat), beL (beB k n) = n % 256 ^ k
  | 0, n => by simp [beB, beL, Nat.mod_one]
  | k + 1, n => by
    rw [beB, beL_snoc, beL_beB k (n / 256), Nat.pow_succ, Nat.mul_comm (256 ^ k) 256, Nat.mod_mul]
    omega
theorem be_take (l : List Nat) (h : ∀ c ∈ l, c < 256) (k : Nat) : be (str l) k = beL (l.take k) := by unfold be; rw [nums_str l h]
/-- a frame's parts -/
def hd (l : List Nat) : List Nat := beB 2 l.length ++ l
theorem hd_len (l : List Nat) : (hd l).length = l.length + 2 := by simp [hd, beB_length]; omega
theorem frm_eq (l : List Nat) : frm l = hd l ++ sumL (hd l) := rfl
theorem frm_len (l : List Nat) : (frm l).length = l.length + 6 := by rw [frm_eq, List.length_append, hd_len, sumL_len]
theorem hd_lt (l : List Nat) (h : ∀ c ∈ l, c < 256) : ∀ c ∈ hd l, c < 256 := by
  intro c hc
  rcases List.mem_append.1 hc with h1 | h1
  · exact beB_lt _ _ c h1
  · exact h c h1
theorem frm_lt (l : List Nat) (h : ∀ c ∈ l, c < 256) : ∀ c ∈ frm l, c < 256 := by
  intro c hc
  rcases List.mem_append.1 hc with h1 | h1
  · exact hd_lt l h c h1
  · exact sumL_lt _ c h1
theorem frm_two (l r : List Nat) (hl : l.length ≤ 2048) : beL ((frm l ++ r).take 2) = l.length := by
  rw [frm_eq, hd, List.append_assoc, List.append_assoc, List.take_left' (beB_length _ _), beL_beB]
  omega
theorem nextL (l : List Nat) (h : ∀ c ∈ l, c < 256) (h2 : 2 ≤ l.length) (h6 : beL (l.take 2) + 6 ≤ l.length) (hb : 1 ≤ beL (l.take 2) ∧ beL (l.take 2) ≤ 2048) :
    nextV (str l) = if sumL (l.take (beL (l.take 2) + 2)) = (l.take (beL (l.take 2) + 6)).drop (beL (l.take 2) + 2) then (str ((l.take (beL (l.take 2) + 2)).drop 2), beL (l.take 2) + 6, 1) else (⟨#[]⟩, 0, 3) := by
  have hs : (str l).size = l.length := str_size l
  unfold nextV
  rw [be_take l h, if_neg (by omega), if_neg (by omega), if_neg (by omega), extract_str, extract_str, extract_str, List.drop_zero, sumV_str _ (fun c hc => h c (List.mem_of_mem_take hc))]
  have hi : str (sumL (l.take (beL (l.take 2) + 2))) = str ((l.take (beL (l.take 2) + 6)).drop (beL (l.take 2) + 2)) ↔ sumL (l.take (beL (l.take 2) + 2)) = (l.take (beL (l.take 2) + 6)).drop (beL (l.take 2) + 2) := by
    constructor
    · intro e
      have := congrArg nums e
      rw [nums_str _ (sumL_lt _), nums_str _ (fun c hc => h c (List.mem_of_mem_take (List.mem_of_mem_drop hc)))] at this
      exact this
    · intro e
      rw [e]
  by_cases hc : sumL (l.take (beL (l.take 2) + 2)) = (l.take (beL (l.take 2) + 6)).drop (beL (l.take 2) + 2)
  · rw [if_pos hc, if_pos (hi.2 hc)]
  · rw [if_neg hc, if_neg (fun e => hc (hi.1 e))]
theorem next_frm (l r : List Nat) (hl : ∀ c ∈ l, c < 256) (hr : ∀ c ∈ r, c < 256) (h1 : 1 ≤ l.length) (h2 : l.length ≤ 2048) : nextV (str (frm l ++ r)) = (str l, l.length + 6, 1) := by
  have hb := frm_two l r h2
  have hall : ∀ c ∈ frm l ++ r, c < 256 := fun c hc => by
    rcases List.mem_append.1 hc with h | h
    · exact frm_lt l hl c h
    · exact hr c h
  have hlen := frm_len l
  have t2 : (frm l ++ r).take (l.length + 2) = hd l := by
    rw [frm_eq, List.append_assoc, List.take_left' (hd_len l)]
  have t6 : ((frm l ++ r).take (l.length + 6)).drop (l.length + 2) = sumL (hd l) := by
    rw [List.take_left' hlen, frm_eq, List.drop_left' (hd_len l)]
  rw [nextL _ hall (by rw [List.length_append]; omega) (by rw [hb, List.length_append]; omega) (by omega), hb, t2, t6, if_pos rfl]
  refine Prod.ext ?_ rfl
  show str ((hd l).drop 2) = str l
  rw [hd, List.drop_left' (beB_length _ _)]
theorem next_take (l : List Nat) (hl : ∀ c ∈ l, c < 256) (h1 : 1 ≤ l.length) (h2 : l.length ≤ 2048) (k : Nat) (hk : k < l.length + 6) : nextV (str ((frm l).take k)) = (⟨#[]⟩, 0, 2) := by
  have hlen := frm_len l
  have hs : (str ((frm l).take k)).size = k := by rw [str_size, List.length_take]; omega
  unfold nextV
  by_cases hk2 : k < 2
  · rw [if_pos (by omega)]
  · have hb := frm_two l [] h2
    rw [List.append_nil] at hb
    rw [if_neg (by omega), be_take _ (fun c hc => frm_lt l hl c (List.mem_of_mem_take hc)), List.take_take, Nat.min_eq_left (by omega), hb, if_neg (by omega), if_pos (by omega)]
/-- bytes that begin as a frame does, and are as many: whole, just if their sum is what a frame's is -/
theorem next_like (l t : List Nat) (ht : ∀ c ∈ t, c < 256) (h1 : 1 ≤ l.length) (h2 : l.length ≤ 2048) (hlen : t.length = l.length + 6) (h0 : t.take 2 = (frm l).take 2) :
    (nextV (str t)).2.2 = if Crc.crc t = residue then 1 else 3 := by
  have hb := frm_two l [] h2
  rw [List.append_nil, ← h0] at hb
  have hi := sum_iff (t.take (l.length + 2)) (t.drop (l.length + 2)) (fun c hc => ht c (List.mem_of_mem_take hc)) (fun c hc => ht c (List.mem_of_mem_drop hc)) (by rw [List.length_drop]; omega)
  rw [List.take_append_drop] at hi
  rw [nextL t ht (by omega) (by omega) (by omega), hb, List.take_of_length_le (l := t) (i := l.length + 6) (by omega)]
  by_cases hc : sumL (t.take (l.length + 2)) = t.drop (l.length + 2)
  · rw [if_pos hc, if_pos (hi.1 hc)]
  · rw [if_neg hc, if_neg (fun e => hc (hi.2 e))]
theorem crc_frm (l : List Nat) (hl : ∀ c ∈ l, c < 256) : Crc.crc (frm l) = residue := crc_sum (hd l) (hd_lt l hl)
theorem beB_inj (a b : Nat) (ha : a < 65536) (hb : b < 65536) (h : beB 2 a = beB 2 b) : a = b := by
  have := congrArg beL h
  rw [beL_beB, beL_beB] at this
  omega
theorem frm_apart (a b : List Nat) (ha : a.length ≤ 2048) (hb : b.length ≤ 2048) (k : Nat) (hk : 2 ≤ k) (hka : k ≤ a.length + 6) (_hkb : k ≤ b.length + 6) (hm : k = a.length + 6 ∨ k = b.length + 6) (h : (frm a).take k = (frm b).take k) : a = b := by
  have h2 := congrArg (List.take 2) h
  rw [List.take_take, List.take_take, Nat.min_eq_left hk, frm_eq, frm_eq, hd, hd, List.append_assoc, List.append_assoc, List.take_left' (beB_length _ _), List.take_left' (beB_length _ _)] at h2
  have hl := beB_inj _ _ (by omega) (by omega) h2
  have hk6 : k = a.length + 6 := by omega
  rw [List.take_of_length_le (by rw [frm_len]; omega), List.take_of_length_le (by rw [frm_len]; omega), frm_eq, frm_eq, hd, hd, hl, List.append_assoc, List.append_assoc] at h
  have h3 := List.append_inj_right h rfl
  exact List.append_inj_left h3 hl
end Go.Proofs.Ytfjkcegdodpgdaa.Fr
