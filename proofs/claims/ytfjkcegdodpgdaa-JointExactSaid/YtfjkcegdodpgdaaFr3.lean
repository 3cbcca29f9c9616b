/- Contracts of layer 3: one frame's body; the document's frames. -/
import Derived.Test.YtfjkcegdodpgdaaProg
import Derived.Below
import Derived.WalkKit
import Derived.KernelRfl
import Derived.RowKit3
import Derived.Deep.LoopGhost
import Derived.Deep.QuietTactic
import Derived.BigQuiet
import Derived.WideLaws
import Derived.Deep.DeepCutAuto
import Derived.Deep.CutBlock
import Derived.Lib.Hide
import Derived.Laws.BitsLemmas
import Derived.Laws.Bits64
import Derived.Laws.BitsAllLaws
import Derived.IntWalk
import Derived.Outline
import Derived.WalkSpells
import Derived.Test.YtfjkcegdodpgdaaMem
import Derived.Test.YtfjkcegdodpgdaaFr2
import Derived.Test.YtfjkcegdodpgdaaPk5
import Derived.Test.YtfjkcegdodpgdaaCrcG
namespace Go.Proofs.Ytfjkcegdodpgdaa.Fr
open Go.RowKit Go.Proofs.Ytfjkcegdodpgdaa.Mem Go.Proofs.Ytfjkcegdodpgdaa.Pk

theorem ofV_yes (s : ByteArray) (h : 1 ≤ s.size ∧ s.size ≤ 2048) : ofV s = (str (frm (nums s)), 0) := by unfold ofV; rw [if_pos h]
theorem ofV_no (s : ByteArray) (h : ¬ (1 ≤ s.size ∧ s.size ≤ 2048)) : ofV s = (⟨#[]⟩, 1) := by unfold ofV; rw [if_neg h]
theorem ofV_size (s : ByteArray) : (str (frm (nums s))).size = s.size + 6 := by rw [str_size, frm_len, nums_length]
def bodyV (s : ByteArray) : ByteArray × Int := if (nextV s).2.2 = 1 ∧ (nextV s).2.1 = s.size then ((nextV s).1, 0) else (⟨#[]⟩, 4)
theorem body (s : ByteArray) (hs : s.size ≤ 140737488351232) (w : World) : Calls Try.prog 16 #[.string s] w fun e w' => e = .returned (.tuple #[.string (bodyV s).1, .int .i64 (bodyV s).2]) ∧ Off [] w w' := by
  have hk := Lib.hid (next s hs w)
  unfold bodyV
  generalize nextV s = q at *
  obtain ⟨b, n, t⟩ := q
  show Calls _ _ _ _ fun e w' => e = .returned (.tuple #[.string (if t = 1 ∧ n = s.size then (b, (0 : Int)) else (⟨#[]⟩, 4)).1, .int .i64 (if t = 1 ∧ n = s.size then (b, (0 : Int)) else (⟨#[]⟩, 4)).2]) ∧ Off [] w w'
  by_cases h1 : t = 1
  · subst h1
    by_cases h2 : n = s.size
    · subst h2
      rw [if_pos ⟨rfl, rfl⟩]
      go_enter Try.func16, Try.ntmps16
      go_wp2_with (go_at_call 14; refine hk.out.mono ?_; rintro e w1 ⟨rfl, hf1⟩)
      go_ret2
      exact ⟨rfl, hf1⟩
    · rw [if_neg (fun h => h2 h.2)]
      have hd : (((n : Nat) : Int) != (s.size : Int)) = true := by rw [bne_iff_ne]; omega
      go_enter Try.func16, Try.ntmps16
      go_wp2_with (go_at_call 14; refine hk.out.mono ?_; rintro e w1 ⟨rfl, hf1⟩)
      go_ret2
      exact ⟨rfl, hf1⟩
  · rw [if_neg (fun h => h1 h.1)]
    have hd : (((t : Nat) : Int) != 1) = true := by rw [bne_iff_ne]; omega
    go_enter Try.func16, Try.ntmps16
    go_wp2_with (go_at_call 14; refine hk.out.mono ?_; rintro e w1 ⟨rfl, hf1⟩)
    go_ret2
    exact ⟨rfl, hf1⟩
theorem refNum_two (n : Nat) (h : n < 65536) : refNumV 2 (n : Int) = (str (beB 2 n), true) := by
  unfold refNumV
  rw [if_pos ⟨rfl, by omega⟩]
  refine Prod.ext rfl ?_
  simp
  omega
theorem ret_sb {a b : ByteArray} {c d : Bool} (h : a = b) (h' : c = d) : Ending.returned (.tuple #[.string a, .bool c]) = .returned (.tuple #[.string b, .bool d]) := by rw [h, h']
theorem conv4 {w : World} {b n : Nat} {t : TypeId} (h : Blk w b #[.int .u8 ((n % 256 : Nat) : Int), .int .u8 ((n / 256 % 256 : Nat) : Int), .int .u8 ((n / 65536 % 256 : Nat) : Int), .int .u8 ((n / 16777216 % 256 : Nat) : Int)] t) :
    (convert 58 9 (.slice (some ⟨b, 0, none⟩) 4 4)).run Try.prog w = .ok (.string (str (le4 n))) w := by
  refine conv_arr (t := t) ?_
  have e : sumA n 4 = #[.int .u8 ((n % 256 : Nat) : Int), .int .u8 ((n / 256 % 256 : Nat) : Int), .int .u8 ((n / 65536 % 256 : Nat) : Int), .int .u8 ((n / 16777216 % 256 : Nat) : Int)] := by simp [sumA, sumC]
  rw [e]
  exact h
theorem refOf (s : ByteArray) (w : World) : Calls Try.prog 13 #[.string s] w fun e w' => e = .returned (.tuple #[.string (ofV s).1, .bool ((ofV s).2 == 0)]) ∧ Off [] w w' := by
  by_cases h : 1 ≤ s.size ∧ s.size ≤ 2048
  · rw [ofV_yes s h]
    have d1 : decide ((s.size : Int) < 1) = false := decide_eq_false (by omega)
    have d2 : decide ((2048 : Int) < (s.size : Int)) = false := decide_eq_false (by omega)
    have hz0 : (str (beB 2 s.size)).size = 2 := by rw [str_size, beB_length]
    have hz1 : (str (beB 2 s.size) ++ s).size = s.size + 2 := by rw [ByteArray.size_append, hz0]; omega
    have e0 : str (beB 2 s.size) ++ s = str (hd (nums s)) := by
      rw [hd, str_append, str_nums, nums_length]
    have k1 := Lib.hid (fun w' => refNum 2 (s.size : Int) w' (by omega))
    rw [refNum_two s.size (by omega)] at k1
    have k2 := Lib.hid (fun w' => CrcF.ref_of (str (beB 2 s.size) ++ s) (by omega) w')
    have hn : Crc.crc (CrcF.nums (str (beB 2 s.size) ++ s)) < 4294967296 := Crc.crc_lt _ (CrcF.nums_lt _)
    have hv : str (beB 2 s.size) ++ s ++ str (le4 (Crc.crc (CrcF.nums (str (beB 2 s.size) ++ s)))) = str (frm (nums s)) := by
      rw [e0, show CrcF.nums (str (hd (nums s))) = nums (str (hd (nums s))) from rfl, nums_str _ (hd_lt _ (nums_lt s)), ← str_append]
      rfl
    have HV := Lib.hid hv
    have hz3 : (str (le4 (Crc.crc (CrcF.nums (str (beB 2 s.size) ++ s))))).size = 4 := by rw [str_size]; rfl
    generalize Crc.crc (CrcF.nums (str (beB 2 s.size) ++ s)) = n at *
    have hsz : (str (beB 2 s.size) ++ s).size + (str (le4 n)).size ≤ 9223372036854775807 := by omega
    clear e0 hv hz1 hz3
    generalize str (beB 2 s.size) = B at *
    have hsz0 : B.size + s.size ≤ 9223372036854775807 := by omega
    generalize hLE : str (le4 n) = LE at *
    have hcv : ∀ w' : World, (convert 58 9 (.slice (some ⟨w'.heap.size, 0, none⟩) 4 4)).run Try.prog (w'.alloc (.cells #[.int .u8 ((n : Int) % 256), .int .u8 ((n : Int) / 256 % 256), .int .u8 ((n : Int) / 65536 % 256), .int .u8 ((n : Int) / 16777216)] 5)) = .ok (.string LE) (w'.alloc (.cells #[.int .u8 ((n : Int) % 256), .int .u8 ((n : Int) / 256 % 256), .int .u8 ((n : Int) / 65536 % 256), .int .u8 ((n : Int) / 16777216)] 5)) := fun w' => by
      rw [← hLE, show (n : Int) % 256 = ((n % 256 : Nat) : Int) by omega, show (n : Int) / 256 % 256 = ((n / 256 % 256 : Nat) : Int) by omega, show (n : Int) / 65536 % 256 = ((n / 65536 % 256 : Nat) : Int) by omega, show (n : Int) / 16777216 = ((n / 16777216 % 256 : Nat) : Int) by omega]
      exact conv4 (blk_new' _ _ _ _ rfl)
    clear hLE
    go_enter Try.func13, Try.ntmps13
    go_wp2_with (first
      | (go_at_call 33; refine (k1.out _).mono ?_; rintro e w1 ⟨rfl, hf1⟩)
      | (go_at_call 34; refine (k2.out _).mono ?_; rintro e w2 ⟨rfl, rfl⟩))
    go_ret2
    exact ⟨ret_sb HV.out rfl, hf1.alloc _⟩
  · rw [ofV_no s h]
    have hd : decide ((s.size : Int) < 1) = true ∨ decide ((s.size : Int) < 1) = false ∧ decide ((2048 : Int) < (s.size : Int)) = true := by
      by_cases h1 : s.size < 1
      · exact .inl (decide_eq_true (by omega))
      · exact .inr ⟨decide_eq_false (by omega), decide_eq_true (by omega)⟩
    rcases hd with hd | ⟨hd, hd2⟩
    all_goals
      go_enter Try.func13, Try.ntmps13
      go_wp2
      go_ret2
      exact ⟨rfl, Off.refl _ _⟩
theorem be_first (s : ByteArray) (h : 2 ≤ s.size) : ((s[0]'(by omega)).toNat : Int) * 256 + ((s[1]'(by omega)).toNat : Int) = ((be s 2 : Nat) : Int) := by
  rw [be_succ s 1 (by omega), be_succ s 0 (by omega), show be s 0 = 0 by simp [be, beL]]
  omega
theorem frm_eq2 (s : ByteArray) (n : Nat) (hn : be s 2 = n) (h1 : 1 ≤ n) (h2 : n ≤ 2048) (h6 : n + 6 ≤ s.size) : str (frm (nums (s.extract 2 (n + 2)))) = s.extract 0 (n + 6) ↔ sumV (s.extract 0 (n + 2)) = s.extract (n + 2) (n + 6) := by
  obtain ⟨l, hl, rfl⟩ : ∃ l, (∀ c ∈ l, c < 256) ∧ s = str l := ⟨nums s, nums_lt s, (str_nums s).symm⟩
  rw [str_size] at h6
  rw [be_take l hl] at hn
  have ht : (l.take 2).length = 2 := by rw [List.length_take]; omega
  have hbe : beB 2 n = l.take 2 := by
    match hq : l.take 2, ht with
    | [x, y], _ =>
      have hx : x < 256 := hl x (List.mem_of_mem_take (by rw [hq]; simp))
      have hy : y < 256 := hl y (List.mem_of_mem_take (by rw [hq]; simp))
      rw [hq] at hn
      simp [beL] at hn
      rw [← hn]
      simp [beB]
      omega
  have hm : ((l.take (n + 2)).drop 2).length = n := by rw [List.length_drop, List.length_take]; omega
  have hhd : hd ((l.take (n + 2)).drop 2) = l.take (n + 2) := by
    rw [hd, hm, hbe]
    have := List.take_append_drop 2 (l.take (n + 2))
    rw [List.take_take, Nat.min_eq_left (by omega)] at this
    exact this
  rw [extract_str, extract_str, extract_str, extract_str, List.drop_zero, List.drop_zero, nums_str _ (fun c hc => hl c (List.mem_of_mem_take (List.mem_of_mem_drop hc))), sumV_str _ (fun c hc => hl c (List.mem_of_mem_take hc)), frm_eq, hhd]
  have hsp : l.take (n + 6) = l.take (n + 2) ++ (l.take (n + 6)).drop (n + 2) := by
    have := List.take_append_drop (n + 2) (l.take (n + 6))
    rw [List.take_take, Nat.min_eq_left (by omega)] at this
    exact this.symm
  have hlt2 : ∀ c ∈ (l.take (n + 6)).drop (n + 2), c < 256 := fun c hc => hl c (List.mem_of_mem_take (List.mem_of_mem_drop hc))
  constructor
  · intro e
    have e2 := congrArg nums e
    rw [nums_str _ (fun c hc => by rcases List.mem_append.1 hc with h | h; exact hl c (List.mem_of_mem_take h); exact sumL_lt _ c h), nums_str _ (fun c hc => hl c (List.mem_of_mem_take hc)), hsp] at e2
    rw [List.append_cancel_left e2]
  · intro e
    have e2 := congrArg nums e
    rw [nums_str _ (sumL_lt _), nums_str _ hlt2] at e2
    rw [e2, ← hsp]
set_option maxHeartbeats 1600000 in
theorem refNext (s : ByteArray) (hs : s.size ≤ 140737488351232) (w : World) : Calls Try.prog 15 #[.string s] w fun e w' => e = .returned (.tuple #[.string (nextV s).1, .int .i64 ((nextV s).2.1 : Nat), .int .i64 ((nextV s).2.2 : Nat)]) ∧ Off [] w w' := by
  unfold nextV
  by_cases h1 : s.size < 2
  · rw [if_pos h1]
    have hd : decide ((s.size : Int) < 2) = true := decide_eq_true (by omega)
    go_enter Try.func15, Try.ntmps15
    go_wp2
    go_ret3
    exact ⟨rfl, Off.refl _ _⟩
  · rw [if_neg h1]
    have hd : decide ((s.size : Int) < 2) = false := decide_eq_false (by omega)
    have hbf0 := be_first s (by omega)
    have hs0 : 0 < s.size := by omega
    have hs1 : 1 < s.size := by omega
    have i0 : (0 : Int) < (s.size : Int) := by omega
    have i1 : (1 : Int) < (s.size : Int) := by omega
    have hc0 := s[0].toNat_lt
    have hc1 := s[1].toNat_lt
    obtain ⟨n, hn⟩ : ∃ n, be s 2 = n := ⟨_, rfl⟩
    have hbf : (s[0].toNat : Int) * (256 : Int) + (s[1].toNat : Int) = (n : Int) := by rw [hn] at hbf0; omega
    clear hbf0
    have hlt : n < 65536 := by rw [← hn]; exact be2_lt s (by omega)
    have m1 : IntKind.i64.wrap ((s[0].toNat : Int) * 256) = (s[0].toNat : Int) * 256 := IntWalk.i64_in _ (by omega)
    have m2 : IntKind.i64.wrap (n : Int) = (n : Int) := IntWalk.i64_in _ (by omega)
    by_cases h2 : be s 2 < 1 ∨ 2048 < be s 2
    · rw [if_pos h2]
      rw [hn] at h2
      have hd2 : decide ((n : Int) < 1) = true ∨ decide ((n : Int) < 1) = false ∧ decide ((2048 : Int) < (n : Int)) = true := by
        by_cases h : n < 1
        · exact .inl (decide_eq_true (by omega))
        · exact .inr ⟨decide_eq_false (by omega), decide_eq_true (by omega)⟩
      rcases hd2 with hd2 | ⟨hd2, hd3⟩
      all_goals
        go_enter Try.func15, Try.ntmps15
        go_wp2
        go_quiet (fail)
        go_wp2
        go_ret3
        exact ⟨rfl, (Off.refl [] w).drewN _⟩
    · rw [if_neg h2]
      have hd2 : decide ((n : Int) < 1) = false := decide_eq_false (by omega)
      have hd3 : decide ((2048 : Int) < (n : Int)) = false := decide_eq_false (by omega)
      by_cases h3 : s.size < be s 2 + 6
      · rw [if_pos h3]
        have hd4 : decide ((s.size : Int) < (n : Int) + 6) = true := decide_eq_true (by omega)
        go_enter Try.func15, Try.ntmps15
        go_wp2
        go_quiet (fail)
        go_wp2
        go_ret3
        exact ⟨rfl, (Off.refl [] w).drewN _⟩
      · rw [if_neg h3]
        have hiff := frm_eq2 s n hn (by omega) (by omega) (by omega)
        have hexs : (s.extract 2 (n + 2)).size = n := by rw [ByteArray.size_extract]; omega
        have kf := Lib.hid (fun w' => refOf (s.extract 2 (n + 2)) w')
        rw [ofV_yes _ (by omega)] at kf
        rw [hn] at h2 h3 ⊢
        obtain ⟨e2, he2, hq2⟩ : ∃ m : Nat, (n : Int) + 2 = (m : Int) ∧ Hid (m = n + 2) := ⟨n + 2, by omega, Lib.hid rfl⟩
        obtain ⟨e6, he6, hq6⟩ : ∃ m : Nat, (n : Int) + 6 = (m : Int) ∧ Hid (m = n + 6) := ⟨n + 6, by omega, Lib.hid rfl⟩
        rw [← hq2.out] at hiff kf ⊢
        rw [← hq6.out] at hiff ⊢
        have hd4 : decide (s.size < e6) = false := decide_eq_false (by have := hq6.out; omega)
        have hle : e2 ≤ e6 ∧ e6 ≤ s.size ∧ 2 ≤ e2 := by have := hq6.out; have := hq2.out; omega
        obtain ⟨l1, l2, l3⟩ := hle
        have m3 : (e2 : Int) ≤ (s.size : Int) := by omega
        have m4 : (e6 : Int) ≤ (s.size : Int) := by omega
        have m5 : (2 : Int) ≤ (e2 : Int) := by omega
        by_cases h4 : sumV (s.extract 0 e2) = s.extract e2 e6
        · rw [if_pos h4]
          have hq := beq_yes (hiff.2 h4)
          clear h4 hiff hexs
          generalize str (frm (nums (s.extract 2 e2))) = F at *
          go_enter Try.func15, Try.ntmps15
          go_wp2
          go_quiet (fail)
          go_wp2_with (go_at_call 13; refine (kf.out _).mono ?_; rintro e w3 ⟨rfl, hf3⟩)
          go_ret3
          exact ⟨rfl, ((Off.refl [] w).drewN _).trans hf3 (by simp)⟩
        · rw [if_neg h4]
          have hq := beq_no (fun e => h4 (hiff.1 e))
          clear h4 hiff hexs
          generalize str (frm (nums (s.extract 2 e2))) = F at *
          go_enter Try.func15, Try.ntmps15
          go_wp2
          go_quiet (fail)
          go_wp2_with (go_at_call 13; refine (kf.out _).mono ?_; rintro e w3 ⟨rfl, hf3⟩)
          go_ret3
          exact ⟨rfl, ((Off.refl [] w).drewN _).trans hf3 (by simp)⟩
end Go.Proofs.Ytfjkcegdodpgdaa.Fr
