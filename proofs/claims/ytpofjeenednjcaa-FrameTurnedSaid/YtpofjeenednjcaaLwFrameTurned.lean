/- What is turned is no whole frame: the walk of the statement. -/
import Derived.Test.YtpofjeenednjcaaProg
import Derived.Below
import Derived.WalkKit
import Derived.KernelRfl
import Derived.RowKit3
import Derived.Deep.LoopGhost
import Derived.Deep.QuietTactic
import Derived.BigQuiet
import Derived.WideLaws
import Derived.Deep.DeepCutAuto
import Derived.Deep.CutBlock
import Derived.Lib.Hide
import Derived.Laws.BitsLemmas
import Derived.Laws.Bits64
import Derived.Laws.BitsAllLaws
import Derived.IntWalk
import Derived.Outline
import Derived.WalkSpells
import Derived.Test.YtpofjeenednjcaaMem
import Derived.Test.YtpofjeenednjcaaLwCrcBurst
import Derived.Test.YtpofjeenednjcaaLwFrameApart
namespace Go.Proofs.Ytpofjeenednjcaa.Fr
open Go.RowKit Go.Proofs.Ytpofjeenednjcaa.Mem Go.Proofs.Ytpofjeenednjcaa.Pk
open CrcF (Bytes bytes_made bytesArr bytesArr_get burst burst_len burst_zero burst_get burst_step burst_lt burst_tells conv_burst eq4)

theorem burst_two (P d : List Nat) (m k : Nat) (hm : 2 ≤ m) : (burst P d m k).take 2 = P.take 2 := by
  apply List.ext_getElem
  · simp [burst]
  · intro i h1 h2
    simp only [List.length_take, burst_len] at h1
    simp only [List.getElem_take, burst, List.getElem_mapIdx]
    rw [if_neg (by omega)]
/-- the law: whole just where nothing turned, and never short -/
theorem turned_tells (l : List Nat) (hl : ∀ c ∈ l, c < 256) (h1 : 1 ≤ l.length) (h2 : l.length ≤ 2048) (d0 d1 d2 d3 m : Nat) (hm : 2 ≤ m) (h : m + 4 ≤ l.length + 6) (e0 : d0 < 256) (e1 : d1 < 256) (e2 : d2 < 256) (e3 : d3 < 256) :
    (nextV (str (burst (frm l) [d0, d1, d2, d3] m 4))).2.2 = if d0 = 0 ∧ d1 = 0 ∧ d2 = 0 ∧ d3 = 0 then 1 else 3 := by
  have hb := burst_lt (frm l) [d0, d1, d2, d3] m 4 (frm_lt l hl) (by simp; omega)
  have ht := burst_tells (frm l) d0 d1 d2 d3 m (by rw [frm_len]; exact h) (frm_lt l hl) e0 e1 e2 e3
  rw [next_like l _ hb h1 h2 (by rw [burst_len, frm_len]) (burst_two _ _ _ _ hm), ← crc_frm l hl]
  by_cases hc : Crc.crc (burst (frm l) [d0, d1, d2, d3] m 4) = Crc.crc (frm l)
  · rw [if_pos hc, if_pos (ht.1 hc)]
  · rw [if_neg hc, if_neg (fun e => hc (ht.2 e))]
set_option maxRecDepth 20000 in
set_option maxHeartbeats 1600000 in
theorem turned_main (s : ByteArray) (c : Int) (d0 d1 d2 d3 : Nat) (w : World) (hs : 1 ≤ s.size ∧ s.size ≤ 2048) (e0 : d0 < 256) (e1 : d1 < 256) (e2 : d2 < 256) (e3 : d3 < 256) :
    Calls Try.prog 13 #[.string s, .int .i64 c, .agg #[.int .u8 d0, .int .u8 d1, .int .u8 d2, .int .u8 d3]] w fun e w' => e = .returned (.bool true) ∧ Below w.heap.size w w' := by
  have kf := Lib.hid (fun w' => frameOf s w')
  rw [ofV_yes s hs] at kf
  have hz := ofV_size s
  have hnn : nums (str (frm (nums s))) = frm (nums s) := nums_str _ (frm_lt _ (nums_lt s))
  have hll := turned_tells (nums s) (nums_lt s) (by rw [nums_length]; exact hs.1) (by rw [nums_length]; exact hs.2) d0 d1 d2 d3
  obtain ⟨z, hzz⟩ : ∃ z, s.size + 6 = z := ⟨_, rfl⟩
  rw [nums_length, hzz] at hll
  rw [hzz] at hz
  have HNN := Lib.hid hnn
  have hz7 : 7 ≤ z ∧ z ≤ 3000 := by omega
  obtain ⟨hz7, hz8⟩ := hz7
  clear hnn hzz
  generalize hS : str (frm (nums s)) = S at *
  generalize hF : frm (nums s) = F at *
  clear hS hF
  have hFl : F.length = z := by rw [← HNN.out, nums_length, hz]
  have hFlt : ∀ c ∈ F, c < 256 := by rw [← HNN.out]; exact nums_lt S
  obtain ⟨m, hm, hmn, hm2⟩ : ∃ m : Nat, (2 : Int) + wrap64 ((IntKind.u64.wrap c).tmod ((z : Int) - 5)) = (m : Int) ∧ m + 4 ≤ z ∧ 2 ≤ m := by
    obtain ⟨m, hm, hmn⟩ := mod_upto c (z - 6) (by omega)
    refine ⟨m + 2, ?_, by omega, by omega⟩
    rw [show (z : Int) - 5 = ((z - 6 : Nat) : Int) + 1 by omega, hm]
    omega
  have hll2 := Lib.hid (hll m hm2 hmn e0 e1 e2 e3)
  clear hll
  have hcv := fun w : World => Lib.run_convert_string_bytes (P := Try.prog) w 9 33 5 S Try.underlying9 Try.underlying33 Try.underlying5
  obtain ⟨bw, hbw⟩ : ∃ bw : World → World, ∀ w, Lib.bytesWorld w 5 S = bw w := ⟨_, fun _ => rfl⟩
  simp only [hbw] at hcv
  go_enter Try.func13, Try.ntmps13
  go_wp2_with (first
    | (go_at_call 41; refine (awake _).mono ?_; rintro e w00 ⟨rfl, ho1⟩)
    | (go_at_call 42; refine (kf.out _).mono ?_; rintro e w0 ⟨rfl, ho2⟩))
  obtain ⟨pad, hb0⟩ := bytes_made w0 S
  have hbsz := Lib.bytesWorld_size w0 5 S
  have hbold := Lib.bytesWorld_at_old w0 5 S
  have hboff : Off [] w0 (Lib.bytesWorld w0 5 S) := ⟨rfl, rfl, rfl, by omega, fun k hk _ => hbold k hk⟩
  rw [hbw] at hb0 hboff
  have hb0' : Bytes (bw w0) w0.heap.size F pad := by rw [← HNN.out]; exact hb0
  have ho : Off [] (w.alloc (.cells (bytesArr [d0, d1, d2, d3]) 31)) w0 := ho1.trans ho2 (by simp)
  have hd0 : Blk (bw w0) w.heap.size (bytesArr [d0, d1, d2, d3]) 31 := hboff.blk (ho.blk (blk_new w _ _) (by simp)) (by simp)
  have hoff0 : Off [] w (bw w0) := (((Off.refl [] w).alloc _).trans ho (by simp)).trans hboff (by simp)
  have hsep : w.heap.size < w0.heap.size := by have := ho.size; simp at this; omega
  have H0 := Lib.hid (And.intro hb0' (And.intro hd0 hoff0))
  clear hcv hbw hb0 hb0' hboff hd0 hoff0 hbsz hbold hm ho ho1 ho2
  generalize w0.heap.size = nb at *
  have hcap := grownCap w0 z 0 5
  generalize grownCap w0 z 0 5 = cap at *
  generalize bw w0 = wb at *
  go_loopw [11] (fun vi wr => ∃ k : Nat, k ≤ 4 ∧ vi = .int .i64 k ∧ Bytes wr nb (burst F [d0, d1, d2, d3] m k) pad ∧ Blk wr w.heap.size (bytesArr [d0, d1, d2, d3]) 31 ∧ Off [] w wr) (fun vi _ => 4 - (intOf vi).toNat)
  case atStart => exact ⟨0, by omega, rfl, by rw [burst_zero]; exact H0.out.1, H0.out.2.1, H0.out.2.2⟩
  case round =>
    obtain ⟨k, hk, rfl, hB, hD, hof⟩ := hrel
    by_cases hlt : k < 4
    · have hlen : m + k < F.length := by omega
      have hmk : m + k < z := by omega
      have hcb := hB.cell (m + k) (by rw [burst_len]; exact hlen)
      rw [burst_get _ _ _ _ hlen] at hcb
      have hfb := hB.free (m + k) (by rw [burst_len]; exact hlen)
      have hcd := hD.cell k _ (bytesArr_get [d0, d1, d2, d3] k hlt)
      have hst := burst_step F [d0, d1, d2, d3] m k
      rw [show F.getD (m + k) 0 = F[m + k] by simp [hlen], show [d0, d1, d2, d3].getD k 0 = [d0, d1, d2, d3][k] by simp [hlt]] at hst
      have hv1 : F[m + k] < 256 := hFlt _ (List.getElem_mem _)
      have hv2 : [d0, d1, d2, d3][k] < 256 := by
        have : k = 0 ∨ k = 1 ∨ k = 2 ∨ k = 3 := by omega
        rcases this with rfl | rfl | rfl | rfl <;> assumption
      have HS := Lib.hid hst
      have HB := Lib.hid hB
      have HD := Lib.hid hD
      clear hst hB hD H0
      generalize F[m + k] = x at *
      generalize [d0, d1, d2, d3][k] = y at *
      have hx := u8_xor_nat x y hv1 hv2
      go_wp2
      go_region
      go_wp2
      go_roundw
      case rel =>
        refine ⟨k + 1, by omega, by go_num, ?_, ?_, ?_⟩
        · rw [← HS.out]
          exact (HB.out.set (m + k) (x ^^^ y) (by rw [burst_len]; exact hlen)).drew
        · exact (HD.out.other _ _ (by simp; omega)).drew
        · exact (hof.setCell _ _ (.inr (by simp; omega))).drew
      case measure => simp [intOf]; omega
    · obtain rfl : k = 4 := by omega
      have hbl := burst_lt F [d0, d1, d2, d3] m 4 hFlt (by simp; omega)
      obtain ⟨t, htz, htn, hconv⟩ := conv_burst (burst F [d0, d1, d2, d3] m 4) z cap nb (by rw [burst_len, hFl]) hbl
      have hcv := hconv _ _ hB
      have ht : str (burst F [d0, d1, d2, d3] m 4) = t := by rw [← htn]; exact str_nums t
      have hll3 := hll2.out
      rw [ht] at hll3
      have q0 := hD.cell 0 (.int .u8 (d0 : Nat)) rfl
      have q1 := hD.cell 1 (.int .u8 (d1 : Nat)) rfl
      have q2 := hD.cell 2 (.int .u8 (d2 : Nat)) rfl
      have q3 := hD.cell 3 (.int .u8 (d3 : Nat)) rfl
      have kn := Lib.hid (fun w' => next t (by omega) w')
      generalize nextV t = q at *
      obtain ⟨y1, y2, y3⟩ := q
      dsimp only at hll3
      have HD := Lib.hid hD
      have heq := fun w' => eq4 d0 d1 d2 d3 w'
      clear hconv hB hD htn hbl hll2 ht H0 htz
      by_cases h0 : d0 = 0 ∧ d1 = 0 ∧ d2 = 0 ∧ d3 = 0
      · rw [if_pos h0] at hll3
        have hb : ((d0 : Int) == 0 && (d1 : Int) == 0 && (d2 : Int) == 0 && (d3 : Int) == 0) = true := by simp only [Bool.and_eq_true, beq_iff_eq]; omega
        simp only [hb] at heq
        clear hb h0
        subst hll3
        go_wp2_with (go_at_call 43; refine (kn.out _).mono ?_; rintro e w9 ⟨rfl, hf9⟩; have HD9 := hf9.blk HD.out (by simp); have p0 := HD9.cell 0 (.int .u8 (d0 : Nat)) rfl; have p1 := HD9.cell 1 (.int .u8 (d1 : Nat)) rfl; have p2 := HD9.cell 2 (.int .u8 (d2 : Nat)) rfl; have p3 := HD9.cell 3 (.int .u8 (d3 : Nat)) rfl; clear HD9)
        go_ret
        exact ⟨rfl, (hof.trans hf9 (by simp)).to_below⟩
      · rw [if_neg h0] at hll3
        have hb : ((d0 : Int) == 0 && (d1 : Int) == 0 && (d2 : Int) == 0 && (d3 : Int) == 0) = false := by rw [← Bool.not_eq_true]; simp only [Bool.and_eq_true, beq_iff_eq]; omega
        simp only [hb] at heq
        clear hb h0
        subst hll3
        go_wp2_with (go_at_call 43; refine (kn.out _).mono ?_; rintro e w9 ⟨rfl, hf9⟩; have HD9 := hf9.blk HD.out (by simp); have p0 := HD9.cell 0 (.int .u8 (d0 : Nat)) rfl; have p1 := HD9.cell 1 (.int .u8 (d1 : Nat)) rfl; have p2 := HD9.cell 2 (.int .u8 (d2 : Nat)) rfl; have p3 := HD9.cell 3 (.int .u8 (d3 : Nat)) rfl; clear HD9)
        go_ret
        exact ⟨rfl, (hof.trans hf9 (by simp)).to_below⟩
theorem frameTurned (s : ByteArray) (c : Int) (d0 d1 d2 d3 : Nat) (w : World) (_ws : s.size ≤ 140737488351232) (_wc : (Lit.int .i64 c).wf = true) (e : d0 < 256 ∧ d1 < 256 ∧ d2 < 256 ∧ d3 < 256) :
    Calls Try.prog 13 #[.string s, .int .i64 c, .agg #[.int .u8 d0, .int .u8 d1, .int .u8 d2, .int .u8 d3]] w fun e w' => e = .returned (.bool true) ∧ Below w.heap.size w w' := by
  by_cases hs : 1 ≤ s.size ∧ s.size ≤ 2048
  · exact turned_main s c d0 d1 d2 d3 w hs e.1 e.2.1 e.2.2.1 e.2.2.2
  · have kf := Lib.hid (fun w' => frameOf s w')
    rw [ofV_no s hs] at kf
    go_enter Try.func13, Try.ntmps13
    go_wp2_with (first
      | (go_at_call 41; refine (awake _).mono ?_; rintro e w00 ⟨rfl, ho1⟩)
      | (go_at_call 42; refine (kf.out _).mono ?_; rintro e w0 ⟨rfl, ho2⟩))
    go_ret
    exact ⟨rfl, ((((Off.refl [] w).alloc _).trans ho1 (by simp)).trans ho2 (by simp)).to_below⟩
end Go.Proofs.Ytpofjeenednjcaa.Fr
