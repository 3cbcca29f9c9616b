/- A burst within four bytes is told: the walk of the statement. -/
import Derived.Test.YtpofjeenednjcaaProg
import Derived.Below
import Derived.WalkKit
import Derived.KernelRfl
import Derived.RowKit3
import Derived.Deep.LoopGhost
import Derived.Deep.QuietTactic
import Derived.BigQuiet
import Derived.WideLaws
import Derived.Deep.DeepCutAuto
import Derived.Deep.CutBlock
import Derived.Lib.Hide
import Derived.Laws.BitsLemmas
import Derived.Laws.Bits64
import Derived.Laws.BitsAllLaws
import Derived.IntWalk
import Derived.Outline
import Derived.WalkSpells
import Derived.Test.YtpofjeenednjcaaMem
import Derived.Test.YtpofjeenednjcaaCrcA
import Derived.RegionTactic
import Derived.ChangeAlike
import Derived.Deep.RegionWith
import Derived.Deep.RegionHeld3
import Derived.Lib.ConvBytes
import Derived.Laws.BytesArg
namespace Go.Proofs.Ytpofjeenednjcaa.CrcF
open Go.RowKit Go.Proofs.Ytpofjeenednjcaa Go.Proofs.Ytpofjeenednjcaa.Mem

/-- the bytes of a text that a conversion made: the cells may be turned, none is frozen -/
def Bytes (w : World) (b : Nat) (l : List Nat) (pad : List Value) : Prop :=
  w.heap[b]? = some (.cells ((l.map fun c : Nat => Value.int .u8 (c : Int)) ++ pad).toArray 5 (l.length + pad.length, l.length + pad.length + 1))
theorem Bytes.cell {w : World} {b : Nat} {l : List Nat} {pad : List Value} (h : Bytes w b l pad) (i : Nat) (hi : i < l.length) : w.cell? ⟨b, i, none⟩ = some (.int .u8 ((l[i] : Nat) : Int)) := by
  unfold Bytes at h
  simp [World.cell?, h, List.getElem?_append, hi]
theorem Bytes.free {w : World} {b : Nat} {l : List Nat} {pad : List Value} (h : Bytes w b l pad) (i : Nat) (hi : i < l.length) : w.frozen? ⟨b, i, none⟩ = false := by
  unfold Bytes at h
  simp [World.frozen?, h]
  omega
theorem Bytes.drew {w : World} {b : Nat} {l : List Nat} {pad : List Value} (h : Bytes w b l pad) : Bytes w.drew b l pad := h
theorem Bytes.set {w : World} {b : Nat} {l : List Nat} {pad : List Value} (h : Bytes w b l pad) (i v : Nat) (hi : i < l.length) : Bytes (w.setCell ⟨b, i, none⟩ (.int .u8 (v : Int))) b (l.set i v) pad := by
  have hlt : b < w.heap.size := lt_of_block h
  have h' := h
  unfold Bytes at h' ⊢
  rw [Array.getElem?_eq_getElem hlt, Option.some.injEq] at h'
  show (w.heap.modify b _)[b]? = _
  rw [Array.getElem?_eq_getElem (by simpa using hlt), Array.getElem_modify_self, h']
  simp [hi]
theorem bytes_made (w : World) (s : ByteArray) : ∃ pad, Bytes (Lib.bytesWorld w 5 s) w.heap.size (nums s) pad := by
  refine ⟨List.replicate (grownCap w s.size 0 5 - s.size) (.int .u8 0), ?_⟩
  unfold Bytes
  rw [Lib.bytesWorld_at_new]
  simp [Lib.bytesCells, nums]
def bytesArr (l : List Nat) : Array Value := (l.map fun c : Nat => Value.int .u8 (c : Int)).toArray
theorem bytesArr_get (l : List Nat) (i : Nat) (h : i < l.length) : (bytesArr l)[i]? = some (.int .u8 ((l[i] : Nat) : Int)) := by simp [bytesArr, h]
/-- the bytes, the first k of the burst turned -/
def burst (P d : List Nat) (m k : Nat) : List Nat := P.mapIdx fun i c => if m ≤ i ∧ i < m + k then c ^^^ d.getD (i - m) 0 else c
theorem burst_len (P d : List Nat) (m k : Nat) : (burst P d m k).length = P.length := by simp [burst]
theorem burst_zero (P d : List Nat) (m : Nat) : burst P d m 0 = P := by
  apply List.ext_getElem
  · simp [burst]
  · intro i h1 h2
    simp [burst]
    intro h3 h4
    omega
theorem burst_get (P d : List Nat) (m k : Nat) (h : m + k < P.length) : (burst P d m k)[m + k]'(by rw [burst_len]; exact h) = P[m + k] := by
  simp [burst]
theorem burst_step (P d : List Nat) (m k : Nat) : (burst P d m k).set (m + k) (P.getD (m + k) 0 ^^^ d.getD k 0) = burst P d m (k + 1) := by
  apply List.ext_getElem
  · simp [burst]
  · intro i h1 h2
    simp only [burst_len] at h2
    rw [List.getElem_set]
    by_cases hi : m + k = i
    · subst hi
      simp [burst, h2]
    · rw [if_neg hi]
      simp only [burst, List.getElem_mapIdx]
      by_cases h3 : m ≤ i ∧ i < m + k
      · rw [if_pos h3, if_pos ⟨h3.1, by omega⟩]
      · rw [if_neg h3, if_neg (by omega)]
theorem burst_four (P : List Nat) (d0 d1 d2 d3 m : Nat) (h : m + 4 ≤ P.length) : ∃ a b c d, P = P.take m ++ [a, b, c, d] ++ P.drop (m + 4) ∧ burst P [d0, d1, d2, d3] m 4 = P.take m ++ [a ^^^ d0, b ^^^ d1, c ^^^ d2, d ^^^ d3] ++ P.drop (m + 4) ∧ a ∈ P ∧ b ∈ P ∧ c ∈ P ∧ d ∈ P := by
  refine ⟨P[m], P[m + 1], P[m + 2], P[m + 3], ?_, ?_, List.getElem_mem _, List.getElem_mem _, List.getElem_mem _, List.getElem_mem _⟩
  · have e1 : P.drop m = P[m] :: P[m + 1] :: P[m + 2] :: P[m + 3] :: P.drop (m + 4) := by
      rw [List.drop_eq_getElem_cons (by omega), List.drop_eq_getElem_cons (by omega), List.drop_eq_getElem_cons (by omega), List.drop_eq_getElem_cons (by omega)]
    have := (List.take_append_drop m P).symm
    rw [e1] at this
    simp at this ⊢
  · apply List.ext_getElem
    · simp [burst]
      omega
    · intro i h1 h2
      rw [burst_len] at h1
      simp only [burst, List.getElem_mapIdx]
      by_cases h3 : i < m
      · rw [if_neg (by omega), List.getElem_append_left (by simp; omega), List.getElem_append_left (by simp; omega), List.getElem_take]
      · by_cases h4 : i < m + 4
        · rw [if_pos (by omega), List.getElem_append_left (by simp; omega), List.getElem_append_right (by simp; omega)]
          obtain ⟨j, rfl⟩ : ∃ j, i = m + j := ⟨i - m, by omega⟩
          have hj : j = 0 ∨ j = 1 ∨ j = 2 ∨ j = 3 := by omega
          have ht : (P.take m).length = m := by simp; omega
          rcases hj with rfl | rfl | rfl | rfl <;> simp [ht]
        · rw [if_neg (by omega), List.getElem_append_right (by simp; omega)]
          simp only [List.length_append, List.length_take, List.length_cons, List.length_nil, List.getElem_drop]
          congr 1
          omega
theorem eq4 (a b c d : Int) (w : World) : (Op.equalIn 10000 31 (.agg #[.int .u8 a, .int .u8 b, .int .u8 c, .int .u8 d]) (.agg #[.int .u8 0, .int .u8 0, .int .u8 0, .int .u8 0])).run Try.prog w = .ok (a == 0 && b == 0 && c == 0 && d == 0) w := by
  have u3 := Try.underlying5
  have a3 := Try.isAgg5
  have z3 := Try.sizeOf5
  rw [show (10000 : Nat) = 9999 + 1 from rfl, Op.equalIn]
  simp only [Sem.run_bind, run_underlying Try.underlying31, Result.andThen_ok]
  simp only [Std.Legacy.Range.forIn_eq_forIn_range', Std.Legacy.Range.size, Nat.sub_zero, Nat.add_sub_cancel, Nat.div_one, List.range'_succ, List.range'_zero, List.forIn_cons, List.forIn_nil]
  go_simp
  by_cases h1 : a = 0 <;> by_cases h2 : b = 0 <;> by_cases h3 : c = 0 <;> by_cases h4 : d = 0 <;> simp [h1, h2, h3, h4]
theorem conv_burst (l : List Nat) (n cap b : Nat) (hl : l.length = n) (hlt : ∀ c ∈ l, c < 256) : ∃ t : ByteArray, t.size = n ∧ nums t = l ∧ ∀ (w : World) (pad : List Value), Bytes w b l pad →
    (convert 33 9 (.slice (some ⟨b, 0, none⟩) n cap)).run Try.prog w = .ok (.string t) w := by
  refine ⟨strOfNums (l.map fun c : Nat => (c : Int)), by rw [strOfNums_size]; simpa using hl, ?_, fun w pad hb => ?_⟩
  · simp only [nums, strOfNums_data, List.map_map]
    refine (List.map_congr_left (g := id) fun c hc => ?_).trans (by simp)
    have := hlt c hc
    simp
    omega
  · refine run_convert_bytes_arg w _ 5 Try.underlying33 Try.underlying5 b 0 n cap _ (by simp; exact hl) (fun i hi => ?_) _ Try.underlying9
    rw [Nat.zero_add, hb.cell i (by omega)]
    simp [hl, hi]
theorem burst_lt (P : List Nat) (d : List Nat) (m k : Nat) (hP : ∀ c ∈ P, c < 256) (hd : ∀ c ∈ d, c < 256) : ∀ c ∈ burst P d m k, c < 256 := by
  intro c hc
  obtain ⟨i, hi, rfl⟩ := List.getElem_of_mem hc
  rw [burst_len] at hi
  simp only [burst, List.getElem_mapIdx]
  split
  · refine Nat.xor_lt_two_pow (n := 8) (hP _ (List.getElem_mem _)) ?_
    rw [List.getD_eq_getElem?_getD]
    cases h : d[i - m]? with
    | none => simp
    | some y => exact hd y (List.mem_of_getElem? h)
  · exact hP _ (List.getElem_mem _)
/-- the law: the sums are as before just where nothing turned -/
theorem burst_tells (P : List Nat) (d0 d1 d2 d3 m : Nat) (h : m + 4 ≤ P.length) (hP : ∀ c ∈ P, c < 256) (e0 : d0 < 256) (e1 : d1 < 256) (e2 : d2 < 256) (e3 : d3 < 256) :
    Crc.crc (burst P [d0, d1, d2, d3] m 4) = Crc.crc P ↔ d0 = 0 ∧ d1 = 0 ∧ d2 = 0 ∧ d3 = 0 := by
  obtain ⟨a, b, c, d, hp, hb, ha, hbb, hc, hd⟩ := burst_four P d0 d1 d2 d3 m h
  have ht : ∀ c ∈ P.take m, c < 256 := fun c hc => hP c (List.mem_of_mem_take hc)
  have x0 := Nat.xor_lt_two_pow (n := 8) (hP a ha) e0
  have x1 := Nat.xor_lt_two_pow (n := 8) (hP b hbb) e1
  have x2 := Nat.xor_lt_two_pow (n := 8) (hP c hc) e2
  have x3 := Nat.xor_lt_two_pow (n := 8) (hP d hd) e3
  have z : ∀ x y : Nat, x ^^^ y = x → y = 0 := fun x y hxy => by
    have := congrArg (x ^^^ ·) hxy
    simpa [← Nat.xor_assoc] using this
  constructor
  · intro hcr
    rw [hb] at hcr
    have hcr2 := hcr.trans (congrArg Crc.crc hp)
    obtain ⟨q0, q1, q2, q3⟩ := Crc.crc_burst _ _ _ _ _ _ _ _ _ _ ht x0 x1 x2 x3 (hP a ha) (hP b hbb) (hP c hc) (hP d hd) hcr2
    exact ⟨z _ _ q0, z _ _ q1, z _ _ q2, z _ _ q3⟩
  · rintro ⟨rfl, rfl, rfl, rfl⟩
    rw [hb]
    simp only [Nat.xor_zero]
    exact (congrArg Crc.crc hp).symm
set_option maxRecDepth 20000 in
set_option maxHeartbeats 1600000 in
theorem crcBurst_main (s : ByteArray) (c : Int) (d0 d1 d2 d3 : Nat) (w : World) (hn : 4 ≤ s.size) (hs : s.size ≤ 4096) (e0 : d0 < 256) (e1 : d1 < 256) (e2 : d2 < 256) (e3 : d3 < 256) :
    Calls Try.prog 5 #[.string s, .int .i64 c, .agg #[.int .u8 d0, .int .u8 d1, .int .u8 d2, .int .u8 d3]] w fun e w' => e = .returned (.bool true) ∧ Below w.heap.size w w' := by
  have f1 : decide ((s.size : Int) < 4) = false := decide_eq_false (by omega)
  have f2 : decide ((4096 : Int) < (s.size : Int)) = false := decide_eq_false (by omega)
  obtain ⟨m, hm, hmn⟩ : ∃ m : Nat, wrap64 ((IntKind.u64.wrap c).tmod ((s.size : Int) - 3)) = (m : Int) ∧ m + 4 ≤ s.size := by
    obtain ⟨m, hm, hmn⟩ := mod_upto c (s.size - 4) (by omega)
    refine ⟨m, ?_, by omega⟩
    rw [← hm, show (s.size : Int) - 3 = ((s.size - 4 : Nat) : Int) + 1 by omega]
  have hcv := fun w : World => Lib.run_convert_string_bytes (P := Try.prog) w 9 33 5 s Try.underlying9 Try.underlying33 Try.underlying5
  obtain ⟨bw, hbw⟩ : ∃ bw : World → World, ∀ w, Lib.bytesWorld w 5 s = bw w := ⟨_, fun _ => rfl⟩
  simp only [hbw] at hcv
  go_enter Try.func5, Try.ntmps5
  go_wp2_with (go_at_call 15; refine (awake _).mono ?_; rintro e w0 ⟨rfl, ho⟩)
  rw [hm]
  obtain ⟨pad, hb0⟩ := bytes_made w0 s
  have hbsz := Lib.bytesWorld_size w0 5 s
  have hbold := Lib.bytesWorld_at_old w0 5 s
  have hboff : Off [] w0 (Lib.bytesWorld w0 5 s) := ⟨rfl, rfl, rfl, by omega, fun k hk _ => hbold k hk⟩
  rw [hbw] at hb0 hboff
  have hd0 : Blk (bw w0) w.heap.size (bytesArr [d0, d1, d2, d3]) 31 := hboff.blk (ho.blk (blk_new w _ _) (by simp)) (by simp)
  have hoff0 : Off [] w (bw w0) := (((Off.refl [] w).alloc _).trans ho (by simp)).trans hboff (by simp)
  have hsep : w.heap.size < w0.heap.size := by have := ho.size; simp at this; omega
  have H0 := Lib.hid (And.intro hb0 (And.intro hd0 hoff0))
  clear hcv hbw hb0 hboff hd0 hoff0 hbsz hbold hm
  generalize w0.heap.size = nb at *
  have hcap := grownCap w0 s.size 0 5
  generalize grownCap w0 s.size 0 5 = cap at *
  generalize bw w0 = wb at *
  go_loopw [9] (fun vi wr => ∃ k : Nat, k ≤ 4 ∧ vi = .int .i64 k ∧ Bytes wr nb (burst (nums s) [d0, d1, d2, d3] m k) pad ∧ Blk wr w.heap.size (bytesArr [d0, d1, d2, d3]) 31 ∧ Off [] w wr) (fun vi _ => 4 - (intOf vi).toNat)
  case atStart => exact ⟨0, by omega, rfl, by rw [burst_zero]; exact H0.out.1, H0.out.2.1, H0.out.2.2⟩
  case round =>
    obtain ⟨k, hk, rfl, hB, hD, hof⟩ := hrel
    by_cases hlt : k < 4
    · have hlen : m + k < (nums s).length := by rw [nums_length]; omega
      have hmk : m + k < s.size := by omega
      have hcb := hB.cell (m + k) (by rw [burst_len]; exact hlen)
      rw [burst_get _ _ _ _ hlen] at hcb
      have hfb := hB.free (m + k) (by rw [burst_len]; exact hlen)
      have hcd := hD.cell k _ (bytesArr_get [d0, d1, d2, d3] k hlt)
      have hst := burst_step (nums s) [d0, d1, d2, d3] m k
      rw [show (nums s).getD (m + k) 0 = (nums s)[m + k] by simp [hlen], show [d0, d1, d2, d3].getD k 0 = [d0, d1, d2, d3][k] by simp [hlt]] at hst
      have hv1 : (nums s)[m + k] < 256 := nums_lt s _ (List.getElem_mem _)
      have hv2 : [d0, d1, d2, d3][k] < 256 := by
        have : k = 0 ∨ k = 1 ∨ k = 2 ∨ k = 3 := by omega
        rcases this with rfl | rfl | rfl | rfl <;> assumption
      have HS := Lib.hid hst
      have HB := Lib.hid hB
      have HD := Lib.hid hD
      clear hst hB hD H0
      generalize (nums s)[m + k] = x at *
      generalize [d0, d1, d2, d3][k] = y at *
      have hx := u8_xor_nat x y hv1 hv2
      go_wp2
      go_region
      go_wp2
      go_roundw
      case rel =>
        refine ⟨k + 1, by omega, by go_num, ?_, ?_, ?_⟩
        · rw [← HS.out]
          exact (HB.out.set (m + k) (x ^^^ y) (by rw [burst_len]; exact hlen)).drew
        · exact (HD.out.other _ _ (by simp; omega)).drew
        · exact (hof.setCell _ _ (.inr (by simp; omega))).drew
      case measure => simp [intOf]; omega
    · obtain rfl : k = 4 := by omega
      have hbl := burst_lt (nums s) [d0, d1, d2, d3] m 4 (nums_lt s) (by simp; omega)
      obtain ⟨t, htz, htn, hconv⟩ := conv_burst (burst (nums s) [d0, d1, d2, d3] m 4) s.size cap nb (by rw [burst_len, nums_length]) hbl
      have hcv := hconv _ _ hB
      have q0 := hD.cell 0 (.int .u8 (d0 : Nat)) rfl
      have q1 := hD.cell 1 (.int .u8 (d1 : Nat)) rfl
      have q2 := hD.cell 2 (.int .u8 (d2 : Nat)) rfl
      have q3 := hD.cell 3 (.int .u8 (d3 : Nat)) rfl
      have htz2 : t.size ≤ 140737488351232 := by omega
      have hsz2 : s.size ≤ 140737488351232 := by omega
      have hlaw := Lib.hid (burst_tells (nums s) d0 d1 d2 d3 m (by rw [nums_length]; omega) (nums_lt s) e0 e1 e2 e3)
      rw [← htn] at hlaw
      have HD := Lib.hid hD
      have heq := eq4 d0 d1 d2 d3
      clear hconv hB hD htn hbl
      go_wp2
      go_region_held3 (fun w' => w'.cell? ⟨w.heap.size, 0, none⟩ = some (.int .u8 (d0 : Nat)) ∧ w'.cell? ⟨w.heap.size, 1, none⟩ = some (.int .u8 (d1 : Nat)) ∧ w'.cell? ⟨w.heap.size, 2, none⟩ = some (.int .u8 (d2 : Nat)) ∧ w'.cell? ⟨w.heap.size, 3, none⟩ = some (.int .u8 (d3 : Nat)))
        (first
          | (refine ⟨?_, ?_, ?_, ?_⟩ <;> (refine Blk.cell (cs := bytesArr [d0, d1, d2, d3]) (t := 31) ?_ _ _ rfl) <;> (repeat (first | exact HD.out | with_reducible apply Blk.alloc | with_reducible apply Blk.drew))))
        (first
          | (go_at_call 16; (with_reducible refine (of_blk ?_ _ _ ?_ ?_).mono ?_); rotate_left; (focus ((try with_reducible apply Blk.drew); (repeat (first | (with_reducible refine blk_new' _ _ _ _ ?_; simp; done) | with_reducible apply Blk.alloc)); done)); (focus assumption); rintro e w' ⟨rfl, rfl⟩))
      all_goals
        go_wp2
        go_ret
        refine ⟨ret_bool ?_, ?_⟩
        · have hl := hlaw.out
          rw [beq_iff_eq, Bool.eq_iff_iff]
          simp only [beq_iff_eq, Bool.and_eq_true]
          omega
        · exact Off.to_below ((hof.alloc _).alloc _).drew
set_option maxRecDepth 20000 in
theorem crcBurst (s : ByteArray) (c : Int) (d0 d1 d2 d3 : Nat) (w : World) (_ws : s.size ≤ 140737488351232) (_wc : (Lit.int .i64 c).wf = true) (e : d0 < 256 ∧ d1 < 256 ∧ d2 < 256 ∧ d3 < 256) :
    Calls Try.prog 5 #[.string s, .int .i64 c, .agg #[.int .u8 d0, .int .u8 d1, .int .u8 d2, .int .u8 d3]] w fun e w' => e = .returned (.bool true) ∧ Below w.heap.size w w' := by
  by_cases h1 : 4 ≤ s.size
  · by_cases h2 : s.size ≤ 4096
    · exact crcBurst_main s c d0 d1 d2 d3 w h1 h2 e.1 e.2.1 e.2.2.1 e.2.2.2
    · have f1 : decide ((s.size : Int) < 4) = false := decide_eq_false (by omega)
      have f2 : decide ((4096 : Int) < (s.size : Int)) = true := decide_eq_true (by omega)
      go_enter Try.func5, Try.ntmps5
      go_wp2_with (go_at_call 15; refine (awake _).mono ?_; rintro e w0 ⟨rfl, ho⟩)
      go_ret
      exact ⟨rfl, (((Off.refl [] w).alloc _).trans ho (by simp)).to_below⟩
  · have f1 : decide ((s.size : Int) < 4) = true := decide_eq_true (by omega)
    go_enter Try.func5, Try.ntmps5
    go_wp2_with (go_at_call 15; refine (awake _).mono ?_; rintro e w0 ⟨rfl, ho⟩)
    go_ret
    exact ⟨rfl, (((Off.refl [] w).alloc _).trans ho (by simp)).to_below⟩
end Go.Proofs.Ytpofjeenednjcaa.CrcF
