/- However a text is cut the sum is the same: the walk of the statement. -/
import Derived.Test.YtpofjeenednjcaaProg
import Derived.Below
import Derived.WalkKit
import Derived.KernelRfl
import Derived.RowKit3
import Derived.Deep.LoopGhost
import Derived.Deep.QuietTactic
import Derived.BigQuiet
import Derived.WideLaws
import Derived.Deep.DeepCutAuto
import Derived.Deep.CutBlock
import Derived.Lib.Hide
import Derived.Laws.BitsLemmas
import Derived.Laws.Bits64
import Derived.Laws.BitsAllLaws
import Derived.IntWalk
import Derived.Outline
import Derived.Test.YtpofjeenednjcaaMem
import Derived.Test.YtpofjeenednjcaaLwCrcJoins
import Derived.OwnWalk
namespace Go.Proofs.Ytpofjeenednjcaa.CrcF
open Go.RowKit Go.Proofs.Ytpofjeenednjcaa Go.Proofs.Ytpofjeenednjcaa.Mem

theorem info_str : (Try.prog.info? 9).map (fun i => (i.zero, i.size, i.bytes)) = some (some (.string ⟨#[]⟩), 1, 16) := by kernel_rfl
theorem nums_extract0 (s : ByteArray) (m : Nat) : nums (s.extract 0 m) = (nums s).take m := by
  simp [nums, ByteArray.data_extract]
theorem nums_extract1 (s : ByteArray) (m : Nat) : nums (s.extract m s.size) = (nums s).drop m := by
  have : s.data.toList.length = s.size := by simp
  simp only [nums, ByteArray.data_extract, Array.toList_extract, List.extract_eq_take_drop]
  rw [List.take_of_length_le (by simp)]
  simp
theorem flat_snoc (ps : List ByteArray) (t : ByteArray) : flat (ps ++ [t]) = flat ps ++ nums t := by rw [flat_append]; simp [flat]
theorem more_f (ps : List ByteArray) (t : ByteArray) (l : List Nat) (hl : l = flat ps ++ nums t) (ht : t.size ≤ 140737488351232) (w : World) :
    Calls Try.prog 18 #[.int .u32 ((Crc.crc (flat ps) : Nat) : Int), .string t] w fun e w' => e = .returned (.int .u32 ((Crc.crc l : Nat) : Int)) ∧ w = w' := by
  rw [hl, ← Crc.more_crc]
  exact more _ t (Crc.crc_lt _ (flat_lt ps)) ht w
theorem join_f (ps : List ByteArray) (t : ByteArray) (l : List Nat) (m : Nat) (hl : l = flat ps ++ nums t) (hm : t.size = m) (ht : t.size ≤ 140737488351232) (w : World) :
    Calls Try.prog 20 #[.int .u32 ((Crc.crc (flat ps) : Nat) : Int), .int .u32 ((Crc.crc (nums t) : Nat) : Int), .int .i64 (m : Nat)] w fun e w' => e = .returned (.int .u32 ((Crc.crc l : Nat) : Int)) ∧ w = w' := by
  subst hm
  rw [hl]
  have h := join (flat ps) (nums t) (flat_lt ps) (nums_lt t) (by rw [nums_length]; exact ht) w
  rw [nums_length] at h
  exact h
theorem of_parts (v : Value) (ps : List ByteArray) (t : ByteArray) (l : List Nat) (hl : l = flat ps ++ nums t) (hn : ps.length ≤ 20) (hs : ∀ s ∈ ps, s.size ≤ 4096) (ht : t.size ≤ 4096) (w : World) (h : Reads w v (ps.map .string ++ [.string t])) :
    Calls Try.prog 16 #[v] w fun e w' => e = .returned (.int .u32 ((Crc.crc l : Nat) : Int)) ∧ w = w' := by
  rw [hl, ← flat_snoc]
  refine of_reads v (ps ++ [t]) (by simp; omega) ?_ w (by simpa using h)
  intro s hs'
  simp at hs'
  rcases hs' with h1 | rfl
  · have := hs s h1; omega
  · omega
set_option maxHeartbeats 800000 in
theorem crcSplits_main (s : ByteArray) (zs : List Int) (a : Option Addr) (len cap : Nat) (w : World) (hs : s.size ≤ 4096) (hl : len ≤ 20) (h : IntsAt .i64 w a len cap zs) :
    Calls Try.prog 6 #[.string s, .slice a len cap] w fun e w' => e = .returned (.bool true) ∧ Below w.heap.size w w' := by
  obtain ⟨i0, hi, hz0, hz1, hz2⟩ := info_parts info_str
  have hd1 : decide (4096 < s.size) = false := decide_eq_false (by omega)
  have hd2 : decide (20 < len) = false := decide_eq_false (by omega)
  go_enter Try.func6, Try.ntmps6
  go_wp2_with (go_at_call 15; refine (awake _).mono ?_; rintro e w0 ⟨rfl, ho⟩)
  go_loopw [5, 6, 7, 8, 9] (fun vs vj vp vr vi wr => ∃ (k : Nat) (ps : List ByteArray) (rest : ByteArray), k ≤ len ∧ ps.length = k ∧ vs = .int .u32 ((Crc.crc (flat ps) : Nat) : Int) ∧ vj = .int .u32 ((Crc.crc (flat ps) : Nat) : Int) ∧ vr = .string rest ∧ vi = .int .i64 k ∧
      Hid (nums s = flat ps ++ nums rest) ∧ rest.size ≤ s.size ∧ (∀ p ∈ ps, p.size ≤ s.size) ∧ wr.ownsRow w.heap.size 9 1 vp ps.length (ps.map Value.string) ∧ Below w.heap.size w wr)
    (fun _ _ _ _ vi _ => len - (intOf vi).toNat)
  case atStart => exact ⟨0, [], s, Nat.zero_le _, rfl, rfl, rfl, rfl, rfl, Lib.hid (by simp [flat]), Nat.le_refl _, by simp, World.ownsRow_made _ #[] 0 ho.size (by unfold maxLen; omega) (by simp), (ho.alloc _).to_below⟩
  case round =>
    obtain ⟨k, ps, rest, hk, hpl, rfl, rfl, rfl, rfl, HN, hrs, hps, hown, hbel⟩ := hrel
    by_cases hlt : k < len
    · obtain ⟨x, c, rfl, hc⟩ : ∃ x c, a = some x ∧ wr.cell? (x.add k) = some (.int .i64 c) := by
        rcases h with ⟨_, rfl, _⟩ | ⟨x, rfl, h1, _, h3, h4, _⟩
        · omega
        · have h5 := h4 k (by omega)
          exact ⟨x, _, rfl, by rw [hbel.cell (lt_of_cell h5)]; exact h5⟩
      obtain ⟨m, hm, hmr⟩ := mod_upto c rest.size (by omega)
      go_wp2_with (first
        | (at_builtin; go_loud (refine wpList_append_own _ rfl (.tmp 40) (.tmp 44) 36 rfl w.heap.size 9 i0 (.string ⟨#[]⟩) 1 16 Try.underlying36 hi hz0 hz1 hz2 rfl (by decide) _ _ _ rfl (hown.alloc _) ⟨wr.heap.size, 0, none⟩ 1 1 [_] rfl rfl (new1 _ _ _) (by intro u hu; simp at hu; subst hu; rfl) (by unfold maxLen; omega) (by omega) (by have := hbel.size; simp; omega) ?_; intro vp' w1 hown' hgrow _))
        | fail)
      have hp1 := hps
      obtain ⟨t, ht⟩ : ∃ t, t = rest.extract 0 m := ⟨_, rfl⟩
      have hts : t.size = m := by rw [ht]; simp [ByteArray.size_extract]; omega
      have hb1 : Below w.heap.size w w1 := below_append hbel hbel.size hown hgrow
      have hnt : nums s = flat (ps ++ [t]) ++ nums (rest.extract m rest.size) := by
        rw [HN.out, flat_snoc, ht, nums_extract0, nums_extract1, List.append_assoc, List.take_append_drop]
      have HNt := Lib.hid hnt
      have hfl := Lib.hid (flat_snoc ps t)
      clear hnt
      rw [← ht] at hown'
      clear hgrow hown hbel
      rw [← ht]
      have Ht : rest.extract 0 m = t := ht.symm
      clear ht
      have hrs' : (rest.extract m rest.size).size ≤ s.size := by simp [ByteArray.size_extract]; omega
      have htz : t.size ≤ 140737488351232 := by omega
      go_wp2_with (first
        | (go_at_call 18; refine (more_f ps t _ hfl.out htz _).mono ?_; rintro e w' ⟨rfl, rfl⟩)
        | (go_at_call 16; refine (of_new1 t htz _ _ (by simp)).mono ?_; rintro e w' ⟨rfl, rfl⟩)
        | (go_at_call 20; refine (join_f ps t _ m hfl.out hts htz _).mono ?_; rintro e w' ⟨rfl, rfl⟩))
      go_roundw
      case rel =>
        refine ⟨k + 1, ps ++ [t], _, by omega, by simp; exact hpl, rfl, rfl, rfl, by go_num, HNt, hrs', ?_, ?_, hb1.alloc hb1.size _⟩
        · intro p hp
          simp at hp
          rcases hp with hp | rfl
          · exact hp1 p hp
          · omega
        · have := hown'.alloc (.cells #[.string t] 9)
          simpa using this
      case measure => simp [intOf]; omega
    · obtain rfl : k = len := by omega
      have hrz : rest.size ≤ 140737488351232 := by omega
      go_wp2_with (first
        | (at_builtin; go_loud (refine wpList_append_own _ rfl (.tmp 62) (.tmp 64) 36 rfl w.heap.size 9 i0 (.string ⟨#[]⟩) 1 16 Try.underlying36 hi hz0 hz1 hz2 rfl (by decide) _ _ _ rfl (hown.alloc _) ⟨wr.heap.size, 0, none⟩ 1 1 [_] rfl rfl (new1 _ _ _) (by intro u hu; simp at hu; subst hu; rfl) (by unfold maxLen; omega) (by omega) (by have := hbel.size; simp; omega) ?_; intro vp' w1 hown' hgrow _))
        | fail)
      have hb1 : Below w.heap.size w w1 := below_append hbel hbel.size hown hgrow
      clear hgrow hown hbel
      have hpl' : ps.length ≤ 20 := by omega
      have hrz' : rest.size ≤ 4096 := by omega
      have hps' := Lib.hid (show ∀ p ∈ ps, p.size ≤ 4096 from fun p hp => by have := hps p hp; omega)
      have hsz : s.size ≤ 140737488351232 := by omega
      go_wp2_with (first
        | (go_at_call 18; refine (more_f ps rest _ HN.out hrz _).mono ?_; rintro e w' ⟨rfl, rfl⟩)
        | (go_at_call 16; first | ((with_reducible refine (of_new1 rest hrz _ _ (by simp)).mono ?_); rintro e w' ⟨rfl, rfl⟩) | ((with_reducible refine (of_new1 s hsz _ _ (by simp)).mono ?_); rintro e w' ⟨rfl, rfl⟩) | (refine (of_parts vp' ps rest _ HN.out hpl' hps'.out hrz' _ (reads_owns (by repeat (first | exact hown' | apply World.ownsRow.alloc)))).mono ?_; rintro e w' ⟨rfl, rfl⟩))
        | (go_at_call 20; refine (join_f ps rest _ _ HN.out rfl hrz _).mono ?_; rintro e w' ⟨rfl, rfl⟩))
      go_ret
      exact ⟨rfl, (((hb1.alloc hb1.size _).alloc (by have := hb1.size; simp; omega) _).alloc (by have := hb1.size; simp; omega) _).alloc (by have := hb1.size; simp; omega) _⟩
theorem crcSplits_walk (s : ByteArray) (a : Option Addr) (len cap : Nat) (zs : List Int) (w : World) (_ws : s.size ≤ 140737488351232) (h : IntsAt .i64 w a len cap zs) :
    Calls Try.prog 6 #[.string s, .slice a len cap] w fun e w' => e = .returned (.bool true) ∧ Below w.heap.size w w' := by
  by_cases hs : s.size ≤ 4096
  · by_cases hl : len ≤ 20
    · exact crcSplits_main s zs a len cap w hs hl h
    · have hd : decide (20 < len) = true := decide_eq_true (by omega)
      go_enter Try.func6, Try.ntmps6
      go_wp2_with (go_at_call 15; refine (awake _).mono ?_; rintro e w' ⟨rfl, ho⟩)
      go_ret
      exact ⟨rfl, ho.to_below⟩
  · have hd : decide (4096 < s.size) = true := decide_eq_true (by omega)
    go_enter Try.func6, Try.ntmps6
    go_wp2_with (go_at_call 15; refine (awake _).mono ?_; rintro e w' ⟨rfl, ho⟩)
    go_ret
    exact ⟨rfl, ho.to_below⟩
end Go.Proofs.Ytpofjeenednjcaa.CrcF
