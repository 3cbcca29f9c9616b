/- Frames come through byte by byte: the walk of the statement. -/
import Derived.Test.YtfjkcegdodpgdaaProg
import Derived.Below
import Derived.WalkKit
import Derived.KernelRfl
import Derived.RowKit3
import Derived.Deep.LoopGhost
import Derived.Deep.QuietTactic
import Derived.BigQuiet
import Derived.WideLaws
import Derived.Deep.DeepCutAuto
import Derived.Deep.CutBlock
import Derived.Lib.Hide
import Derived.Laws.BitsLemmas
import Derived.Laws.Bits64
import Derived.Laws.BitsAllLaws
import Derived.IntWalk
import Derived.Outline
import Derived.WalkSpells
import Derived.Test.YtfjkcegdodpgdaaMem
import Derived.Test.YtfjkcegdodpgdaaJoM
import Derived.Test.YtfjkcegdodpgdaaMemS
namespace Go.Proofs.Ytfjkcegdodpgdaa.Jo
open Go.RowKit Go.Proofs.Ytfjkcegdodpgdaa.Mem Go.Proofs.Ytfjkcegdodpgdaa.Pk Go.Proofs.Ytfjkcegdodpgdaa.Fr

theorem next_cut (s : ByteArray) (h : 1 ≤ s.size ∧ s.size ≤ 2048) (k : Nat) (hk : k < s.size + 6) : nextV ((str (frm (nums s))).extract 0 k) = (⟨#[]⟩, 0, 2) := by
  rw [extract_str, List.drop_zero]
  exact next_take (nums s) (nums_lt s) (by rw [nums_length]; exact h.1) (by rw [nums_length]; exact h.2) k (by rw [nums_length]; exact hk)
theorem cut_own (s : ByteArray) (h : 1 ≤ s.size ∧ s.size ≤ 2048) : cutV (str (frm (nums s))) = ([s], ⟨#[]⟩, 2) := by
  have hc := cut_frm (nums s) [] (nums_lt s) (by simp) (by rw [nums_length]; exact h.1) (by rw [nums_length]; exact h.2)
  have h0 : cutV (str []) = ([], ⟨#[]⟩, 2) := rfl
  rw [List.append_nil, str_nums, h0] at hc
  exact hc
theorem extract_step (S : ByteArray) (k : Nat) : S.extract 0 k ++ S.extract k (k + 1) = S.extract 0 (k + 1) := by
  rw [ByteArray.extract_append_extract, Nat.min_eq_left (Nat.zero_le _), Nat.max_eq_right (by omega)]
/-- one byte more -/
theorem feed_byte (s : ByteArray) (h : 1 ≤ s.size ∧ s.size ≤ 2048) (n k : Nat) (_hk : k < s.size + 6) :
    feedV ⟨(str (frm (nums s))).extract 0 k, false, n⟩ ((str (frm (nums s))).extract k (k + 1)) =
      if k + 1 = s.size + 6 then (⟨⟨#[]⟩, false, n + 1⟩, [s], true) else (⟨(str (frm (nums s))).extract 0 (k + 1), false, n⟩, [], true) := by
  have hz := ofV_size s
  have he := extract_step (str (frm (nums s))) k
  unfold feedV
  dsimp only
  rw [he, if_neg (show ¬ (false = true) by decide)]
  by_cases hl : k + 1 = s.size + 6
  · have hf : (str (frm (nums s))).extract 0 (k + 1) = str (frm (nums s)) := by rw [hl, ← hz]; simp
    rw [if_pos hl, hf, cut_own s h]
    rfl
  · have hn := next_cut s h (k + 1) (by omega)
    have hc : cutV ((str (frm (nums s))).extract 0 (k + 1)) = ([], (str (frm (nums s))).extract 0 (k + 1), 2) := by rw [cutV_no _ (by rw [hn]; decide), hn]
    rw [if_neg hl, hc]
    rfl
theorem feed_zz (n : Nat) (c : ByteArray) : feedV ⟨⟨#[]⟩, false, n⟩ (⟨#[0, 0]⟩ ++ c) = (⟨⟨#[]⟩, true, n⟩, [], false) := by
  have hn := next_ext ⟨#[0, 0]⟩ c (by rw [next_00]; decide)
  rw [next_00] at hn
  have hc : cutV (⟨#[]⟩ ++ (⟨#[0, 0]⟩ ++ c)) = ([], ⟨#[0, 0]⟩ ++ c, 3) := by rw [nil_append, cutV_no _ (by rw [hn]; decide), hn]
  unfold feedV
  dsimp only
  rw [hc]
  rfl
set_option maxRecDepth 20000 in
set_option maxHeartbeats 6400000 in
theorem bytes_main (a : Option Addr) (len cap : Nat) (bs : List ByteArray) (bad : ByteArray) (w : World) (h : StrsIn w a len cap bs) (hl : len ≤ 8) (hb : bad.size ≤ 300) :
    Calls Try.prog 6 #[.slice a len cap, .string bad] w fun e w' => e = .returned (.bool true) ∧ Below w.heap.size w w' := by
  obtain ⟨rfl, _⟩ := id h
  have d1 : decide ((8 : Int) < (bs.length : Int)) = false := decide_eq_false (by omega)
  have d2 : decide ((300 : Int) < (bad.size : Int)) = false := decide_eq_false (by omega)
  have HC := Lib.hid h.cells
  clear h
  go_enter Try.func6, Try.ntmps6
  go_wp2_with (first
    | (go_at_call 17; refine (awake _).mono ?_; rintro e w1 ⟨rfl, ho1⟩)
    | (go_at_call 18; (with_reducible refine (jNew w1).mono ?_); rintro e w2 ⟨b, rfl, hb2, hj2, ho2⟩))
  have H0 := Lib.hid (And.intro hj2 (ho1.trans ho2 (by simp)))
  have hwb : w.heap.size ≤ b := Nat.le_trans ho1.size hb2
  clear hj2 ho1 ho2 hb2
  go_loopw [6, 7] (fun vn vi wr => ∃ (k n : Nat), k ≤ bs.length ∧ n ≤ k ∧ vi = .int .i64 k ∧ vn = .int .i64 n ∧ JAt wr b ⟨⟨#[]⟩, false, n⟩ ∧ Off [] w wr) (fun _ vi _ => bs.length - (intOf vi).toNat)
  case atStart => exact ⟨0, 0, Nat.zero_le _, Nat.le_refl _, rfl, rfl, H0.out.1, H0.out.2⟩
  case round =>
    obtain ⟨k, n, hk, hnk, rfl, rfl, hj, hof⟩ := hrel
    clear H0
    by_cases hlt : k < bs.length
    · obtain ⟨x, rfl, hx0⟩ := HC.out k hlt
      have hx : wr.cell? (x.add k) = some (.string bs[k]) := (hof.cell (lt_of_cell hx0) (by simp)).trans hx0
      have hxw := lt_of_cell hx0
      rw [add_block] at hxw
      clear hx0
      generalize bs[k] = s at *
      have kf := Lib.hid (fun w' => frameOf s w')
      by_cases hs : 1 ≤ s.size ∧ s.size ≤ 2048
      · rw [ofV_yes s hs] at kf
        have hz := ofV_size s
        have hfb := Lib.hid (fun n kk hk => feed_byte s hs n kk hk)
        have he0 : (str (frm (nums s))).extract 0 0 = ⟨#[]⟩ := by simp; rfl
        obtain ⟨z, hzz⟩ : ∃ z, s.size + 6 = z := ⟨_, rfl⟩
        rw [hzz] at hz hfb
        have hz7 : 7 ≤ z ∧ z ≤ 3000 := by omega
        clear hzz
        generalize str (frm (nums s)) = S at *
        go_wp2_with (go_at_call 12; refine (kf.out _).mono ?_; rintro e w3 ⟨rfl, ho3⟩; have hj3 : JAt w3 b _ := ho3.blk hj (by simp))
        have hof3 := hof.trans ho3 (by simp)
        have hx3 : w3.cell? (x.add k) = some (.string s) := (ho3.cell (lt_of_cell hx) (by simp)).trans hx
        have H3 := Lib.hid (And.intro hj3 (And.intro hof3 hx3))
        clear hj3 hof3 hx3 hx hj hof ho3
        go_loopw [6, 10] (fun vn vk wq => ∃ (kk : Nat), kk ≤ z ∧ vk = .int .i64 kk ∧ ((kk < z ∧ vn = .int .i64 n ∧ JAt wq b ⟨S.extract 0 kk, false, n⟩) ∨ (kk = z ∧ vn = .int .i64 ((n + 1 : Nat) : Int) ∧ JAt wq b ⟨⟨#[]⟩, false, n + 1⟩)) ∧ Off [b] w3 wq) (fun _ vk _ => z - (intOf vk).toNat)
        case atStart => exact ⟨0, Nat.zero_le _, rfl, .inl ⟨by omega, rfl, by rw [he0]; exact H3.out.1⟩, Off.refl _ _⟩
        case round =>
          obtain ⟨kk, hkk, rfl, hst, hof4⟩ := hrel
          have hx4 : wr.cell? (x.add k) = some (.string s) := (hof4.cell (lt_of_cell H3.out.2.2) (by rw [add_block]; simp; omega)).trans H3.out.2.2
          by_cases hk1 : kk < z
          · obtain ⟨rfl, hj4⟩ : u6 = .int .i64 n ∧ JAt wr b ⟨S.extract 0 kk, false, n⟩ := by
              rcases hst with ⟨_, h1, h2⟩ | ⟨h1, _⟩
              · exact ⟨h1, h2⟩
              · omega
            clear hst
            have kF := jFeed b ⟨S.extract 0 kk, false, n⟩ (S.extract kk (kk + 1)) wr hj4 (by dsimp only; rw [ByteArray.size_extract]; omega) (by rw [ByteArray.size_extract]; omega) (by dsimp only; omega)
            rw [hfb.out n kk hk1] at kF
            have b1 : (kk : Int) ≤ (z : Int) := by omega
            have b2 : (kk : Int) + 1 ≤ (z : Int) := by omega
            have b3 : (k : Int) < (bs.length : Int) := by omega
            have hq := beq_yes (show s = s from rfl)
            by_cases hlast : kk + 1 = z
            · rw [if_pos hlast] at kF
              dsimp only at kF
              have e1 : (z : Int) - 1 = (kk : Int) := by omega
              have e2 : IntKind.i64.wrap (kk : Int) = (kk : Int) := IntWalk.i64_in _ (by omega)
              have HLA := Lib.hid hlast
              clear hlast
              go_wp2_with (go_at_call 19; refine kF.mono ?_; rintro e w5 ⟨v5, rfl, hj5, ho5, hown5⟩; obtain ⟨a5, c5, rfl, hg5⟩ := cell_own hown5; obtain ⟨y5, rfl, hy5, hcy⟩ := hg5 0 Nat.one_pos; have hcy5 := cell_keep (b := y5.block + 1) (v := .string s) hcy (Off.refl _ _) (by omega); have hx5 : w5.cell? (x.add k) = some (.string s) := (ho5.cell (lt_of_cell hx4) (by rw [add_block]; simp; omega)).trans hx4)
              go_quiet (fail)
              go_wp2
              go_roundw
              case rel => exact ⟨kk + 1, by omega, by go_num, .inr ⟨HLA.out, by go_num, Blk.drewN hj5 _⟩, (hof4.trans ho5 (by simp)).drewN _⟩
              case measure => simp [intOf] <;> omega
            · rw [if_neg hlast] at kF
              dsimp only at kF
              obtain ⟨zm, e1, e3⟩ : ∃ zm : Nat, (z : Int) - 1 = (zm : Int) ∧ Hid (zm = z - 1) := ⟨z - 1, by omega, Lib.hid rfl⟩
              have e2 : IntKind.i64.wrap (zm : Int) = (zm : Int) := IntWalk.i64_in _ (by omega)
              have e4 : ((kk : Int) == (zm : Int)) = false := by rw [beq_eq_false_iff_ne]; have := e3.out; omega
              have hlt5 : kk + 1 < z := by omega
              have HLA := Lib.hid hlt5
              clear hlast hlt5
              go_wp2_with (go_at_call 19; refine kF.mono ?_; rintro e w5 ⟨v5, rfl, hj5, ho5, hown5⟩; obtain ⟨a5, c5, rfl, _⟩ := cell_own hown5)
              go_quiet (fail)
              go_wp2
              go_roundw
              case rel => exact ⟨kk + 1, by omega, by go_num, .inl ⟨HLA.out, by go_num, Blk.drewN hj5 _⟩, (hof4.trans ho5 (by simp)).drewN _⟩
              case measure => simp [intOf] <;> omega
          · obtain rfl : kk = z := by omega
            obtain ⟨rfl, hj4⟩ : u6 = .int .i64 ((n + 1 : Nat) : Int) ∧ JAt wr b ⟨⟨#[]⟩, false, n + 1⟩ := by
              rcases hst with ⟨h1, _⟩ | ⟨_, h1, h2⟩
              · omega
              · exact ⟨h1, h2⟩
            clear hst
            go_wp2
            go_roundw
            case rel => exact ⟨k + 1, n + 1, by omega, by omega, by go_num, rfl, hj4, H3.out.2.1.fresh hof4 (by simpa using hwb)⟩
            case measure => simp [intOf] <;> omega
      · rw [ofV_no s hs] at kf
        go_wp2_with (go_at_call 12; refine (kf.out _).mono ?_; rintro e w3 ⟨rfl, ho3⟩; have hj3 : JAt w3 b _ := ho3.blk hj (by simp))
        have hof3 := hof.trans ho3 (by simp)
        have H3 := Lib.hid (And.intro hj3 hof3)
        clear hj3 hof3 hx hj hof ho3
        go_loopw [6, 10] (fun vn vk wq => vn = .int .i64 n ∧ vk = .int .i64 0 ∧ wq = w3) (fun _ vk _ => 0)
        case atStart => exact ⟨rfl, rfl, rfl⟩
        case round =>
          obtain ⟨rfl, rfl, rfl⟩ := hrel
          go_wp2
          go_roundw
          case rel => exact ⟨k + 1, n, by omega, by omega, by go_num, rfl, H3.out.1, H3.out.2⟩
          case measure => simp [intOf] <;> omega
    · obtain rfl : k = bs.length := by omega
      have kS := jSeen b _ wr hj
      have kZ := jFeed b ⟨⟨#[]⟩, false, n⟩ (⟨#[0, 0]⟩ ++ bad) wr hj (Nat.zero_le _) (by rw [ByteArray.size_append]; show 2 + bad.size ≤ _; omega) (by dsimp only; omega)
      rw [feed_zz] at kZ
      have hz0 : (⟨#[0, 0]⟩ : ByteArray).size + bad.size ≤ 9223372036854775807 := by show 2 + bad.size ≤ _; omega
      dsimp only at kS kZ
      go_wp2_with (first
        | (go_at_call 23; (with_reducible refine kS.mono ?_); rintro e w' ⟨rfl, rfl⟩)
        | (go_at_call 19; (with_reducible refine kZ.mono ?_); rintro e w5 ⟨v5, rfl, hj5, ho5, hown5⟩; obtain ⟨a5, c5, rfl, _⟩ := cell_own hown5; have kB := jFeed_bad b _ bad w5 hj5 rfl; have kS5 := jSeen b _ w5 hj5)
        | (go_at_call 19; (with_reducible refine kB.mono ?_); rintro e w' ⟨rfl, rfl⟩)
        | (go_at_call 23; (with_reducible refine kS5.mono ?_); rintro e w' ⟨rfl, rfl⟩))
      go_ret
      exact ⟨rfl, (hof.fresh ho5 (by simpa using hwb)).to_below⟩
theorem jointBytes (a : Option Addr) (len cap : Nat) (bs : List ByteArray) (bad : ByteArray) (w : World) (h : StrsIn w a len cap bs) (_ : bad.size ≤ 140737488351232) :
    Calls Try.prog 6 #[.slice a len cap, .string bad] w fun e w' => e = .returned (.bool true) ∧ Below w.heap.size w w' := by
  by_cases hl : len ≤ 8
  · by_cases hb : bad.size ≤ 300
    · exact bytes_main a len cap bs bad w h hl hb
    · have d1 : decide ((8 : Int) < (len : Int)) = false := decide_eq_false (by omega)
      have d2 : decide ((300 : Int) < (bad.size : Int)) = true := decide_eq_true (by omega)
      clear h
      go_enter Try.func6, Try.ntmps6
      go_wp2_with (go_at_call 17; refine (awake _).mono ?_; rintro e w1 ⟨rfl, ho1⟩)
      go_ret
      exact ⟨rfl, ho1.to_below⟩
  · have d1 : decide ((8 : Int) < (len : Int)) = true := decide_eq_true (by omega)
    clear h
    go_enter Try.func6, Try.ntmps6
    go_wp2_with (go_at_call 17; refine (awake _).mono ?_; rintro e w1 ⟨rfl, ho1⟩)
    go_ret
    exact ⟨rfl, ho1.to_below⟩
end Go.Proofs.Ytfjkcegdodpgdaa.Jo
