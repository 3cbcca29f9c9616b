/- Layer 10: plain laws: nothing is new twice. -/
import Derived.Test.YtfhhfmkfkoemjaaProg
import Derived.Below
import Derived.WalkKit
import Derived.KernelRfl
import Derived.RowKit3
import Derived.Deep.LoopGhost
import Derived.Deep.QuietTactic
import Derived.BigQuiet
import Derived.WideLaws
import Derived.Deep.DeepCutAuto
import Derived.Deep.CutBlock
import Derived.Lib.Hide
import Derived.Laws.BitsLemmas
import Derived.Laws.Bits64
import Derived.Laws.BitsAllLaws
import Derived.IntWalk
import Derived.Outline
import Derived.WalkSpells
import Derived.Test.YtfhhfmkfkoemjaaMem
import Derived.Test.YtfhhfmkfkoemjaaKyP
namespace Go.Proofs.Ytfhhfmkfkoemjaa.Se6
open Go.RowKit Go.Proofs.Ytfhhfmkfkoemjaa.Mem Go.Proofs.Ytfhhfmkfkoemjaa.Reg Go.Proofs.Ytfhhfmkfkoemjaa.Pk Go.Proofs.Ytfhhfmkfkoemjaa.Si
set_option linter.unusedVariables false
set_option linter.unusedSimpArgs false
theorem mk_bad {c : Cfg} (h : (checkV c != 0) = true) : mkC c = ⟨0, 0, 0, 0, 0, 0, 0, 0, 0, 0, 0, 0, 0, 0, 0, 0, 0, 0⟩ ∧ mkR c = 0 := by unfold mkC mkR; rw [if_pos h, if_pos h]; exact ⟨rfl, rfl⟩
theorem mk_good {c : Cfg} (h : (checkV c != 0) = false) : mkC c = c ∧ mkR c = c.keys := by unfold mkC mkR; rw [if_neg (by rw [h]; decide), if_neg (by rw [h]; decide)]; exact ⟨rfl, rfl⟩
theorem zero_bad : (checkV ⟨0, 0, 0, 0, 0, 0, 0, 0, 0, 0, 0, 0, 0, 0, 0, 0, 0, 0⟩ != 0) = true := by decide
theorem mk_room {c : Cfg} (h : (checkV (mkC c) != 0) = false) : mkR c = (mkC c).keys := by
  rcases Bool.eq_false_or_eq_true (checkV c != 0) with q | q
  · rw [(mk_bad q).1, zero_bad] at h
    cases h
  · rw [(mk_good q).1, (mk_good q).2]
theorem keys_pos {c : Cfg} (h : (checkV c != 0) = false) : 1 ≤ c.keys := by
  have h1 : cfgOk c = true := by
    cases hc : cfgOk c with
    | true => rfl
    | false => rw [checkV_bad hc] at h; exact absurd h (by decide)
  unfold cfgOk at h1
  simp at h1
  omega
theorem mkR_nonneg (c : Cfg) : (0 : Int) ≤ mkR c := by
  rcases Bool.eq_false_or_eq_true (checkV c != 0) with q | q
  · rw [(mk_bad q).2]; exact Int.le_refl _
  · rw [(mk_good q).2]; have := keys_pos q; omega
/-- what was kept: as long as it counts, it is there -/
def JOnce (c : Cfg) (ps : List PairV) (ds : List ActK) (now : Int) : Prop := ∀ d ∈ ds, (1 ≤ d.who ∧ d.who ≤ 1073741824 ∧ 0 ≤ d.key ∧ d.key ≤ 18446744073709551615) ∧
  (keepB c now (nameV d.who d.key, ⟨d.key / 4294967296, d.body, d.body ++ (⟨#[33]⟩ : ByteArray)⟩) = true → (nameV d.who d.key, (⟨d.key / 4294967296, d.body, d.body ++ (⟨#[33]⟩ : ByteArray)⟩ : EntryV)) ∈ ps)
theorem keepB_mono {c : Cfg} {now nw : Int} {p : PairV} (h : now ≤ nw) (hk : keepB c nw p = true) : keepB c now p = true := by
  unfold keepB at *
  simp at *
  omega
theorem once_same {c : Cfg} {ps : List PairV} {ds : List ActK} {now nw : Int} (hj : JOnce c ps ds now) (h : now ≤ nw) : JOnce c ps ds nw := fun d hd => ⟨(hj d hd).1, fun hk => (hj d hd).2 (keepB_mono h hk)⟩
theorem once_add {c : Cfg} {room : Int} {ps : List PairV} {ds : List ActK} {now nw : Int} {x : ActK} (hj : JOnce c ps ds now) (hs : Sorted ps) (h : now ≤ nw) (hk0 : 0 ≤ x.key) (hk1 : x.key ≤ 18446744073709551615) (hr : (checkV c != 0) = false → room = c.keys)
    (hnew : ((lookV c ps nw x.who x.key x.body).2 != 1) = false) : JOnce c (withV room (nameV x.who x.key) ⟨x.key / 4294967296, x.body, x.body ++ (⟨#[33]⟩ : ByteArray)⟩ (ps.filter (keepB c nw))).1 (ds ++ [x]) nw := by
  have hn1 : (lookV c ps nw x.who x.key x.body).2 = 1 := by simpa using hnew
  rw [with_add hr hn1]
  have ht := tick_of (bl (look_new hn1).1)
  intro d hd
  rcases List.mem_append.1 hd with hd | hd
  · refine ⟨(hj d hd).1, fun hk => mem_ins.2 (.inr (List.mem_filter.2 ⟨(hj d hd).2 (keepB_mono h hk), hk⟩))⟩
  · obtain rfl := List.mem_singleton.1 hd
    exact ⟨⟨ht.2.2.1, ht.2.2.2, hk0, hk1⟩, fun _ => mem_ins.2 (.inl rfl)⟩
theorem room_add {c : Cfg} {ps : List PairV} {nw who key : Int} {body ans : ByteArray} (hr : ((ps.length : Nat) : Int) ≤ mkR c) (hnew : ((lookV (mkC c) ps nw who key body).2 != 1) = false) :
    (((withV (mkR c) (nameV who key) ⟨key / 4294967296, body, ans⟩ (ps.filter (keepB (mkC c) nw))).1.length : Nat) : Int) ≤ mkR c := by
  have hn1 : (lookV (mkC c) ps nw who key body).2 = 1 := by simpa using hnew
  rw [with_add mk_room hn1, ins_len]
  obtain ⟨h1, h2, h3⟩ := look_new hn1
  have h4 : ¬ ((ps.filter (keepB (mkC c) nw)).length : Int) = (mkC c).keys := by simpa using h3
  have h5 := List.length_filter_le (keepB (mkC c) nw) ps
  rw [mk_room (good_of (br h1)).1] at hr ⊢
  omega
theorem done_add {ds : List ActK} {x : ActK} (h : ∀ d ∈ ds, d.body.size ≤ 40) (hx : x.body.size ≤ 40) : ∀ d ∈ ds ++ [x], d.body.size ≤ 40 := fun d hd => by
  rcases List.mem_append.1 hd with hd | hd
  · exact h d hd
  · rw [List.mem_singleton.1 hd]; exact hx
theorem isGood_mk {c : Cfg} {key now : Int} : isGoodV (mkC c) key now = isGoodV c key now := by
  rcases Bool.eq_false_or_eq_true (checkV c != 0) with q | q
  · have e1 : isGoodV (mkC c) key now = false := by
      rw [(mk_bad q).1]
      unfold isGoodV
      rw [show (checkV ⟨0, 0, 0, 0, 0, 0, 0, 0, 0, 0, 0, 0, 0, 0, 0, 0, 0, 0⟩ == 0) = false by decide]
      rfl
    have e2 : isGoodV c key now = false := by
      unfold isGoodV
      rw [neq_t q]
      rfl
    rw [e1, e2]
  · rw [(mk_good q).1]
theorem once_law {c : Cfg} {ps : List PairV} {ds : List ActK} {now nw : Int} {u x : ActK} (hu : u ∈ ds) (hj : JOnce (mkC c) ps ds now) (hs : Sorted ps) (h : now ≤ nw) (h0 : 0 ≤ nw) (h1 : nw ≤ 1073741824) (hw : (u.who != x.who) = false) (hk : (u.key != x.key) = false) :
    (((((((lookV (mkC c) ps nw x.who x.key x.body).2) == 1) || (((lookV (mkC c) ps nw x.who x.key x.body).2) == 5)) || (((isGoodV c x.key nw) && (u.body.toList == x.body.toList)) && ((((lookV (mkC c) ps nw x.who x.key x.body).2) != 2) || (!(((lookV (mkC c) ps nw x.who x.key x.body).1).toList == (u.body ++ (⟨#[33]⟩ : ByteArray)).toList))))) || (((isGoodV c x.key nw) && (!(u.body.toList == x.body.toList))) && (((lookV (mkC c) ps nw x.who x.key x.body).2) != 3))) || ((!(isGoodV c x.key nw)) && (((lookV (mkC c) ps nw x.who x.key x.body).2) != 4))) = false := by
  have ew : x.who = u.who := by simpa using (neq_f hw : (u.who == x.who) = true) |> fun e => (beq_iff_eq.1 e).symm
  have ek : x.key = u.key := (beq_iff_eq.1 (neq_f hk)).symm
  rw [ew, ek]
  obtain ⟨⟨t1, t2, t3, t4⟩, hmem⟩ := hj u hu
  have ht : isTickV nw u.who = true := by unfold isTickV; simp; omega
  rw [← isGood_mk (c := c)]
  cases hg : isGoodV (mkC c) u.key nw with
  | false =>
    rw [look_out (by rw [ht, hg]; rfl)]
    simp
  | true =>
    rw [look_in (by rw [ht, hg]; rfl)]
    have hin := hmem (keepB_mono h (keepB_new hg))
    have hg2 := get_mem (sorted_keep hs (keepB (mkC c) nw)) (List.mem_filter.2 ⟨hin, keepB_new hg⟩)
    unfold lookOn
    rw [hg2]
    cases hb : (u.body.toList == x.body.toList) with
    | true => simp [bne, hb]
    | false => simp [bne, hb]
theorem once_count {c : Cfg} {ps : List PairV} {f : PairV → Bool} (hr : ((ps.length : Nat) : Int) ≤ mkR c) : ((decide (c.keys < ((ps.filter f).length : Int))) && (((ps.filter f).length : Int) != 0)) = false := by
  have h5 := List.length_filter_le f ps
  rcases Bool.eq_false_or_eq_true (checkV c != 0) with q | q
  · rw [(mk_bad q).2] at hr
    have : (ps.filter f).length = 0 := by omega
    rw [this]
    simp
  · rw [(mk_good q).2] at hr
    have : ¬ c.keys < ((ps.filter f).length : Int) := by omega
    simp [this]
theorem once_more {c : Cfg} {ps : List PairV} {nw who key : Int} {body ans : ByteArray} (hr : ((ps.length : Nat) : Int) ≤ mkR c) (hnew : ((lookV (mkC c) ps nw who key body).2 != 1) = false) :
    ((((((withV (mkR c) (nameV who key) ⟨key / 4294967296, body, ans⟩ (ps.filter (keepB (mkC c) nw))).1).filter (keepB (mkC c) nw)).length : Int) != (((ps.filter (keepB (mkC c) nw)).length : Int) + 1)) || (decide (c.keys < ((((withV (mkR c) (nameV who key) ⟨key / 4294967296, body, ans⟩ (ps.filter (keepB (mkC c) nw))).1).filter (keepB (mkC c) nw)).length : Int)))) = false := by
  have hn1 : (lookV (mkC c) ps nw who key body).2 = 1 := by simpa using hnew
  have hl := room_add (ans := ans) hr hnew
  obtain ⟨h1, h2, h3⟩ := look_new hn1
  rw [with_add mk_room hn1] at hl ⊢
  rw [filter_add _ (br h1), ins_len]
  rw [ins_len] at hl
  have hk : mkR c = c.keys := by
    rcases Bool.eq_false_or_eq_true (checkV c != 0) with q | q
    · have := (good_of (br h1)).1
      rw [(mk_bad q).1, zero_bad] at this
      cases this
    · exact (mk_good q).2
  rw [hk] at hl
  have : ¬ c.keys < ((ps.filter (keepB (mkC c) nw)).length : Int) + 1 := by push_cast at hl; omega
  simp [this]
end Go.Proofs.Ytfhhfmkfkoemjaa.Se6
