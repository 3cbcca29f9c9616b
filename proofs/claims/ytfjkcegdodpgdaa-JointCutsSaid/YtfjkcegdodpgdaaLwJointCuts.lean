/- However bytes are cut, the same frames are told: the walk of the statement. -/
import Derived.Test.YtfjkcegdodpgdaaProg
import Derived.Below
import Derived.WalkKit
import Derived.KernelRfl
import Derived.RowKit3
import Derived.Deep.LoopGhost
import Derived.Deep.QuietTactic
import Derived.BigQuiet
import Derived.WideLaws
import Derived.Deep.DeepCutAuto
import Derived.Deep.CutBlock
import Derived.Lib.Hide
import Derived.Laws.BitsLemmas
import Derived.Laws.Bits64
import Derived.Laws.BitsAllLaws
import Derived.IntWalk
import Derived.Outline
import Derived.WalkSpells
import Derived.Test.YtfjkcegdodpgdaaMem
import Derived.Test.YtfjkcegdodpgdaaJoM
namespace Go.Proofs.Ytfjkcegdodpgdaa.Jo
open Go.RowKit Go.Proofs.Ytfjkcegdodpgdaa.Mem Go.Proofs.Ytfjkcegdodpgdaa.Pk Go.Proofs.Ytfjkcegdodpgdaa.Fr

theorem owns_zero {w : World} {base : Nat} {e : TypeId} {sz : Nat} {v : Value} {n : Nat} {xs : List Value} (h : w.ownsRow base e sz v n xs) : w.ownsRow 0 e sz v n xs := by
  refine ⟨h.1, ?_⟩
  rcases h.2 with h2 | ⟨g, cap, cur, hv, _, r⟩
  · exact .inl h2
  · exact .inr ⟨g, cap, cur, hv, Nat.zero_le _, r⟩
structure CMem (w : World) (b b1 : Nat) (st one : JSt) (vg vw : Value) (got want : List ByteArray) (wr : World) : Prop where
  j : JAt wr b st
  one : JAt wr b1 one
  got : wr.ownsRow 0 9 1 vg got.length (got.map .string)
  want : wr.ownsRow 0 9 1 vw want.length (want.map .string)
  sep : Sep wr [vg.ownBlock.toList, [b], vw.ownBlock.toList, [b1], List.range w.heap.size]
  off : Off [] w wr
section
variable {w : World} {b b1 : Nat} {st one : JSt} {vg vw : Value} {got want : List ByteArray} {wr : World}
theorem CMem.toJ (h : CMem w b b1 st one vg vw got want wr) {w' : World} {st' : JSt} (hj : JAt w' b st') (hf : Off [b] wr w') : CMem w b b1 st' one vg vw got want w' :=
  ⟨hj, hf.blk h.one (h.sep.apart 3 1 (by decide) rfl rfl b1 (by simp)), owns_off h.got hf (h.sep.apart 0 1 (by decide) rfl rfl), owns_off h.want hf (h.sep.apart 2 1 (by decide) rfl rfl),
    h.sep.mono hf.size, h.off.fresh hf (h.sep.above 1 4 (by decide) rfl rfl)⟩
theorem CMem.toGot (h : CMem w b b1 st one vg vw got want wr) {w' : World} {v' : Value} {got' : List ByteArray} (ho : w'.ownsRow 0 9 1 v' got'.length (got'.map .string)) (hg : Goes wr vg v') (hgr : wr.grownBy w' vg.ownBlock) : CMem w b b1 st one v' vw got' want w' :=
  ⟨(off_grown hgr).blk h.j (h.sep.apart 1 0 (by decide) rfl rfl b (by simp)), (off_grown hgr).blk h.one (h.sep.apart 3 0 (by decide) rfl rfl b1 (by simp)), ho, owns_off h.want (off_grown hgr) (h.sep.apart 2 0 (by decide) rfl rfl),
    h.sep.step (pre := []) (Grow.own hg) hgr.size (owns_lt ho), h.off.fresh (off_grown hgr) (h.sep.above 0 4 (by decide) rfl rfl)⟩
theorem flat_strs : ∀ (l : List ByteArray), (l.map fun b => [Value.string b]).flatten = l.map .string
  | [] => rfl
  | x :: l => by
    have := flat_strs l
    simp only [List.map_cons, List.flatten_cons, this]
    rfl
theorem rows_strs {w : World} {base : Nat} {v : Value} {l : List ByteArray} (h : w.ownsRow base 9 1 v l.length (l.map .string)) : RowsAt w v 1 (l.map fun b => [Value.string b]) := by
  refine rows_owns (base := base) (e := 9) (n := l.length) ?_ (by simp) (by simp)
  rwa [flat_strs]
theorem feed_zero0 : feedV zero ⟨#[]⟩ = (zero, [], true) := by
  have h : cutV (⟨#[]⟩ ++ ⟨#[]⟩) = ([], ⟨#[]⟩, 2) := by rw [nil_append]; rfl
  unfold feedV zero
  dsimp only
  rw [h]
  rfl
end
set_option maxHeartbeats 3200000 in
theorem cuts_main (s : ByteArray) (a : Option Addr) (len cap : Nat) (zs : List Int) (w : World) (h : IntsAt .i64 w a len cap zs) (hs : s.size ≤ 2048) (hl : len ≤ 40) :
    Calls Try.prog 5 #[.string s, .slice a len cap] w fun e w' => e = .returned (.bool true) ∧ Below w.heap.size w w' := by
  obtain ⟨i0, hi, hh⟩ := Option.map_eq_some_iff.1 info_string
  simp only [Prod.mk.injEq] at hh
  obtain ⟨hr, hn, hwf⟩ := h.reads
  generalize zs.take len = ns at *
  subst hn
  clear h hwf
  have d1 : decide ((2048 : Int) < (s.size : Int)) = false := decide_eq_false (by omega)
  have d2 : decide ((40 : Int) < (ns.length : Int)) = false := decide_eq_false (by omega)
  have HR := Lib.hid hr
  clear hr
  have kS := Lib.hid (fun b w' h => jFeed b zero s w' h (by decide) (by omega) (by decide))
  have hzs := feed_size zero s
  have hok := feed_ok zero s
  obtain ⟨q, hq⟩ : ∃ q, feedV zero s = q := ⟨_, rfl⟩
  rw [hq] at kS hzs hok
  obtain ⟨one, want, ok⟩ := q
  dsimp only at kS hzs hok
  have hz1 : want.length ≤ 2048 := Nat.le_trans hzs.2.2 (by show 0 + s.size ≤ _; omega)
  have HQ := Lib.hid hq
  clear hq hzs
  go_enter Try.func5, Try.ntmps5
  go_wp2_with (first
    | (go_at_call 17; refine (awake _).mono ?_; rintro e w1 ⟨rfl, ho1⟩)
    | (go_at_call 18; (with_reducible refine (jNew w1).mono ?_); rintro e w2 ⟨b1, rfl, hb1, hj2, ho2⟩)
    | (go_at_call 19; (with_reducible refine (kS.out b1 w2 hj2).mono ?_); rintro e w3 ⟨vw, rfl, hj3, ho3, hown3⟩; obtain ⟨aw, cw, rfl⟩ := own_form hown3)
    | (go_at_call 18; (with_reducible refine (jNew w3).mono ?_); rintro e w4 ⟨b, rfl, hb, hj4, ho4⟩))
  have hM : CMem w b b1 zero one (.slice (some ⟨w4.heap.size, 0, none⟩) 0 0) (.slice aw want.length cw) [] want (w4.alloc (.cells #[] 9)) := by
    have e1 := Blk.lt hj2
    have e3 := Blk.lt hj3
    have e4 := Blk.lt hj4
    have s1 := ho1.size
    have s2 := ho2.size
    have s3 := ho3.size
    have s4 := ho4.size
    have hr3 : ∀ k ∈ (Value.slice aw want.length cw).ownBlock.toList, w2.heap.size ≤ k ∧ k < w3.heap.size := fun k hk => hown3.lt k (by simpa using hk)
    have t0 := Sep.old w w1 s1
    have t1 := t0.push (w' := w2) (F := [b1]) (by omega) (by intro k hk; simp at hk; omega)
    have t2 := t1.push (w' := w3) (F := (Value.slice aw want.length cw).ownBlock.toList) (by omega) hr3
    have t3 := t2.push (w' := w4) (F := [b]) (by omega) (by intro k hk; simp at hk; omega)
    have t4 := t3.push (w' := w4.alloc (.cells #[] 9)) (F := (Value.slice (some ⟨w4.heap.size, 0, none⟩) 0 0).ownBlock.toList) (by simp) (by simp [Value.ownBlock])
    exact ⟨Blk.alloc hj4 _, Blk.alloc (ho4.blk hj3 (by simp)) _, own_made _ _ rfl _ _, (owns_off (owns_zero hown3) ho4 (by simp)).alloc _, t4, ((((ho1.trans ho2 (by simp)).fresh ho3 (by simp; omega)).trans ho4 (by simp)).alloc _)⟩
  have HM := Lib.hid hM
  clear hM hj2 hj3 hj4 ho1 ho2 ho3 ho4 hown3 hb hb1 kS
  generalize w4.heap.size = n4 at *
  go_loopw [9, 10, 11] (fun vg vs vi wr => ∃ (k : Nat) (p r : ByteArray) (got : List ByteArray) (st : JSt), k ≤ ns.length ∧ vi = .int .i64 k ∧ vs = .string r ∧ Hid (p ++ r = s) ∧ r.size ≤ 2048 ∧ Hid ((feedV zero p).1 = st ∧ (feedV zero p).2.1 = got) ∧ CMem w b b1 st one vg (.slice aw want.length cw) got want wr) (fun _ _ vi _ => ns.length - (intOf vi).toNat)
  case atStart => exact ⟨0, ⟨#[]⟩, s, [], zero, Nat.zero_le _, rfl, rfl, Lib.hid (nil_append s), hs, Lib.hid (by rw [feed_zero0]; exact ⟨rfl, rfl⟩), HM.out⟩
  case round =>
    obtain ⟨k, p, r, got, st, hk, rfl, rfl, hpr, hrz, hfd, hM⟩ := hrel
    clear HM
    obtain ⟨ag, cg, rfl⟩ := own_form hM.got
    have hps : p.size + r.size = s.size := by rw [← hpr.out, ByteArray.size_append]
    have hfz := feed_size zero p
    rw [hfd.out.1, hfd.out.2] at hfz
    have hz2 : st.left.size ≤ 2048 := Nat.le_trans hfz.1 (by show 0 + p.size ≤ _; omega)
    have hz3 : st.seen ≤ 5000 := Nat.le_trans hfz.2.1 (by show 0 + (0 + p.size) ≤ _; omega)
    have hz4 : got.length ≤ 2048 := Nat.le_trans hfz.2.2 (by show 0 + p.size ≤ _; omega)
    clear hfz
    by_cases hlt : k < ns.length
    · obtain ⟨x, rfl, hx⟩ : ∃ x, a = some x ∧ wr.cell? (x.add k) = some (.int .i64 ns[k]) := by
        rcases HR.out with ⟨_, h0⟩ | ⟨x, c, hx, hc⟩
        · have := congrArg List.length h0
          rw [List.length_map] at this
          simp only [List.length_nil] at this
          omega
        · injection hx with hx _ _
          subst hx
          have h1 := hc k (by rw [List.length_map]; exact hlt)
          rw [List.getElem_map] at h1
          exact ⟨x, rfl, (hM.off.cell (lt_of_cell h1) (by simp)).trans h1⟩
      generalize ns[k] = c at *
      obtain ⟨m, hm, hmn⟩ := mod_upto c r.size (by omega)
      have hz5 : (r.extract 0 m).size = m := by rw [ByteArray.size_extract]; omega
      have hz6 : (r.extract m r.size).size = r.size - m := by rw [ByteArray.size_extract]; omega
      have hsp : r.extract 0 m ++ r.extract m r.size = r := by
        rw [ByteArray.extract_append_extract, Nat.min_eq_left (Nat.zero_le _), Nat.max_eq_right (by omega)]
        simp
      have kF := jFeed b st (r.extract 0 m) wr hM.j (by omega) (by omega) (by omega)
      have hadd := feed_add zero p (r.extract 0 m)
      rw [hfd.out.1, hfd.out.2] at hadd
      have hfl := (feed_size st (r.extract 0 m)).2.2
      generalize feedV st (r.extract 0 m) = q at *
      obtain ⟨st2, l2, ok2⟩ := q
      dsimp only at kF hadd hfl
      have HADD := Lib.hid hadd
      have HM := Lib.hid hM
      have HSP := Lib.hid hsp
      have b1' : (m : Int) ≤ (r.size : Int) := by omega
      clear hadd hM hsp
      go_wp2_with (first
        | (go_at_call 19; refine kF.mono ?_; rintro e w5 ⟨v5, rfl, hj5, ho5, hown5⟩; obtain ⟨a5, c5, rfl⟩ := own_form hown5; have hM5 := HM.out.toJ hj5 ho5)
        | (at_builtin; go_loud (refine wpList_append_rows _ rfl (.tmp 62) (.tmp 63) 39 rfl 0 9 i0 _ 1 16 Try.underlying39 hi hh.1 hh.2.1 hh.2.2 rfl (by decide) (.slice ag got.length cg) _ _ rfl hM5.got _ (l2.map fun b => [Value.string b]) rfl (rows_strs hown5) (by simp) (by simp; intro u hu; rfl) (by unfold maxLen; simp; omega) (by simp; omega) (Nat.zero_le _) ?_; intro v6 w6 hown6 hgrow6 hgo6; rw [List.length_map, flat_strs, ← List.map_append, ← List.length_append] at hown6; have hM6 := hM5.toGot hown6 hgo6 hgrow6)))
      go_roundw
      case rel => exact ⟨k + 1, p ++ r.extract 0 m, r.extract m r.size, got ++ l2, st2, by omega, by go_num, rfl, Lib.hid (by rw [ByteArray.append_assoc, HSP.out]; exact hpr.out), by omega, Lib.hid HADD.out, hM6⟩
      case measure => simp [intOf] <;> omega
    · obtain rfl : k = ns.length := by omega
      have kF := jFeed b st r wr hM.j (by omega) (by omega) (by omega)
      have hadd := feed_add zero p r
      rw [hfd.out.1, hfd.out.2, hpr.out, HQ.out] at hadd
      have hfl := (feed_size st r).2.2
      generalize feedV st r = q at *
      obtain ⟨st2, l2, ok2⟩ := q
      dsimp only at kF hadd hfl
      obtain ⟨rfl, hw⟩ := hadd
      have HW := Lib.hid hw
      have HM := Lib.hid hM
      clear hw hM HQ hfd
      cases hob : one.bad
      all_goals
        rw [hob] at hok
        subst hok
        go_wp2_with (first
          | (go_at_call 19; refine kF.mono ?_; rintro e w5 ⟨v5, rfl, hj5, ho5, hown5⟩; obtain ⟨a5, c5, rfl⟩ := own_form hown5; have hM5 := HM.out.toJ hj5 ho5)
          | (at_builtin; go_loud (refine wpList_append_rows _ rfl (.tmp 74) (.tmp 75) 39 rfl 0 9 i0 _ 1 16 Try.underlying39 hi hh.1 hh.2.1 hh.2.2 rfl (by decide) (.slice ag got.length cg) _ _ rfl hM5.got _ (l2.map fun b => [Value.string b]) rfl (rows_strs hown5) (by simp) (by simp; intro u hu; rfl) (by unfold maxLen; simp; omega) (by simp; omega) (Nat.zero_le _) ?_; intro v6 w6 hown6 hgrow6 hgo6; rw [List.length_map, flat_strs, ← List.map_append, ← List.length_append, ← HW.out] at hown6; have hM6 := hM5.toGot hown6 hgo6 hgrow6; obtain ⟨a6, c6, rfl⟩ := own_form hown6))
          | (go_at_call 20; refine (same _ _ want want w6 (reads_owns hM6.got) (reads_owns hM6.want) (by omega)).mono ?_; rintro e w7 ⟨rfl, ho7⟩; rw [decide_eq_true (show want = want from rfl)]; have hj7 : JAt w7 b one := ho7.blk hM6.j (by simp); have hk7 : JAt w7 b1 one := ho7.blk hM6.one (by simp))
          | (go_at_call 21; (with_reducible refine (jBad b _ w7 hj7).mono ?_); rintro e w' ⟨rfl, rfl⟩)
          | (go_at_call 22; (with_reducible refine (jLeft b _ w7 hj7).mono ?_); rintro e w' ⟨rfl, rfl⟩)
          | (go_at_call 23; (with_reducible refine (jSeen b _ w7 hj7).mono ?_); rintro e w' ⟨rfl, rfl⟩)
          | (go_at_call 22; (with_reducible refine (jLeft b1 _ w7 hk7).mono ?_); rintro e w' ⟨rfl, rfl⟩)
          | (go_at_call 23; (with_reducible refine (jSeen b1 _ w7 hk7).mono ?_); rintro e w' ⟨rfl, rfl⟩))
        go_ret
        exact ⟨rfl, (hM6.off.trans ho7 (by simp)).to_below⟩
theorem jointCuts (s : ByteArray) (a : Option Addr) (len cap : Nat) (zs : List Int) (w : World) (_ : s.size ≤ 140737488351232) (h : IntsAt .i64 w a len cap zs) :
    Calls Try.prog 5 #[.string s, .slice a len cap] w fun e w' => e = .returned (.bool true) ∧ Below w.heap.size w w' := by
  by_cases hs : s.size ≤ 2048
  · by_cases hl : len ≤ 40
    · exact cuts_main s a len cap zs w h hs hl
    · have d1 : decide ((2048 : Int) < (s.size : Int)) = false := decide_eq_false (by omega)
      have d2 : decide ((40 : Int) < (len : Int)) = true := decide_eq_true (by omega)
      clear h
      go_enter Try.func5, Try.ntmps5
      go_wp2_with (go_at_call 17; refine (awake _).mono ?_; rintro e w1 ⟨rfl, ho1⟩)
      go_ret
      exact ⟨rfl, ho1.to_below⟩
  · have d1 : decide ((2048 : Int) < (s.size : Int)) = true := decide_eq_true (by omega)
    clear h
    go_enter Try.func5, Try.ntmps5
    go_wp2_with (go_at_call 17; refine (awake _).mono ?_; rintro e w1 ⟨rfl, ho1⟩)
    go_ret
    exact ⟨rfl, ho1.to_below⟩
end Go.Proofs.Ytfjkcegdodpgdaa.Jo
