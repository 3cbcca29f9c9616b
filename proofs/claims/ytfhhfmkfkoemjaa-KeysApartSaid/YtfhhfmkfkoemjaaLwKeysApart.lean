/- What somebody else asks changes nothing of mine: the walk. -/
import Derived.Test.YtfhhfmkfkoemjaaProg
import Derived.Below
import Derived.WalkKit
import Derived.KernelRfl
import Derived.RowKit3
import Derived.Deep.LoopGhost
import Derived.Deep.QuietTactic
import Derived.BigQuiet
import Derived.WideLaws
import Derived.Deep.DeepCutAuto
import Derived.Deep.CutBlock
import Derived.Lib.Hide
import Derived.Laws.BitsLemmas
import Derived.Laws.Bits64
import Derived.Laws.BitsAllLaws
import Derived.IntWalk
import Derived.Outline
import Derived.WalkSpells
import Derived.Test.YtfhhfmkfkoemjaaMem
import Derived.Test.YtfhhfmkfkoemjaaLwKeysAparta
namespace Go.Proofs.Ytfhhfmkfkoemjaa.Se6
open Go.RowKit Go.Proofs.Ytfhhfmkfkoemjaa.Mem Go.Proofs.Ytfhhfmkfkoemjaa.Reg Go.Proofs.Ytfhhfmkfkoemjaa.Pk Go.Proofs.Ytfhhfmkfkoemjaa.Si
set_option linter.unusedVariables false
set_option linter.unusedSimpArgs false

set_option maxHeartbeats 16000000 in
set_option maxRecDepth 20000 in
theorem apart_w (c : Cfg) (ra : Option Addr) (rc : Nat) (acts : List ActK) (u : ActK) (v : ActK) (w : World) (h1 : (rS ra rc 5 (acts.map actRow)).holds w) (hok : Hid (∀ z ∈ acts, 0 ≤ z.key ∧ z.key ≤ 18446744073709551615)) (hu0 : 0 ≤ u.key) (hu1 : u.key ≤ 18446744073709551615) (hv0 : 0 ≤ v.key) (hv1 : v.key ≤ 18446744073709551615) : Calls Try.prog 11 #[.agg (cA c), .slice ra acts.length rc, .agg #[.int .i64 u.kind, .int .i64 u.now, .int .i64 u.who, .int .u64 u.key, .string u.body], .agg #[.int .i64 v.kind, .int .i64 v.now, .int .i64 v.who, .int .u64 v.key, .string v.body]] w fun e w' => e = .returned (.bool true) ∧ Off [] w w' := by
  have H := Lib.hid (Hp.start [] w)
  have H := hp_old H h1 (by decide)
  clear h1
  replace H := hp_old H (rS_nil w 4) (by decide)
  refine calls_start Try.func11 rfl 157 rfl (by simp) (fun aa nn dd sl => ?_)
  have ss0 : aa.eval (.tmp 0) = .agg (cA c) := sl 0 (by simp)
  have ss1 : aa.eval (.tmp 1) = .slice ra acts.length rc := sl 1 (by simp)
  have ss2 : aa.eval (.tmp 2) = .agg #[.int .i64 u.kind, .int .i64 u.now, .int .i64 u.who, .int .u64 u.key, .string u.body] := sl 2 (by simp)
  have ss3 : aa.eval (.tmp 3) = .agg #[.int .i64 v.kind, .int .i64 v.now, .int .i64 v.who, .int .u64 v.key, .string v.body] := sl 3 (by simp)
  clear sl
  refine wp_seq_k fun KK1 hK1 => ?_
  refine apart_w_r0 c ra rc acts u v hu0 hu1 hv0 hv1 H aa nn ss0 ss2 ss3 ?_
  clear H nn
  intro b4 b6 b7 aa ww nn dd1 kp ss4 ss6 ss7 ss8 H
  replace ss0 := (kp 0 rfl).trans ss0
  replace ss1 := (kp 1 rfl).trans ss1
  replace ss2 := (kp 2 rfl).trans ss2
  replace ss3 := (kp 3 rfl).trans ss3
  replace dd := dd1.trans dd
  clear dd1 kp
  refine then_normal ?_
  refine hK1 _ _ ?_
  refine wp_seq_k fun KK2 hK2 => ?_
  refine wp_seq_k fun KK3 hK3 => ?_
  refine apart_w_r1 c ra rc acts u v hu0 hu1 hv0 hv1 b4 b6 b7 H aa nn  ?_
  clear H nn
  intro aa ww nn dd1 kp ss21 H
  replace ss0 := (kp 0 rfl).trans ss0
  replace ss1 := (kp 1 rfl).trans ss1
  replace ss2 := (kp 2 rfl).trans ss2
  replace ss3 := (kp 3 rfl).trans ss3
  replace ss4 := (kp 4 rfl).trans ss4
  replace ss6 := (kp 6 rfl).trans ss6
  replace ss7 := (kp 7 rfl).trans ss7
  replace ss8 := (kp 8 rfl).trans ss8
  replace dd := dd1.trans dd
  clear dd1 kp
  refine then_normal ?_
  refine hK3 _ _ ?_
  refine wp_cond_false ss21 ?_
  refine wp_skip ?_
  refine then_normal ?_
  refine hK2 _ _ ?_
  refine wp_seq_k fun KK4 hK4 => ?_
  refine wp_seq_k fun KK5 hK5 => ?_
  refine apart_w_r3 c ra rc acts u v hu0 hu1 hv0 hv1 b4 b6 b7 H aa nn ss1 ?_
  clear H nn
  intro aa ww nn dd1 kp ss24 H
  replace ss0 := (kp 0 rfl).trans ss0
  replace ss1 := (kp 1 rfl).trans ss1
  replace ss2 := (kp 2 rfl).trans ss2
  replace ss3 := (kp 3 rfl).trans ss3
  replace ss4 := (kp 4 rfl).trans ss4
  replace ss6 := (kp 6 rfl).trans ss6
  replace ss7 := (kp 7 rfl).trans ss7
  replace ss8 := (kp 8 rfl).trans ss8
  replace ss21 := (kp 21 rfl).trans ss21
  replace dd := dd1.trans dd
  clear dd1 kp
  refine then_normal ?_
  refine hK5 _ _ ?_
  refine wp_cond_split ss24 (fun z1 => ?_) (fun z1 => ?_)
  · skip
    have z1d : 60 < (acts.length : Int) := of_decide_eq_true z1
    refine wp_seq_k fun KK6 hK6 => ?_
    refine apart_w_r4 c ra rc acts u v hu0 hu1 hv0 hv1 b4 b6 b7 z1d H aa nn  ?_
    clear H nn ss8
    intro aa ww nn dd1 kp ss8 H
    replace ss0 := (kp 0 rfl).trans ss0
    replace ss1 := (kp 1 rfl).trans ss1
    replace ss2 := (kp 2 rfl).trans ss2
    replace ss3 := (kp 3 rfl).trans ss3
    replace ss4 := (kp 4 rfl).trans ss4
    replace ss6 := (kp 6 rfl).trans ss6
    replace ss7 := (kp 7 rfl).trans ss7
    replace ss21 := (kp 21 rfl).trans ss21
    replace ss24 := (kp 24 rfl).trans ss24
    replace dd := dd1.trans dd
    clear dd1 kp
    refine then_normal ?_
    refine hK6 _ _ ?_
    refine wp_ret ?_
    refine then_ret ?_
    exact ret1 rfl dd ss8 ⟨rfl, H.out.off⟩
  · skip
    have z1d : ¬ (60 < (acts.length : Int)) := of_decide_eq_false z1
    refine wp_skip ?_
    refine then_normal ?_
    refine hK4 _ _ ?_
    refine wp_seq_k fun KK7 hK7 => ?_
    refine apart_w_r5 c ra rc acts u v hu0 hu1 hv0 hv1 b4 b6 b7 z1d H aa nn ss4 ?_
    clear H nn
    intro b9 aa ww nn dd1 kp ss9 H
    replace ss0 := (kp 0 rfl).trans ss0
    replace ss1 := (kp 1 rfl).trans ss1
    replace ss2 := (kp 2 rfl).trans ss2
    replace ss3 := (kp 3 rfl).trans ss3
    replace ss4 := (kp 4 rfl).trans ss4
    replace ss6 := (kp 6 rfl).trans ss6
    replace ss7 := (kp 7 rfl).trans ss7
    replace ss8 := (kp 8 rfl).trans ss8
    replace ss21 := (kp 21 rfl).trans ss21
    replace ss24 := (kp 24 rfl).trans ss24
    replace dd := dd1.trans dd
    clear dd1 kp
    refine then_normal ?_
    refine hK7 _ _ ?_
    refine wp_seq_k fun KK8 hK8 => ?_
    refine apart_w_r6 c ra rc acts u v hu0 hu1 hv0 hv1 b4 b6 b7 z1d b9 H aa nn  ?_
    clear H nn
    intro aa ww nn dd1 kp ss10 H
    replace ss0 := (kp 0 rfl).trans ss0
    replace ss1 := (kp 1 rfl).trans ss1
    replace ss2 := (kp 2 rfl).trans ss2
    replace ss3 := (kp 3 rfl).trans ss3
    replace ss4 := (kp 4 rfl).trans ss4
    replace ss6 := (kp 6 rfl).trans ss6
    replace ss7 := (kp 7 rfl).trans ss7
    replace ss8 := (kp 8 rfl).trans ss8
    replace ss9 := (kp 9 rfl).trans ss9
    replace ss21 := (kp 21 rfl).trans ss21
    replace ss24 := (kp 24 rfl).trans ss24
    replace dd := dd1.trans dd
    clear dd1 kp
    refine then_normal ?_
    refine hK8 _ _ ?_
    refine wp_seq_k fun KK9 hK9 => ?_
    refine wp_seq_k fun KK10 hK10 => ?_
    refine apart_w_r7 c ra rc acts u v hu0 hu1 hv0 hv1 b4 b6 b7 z1d b9 H aa nn  ?_
    clear H nn
    intro aa ww nn dd1 kp ss11 H
    replace ss0 := (kp 0 rfl).trans ss0
    replace ss1 := (kp 1 rfl).trans ss1
    replace ss2 := (kp 2 rfl).trans ss2
    replace ss3 := (kp 3 rfl).trans ss3
    replace ss4 := (kp 4 rfl).trans ss4
    replace ss6 := (kp 6 rfl).trans ss6
    replace ss7 := (kp 7 rfl).trans ss7
    replace ss8 := (kp 8 rfl).trans ss8
    replace ss9 := (kp 9 rfl).trans ss9
    replace ss10 := (kp 10 rfl).trans ss10
    replace ss21 := (kp 21 rfl).trans ss21
    replace ss24 := (kp 24 rfl).trans ss24
    replace dd := dd1.trans dd
    clear dd1 kp
    refine then_normal ?_
    refine hK10 _ _ ?_
    refine wp_block ?_
    refine wp_loop (fun ab wv => ∃ i : Nat, ∃ a : Option Addr, ∃ cc : Nat, ∃ ps : List PairV, ∃ now : Int, i ≤ acts.length ∧ ps.length ≤ i ∧ Hid (Sorted ps) ∧ 0 ≤ now ∧ now ≤ 2 * i ∧ ab.tmps.size = 157 ∧ ab.defers = [] ∧ ab.eval (.tmp 0) = .agg (cA c) ∧ ab.eval (.tmp 1) = .slice ra acts.length rc ∧ ab.eval (.tmp 2) = .agg #[.int .i64 u.kind, .int .i64 u.now, .int .i64 u.who, .int .u64 u.key, .string u.body] ∧ ab.eval (.tmp 3) = .agg #[.int .i64 v.kind, .int .i64 v.now, .int .i64 v.who, .int .u64 v.key, .string v.body] ∧ ab.eval (.tmp 4) = .pointer (some ⟨b4, 0, none⟩) ∧ ab.eval (.tmp 6) = .pointer (some ⟨b6, 0, none⟩) ∧ ab.eval (.tmp 7) = .pointer (some ⟨b7, 0, none⟩) ∧ ab.eval (.tmp 9) = .pointer (some ⟨b9, 0, none⟩) ∧ ab.eval (.tmp 10) = .int .i64 now ∧ ab.eval (.tmp 11) = .int .i64 i ∧ ab.eval (.tmp 21) = .bool false ∧ ab.eval (.tmp 24) = .bool (decide (60 < (acts.length : Int))) ∧ Hid (Hp [] w wv [rB b9 84 (kL (mkC c) (mkR c) (.slice a ps.length cc)), rB b7 87 [.int .i64 v.kind, .int .i64 v.now, .int .i64 v.who, .int .u64 v.key, .string v.body], rB b6 87 [.int .i64 u.kind, .int .i64 u.now, .int .i64 u.who, .int .u64 u.key, .string u.body], rB b4 24 (cL c), rS a cc 4 (ps.map rowOf), rS ra rc 5 (acts.map actRow)])) (fun ab _ => acts.length - (intOf (ab.eval (.tmp 11))).toNat) ⟨0, none, 0, [], 0, (Nat.zero_le _), (Nat.le_refl _), (Lib.hid List.Pairwise.nil), (by omega), (by omega), nn, dd, ss0, ss1, ss2, ss3, ss4, ss6, ss7, ss9, ss10, ss11, ss21, ss24, H⟩ (fun aa wv hI => ?_)
    clear H nn dd ss0 ss1 ss2 ss3 ss4 ss6 ss7 ss8 ss9 ss10 ss11 ss21 ss24
    obtain ⟨i, a, cc, ps, now, hi, hl, hs, hn0, hn1, nn, dd, ss0, ss1, ss2, ss3, ss4, ss6, ss7, ss9, ss10, ss11, ss21, ss24, H⟩ := hI
    have mu1_11 := ss11
    refine wp_seq_k fun KK11 hK11 => ?_
    refine wp_seq_k fun KK12 hK12 => ?_
    refine apart_w_r8 c ra rc acts u v hu0 hu1 hv0 hv1 b4 b6 b7 z1d b9 i a cc ps now hi hl hn0 hn1 H aa nn ss1 ss11 ?_
    clear H nn
    intro aa ww nn dd1 kp ss30 H
    replace ss0 := (kp 0 rfl).trans ss0
    replace ss1 := (kp 1 rfl).trans ss1
    replace ss2 := (kp 2 rfl).trans ss2
    replace ss3 := (kp 3 rfl).trans ss3
    replace ss4 := (kp 4 rfl).trans ss4
    replace ss6 := (kp 6 rfl).trans ss6
    replace ss7 := (kp 7 rfl).trans ss7
    replace ss9 := (kp 9 rfl).trans ss9
    replace ss10 := (kp 10 rfl).trans ss10
    replace ss11 := (kp 11 rfl).trans ss11
    replace ss21 := (kp 21 rfl).trans ss21
    replace ss24 := (kp 24 rfl).trans ss24
    replace dd := dd1.trans dd
    clear dd1 kp
    refine then_normal ?_
    refine hK12 _ _ ?_
    refine wp_cond_split ss30 (fun z2 => ?_) (fun z2 => ?_)
    · skip
      have z2d : i < acts.length := of_decide_eq_true z2
      obtain ⟨y, rfl⟩ := some_of_row (hp_held H (show rS ra rc 5 (acts.map actRow) ∈ _ by simp)) (i := i) (by simpa using z2d)
      obtain ⟨x, hx⟩ : ∃ x, acts[i]? = some x := ⟨acts[i], List.getElem?_eq_getElem (by omega)⟩
      have HR := Lib.hid (show (acts.map actRow)[i]? = some [.int .i64 x.kind, .int .i64 x.now, .int .i64 x.who, .int .u64 x.key, .string x.body] by rw [List.getElem?_map, hx]; rfl)
      have HX := Lib.hid hx
      have hk0 : 0 ≤ x.key := (hok.out x (List.mem_of_getElem? hx)).1
      have hk1 : x.key ≤ 18446744073709551615 := (hok.out x (List.mem_of_getElem? hx)).2
      clear hx
      refine wp_skip ?_
      refine then_normal ?_
      refine hK11 _ _ ?_
      refine wp_seq_k fun KK13 hK13 => ?_
      refine wp_block ?_
      refine wp_seq_k fun KK14 hK14 => ?_
      refine wp_seq_k fun KK15 hK15 => ?_
      refine apart_w_r10 c rc acts u v hu0 hu1 hv0 hv1 b4 b6 b7 z1d b9 i a cc ps now hi hl hn0 hn1 z2d y x HR hk0 hk1 H aa nn ss1 ss11 ?_
      clear H nn
      intro aa ww nn dd1 kp ss39 H
      replace ss0 := (kp 0 rfl).trans ss0
      replace ss1 := (kp 1 rfl).trans ss1
      replace ss2 := (kp 2 rfl).trans ss2
      replace ss3 := (kp 3 rfl).trans ss3
      replace ss4 := (kp 4 rfl).trans ss4
      replace ss6 := (kp 6 rfl).trans ss6
      replace ss7 := (kp 7 rfl).trans ss7
      replace ss9 := (kp 9 rfl).trans ss9
      replace ss10 := (kp 10 rfl).trans ss10
      replace ss11 := (kp 11 rfl).trans ss11
      replace ss21 := (kp 21 rfl).trans ss21
      replace ss24 := (kp 24 rfl).trans ss24
      replace ss30 := (kp 30 rfl).trans ss30
      replace dd := dd1.trans dd
      clear dd1 kp
      refine then_normal ?_
      refine hK15 _ _ ?_
      refine wp_cond_split ss39 (fun z3 => ?_) (fun z3 => ?_)
      · skip
        have z3d : 40 < (x.body.size : Int) := of_decide_eq_true z3
        refine wp_seq_k fun KK16 hK16 => ?_
        refine apart_w_r11 c rc acts u v hu0 hu1 hv0 hv1 b4 b6 b7 z1d b9 i a cc ps now hi hl hn0 hn1 z2d y x hk0 hk1 z3d H aa nn  ?_
        clear H nn
        intro aa ww nn dd1 kp ss8 H
        replace ss0 := (kp 0 rfl).trans ss0
        replace ss1 := (kp 1 rfl).trans ss1
        replace ss2 := (kp 2 rfl).trans ss2
        replace ss3 := (kp 3 rfl).trans ss3
        replace ss4 := (kp 4 rfl).trans ss4
        replace ss6 := (kp 6 rfl).trans ss6
        replace ss7 := (kp 7 rfl).trans ss7
        replace ss9 := (kp 9 rfl).trans ss9
        replace ss10 := (kp 10 rfl).trans ss10
        replace ss11 := (kp 11 rfl).trans ss11
        replace ss21 := (kp 21 rfl).trans ss21
        replace ss24 := (kp 24 rfl).trans ss24
        replace ss30 := (kp 30 rfl).trans ss30
        replace ss39 := (kp 39 rfl).trans ss39
        replace dd := dd1.trans dd
        clear dd1 kp
        refine then_normal ?_
        refine hK16 _ _ ?_
        refine wp_ret ?_
        refine then_ret ?_
        refine block_ret ?_
        refine then_ret ?_
        refine then_ret ?_
        refine block_ret ?_
        refine then_ret ?_
        exact ret1 rfl dd ss8 ⟨rfl, H.out.off⟩
      · skip
        have z3d : ¬ (40 < (x.body.size : Int)) := of_decide_eq_false z3
        refine wp_skip ?_
        refine then_normal ?_
        refine hK14 _ _ ?_
        refine wp_seq_k fun KK17 hK17 => ?_
        obtain ⟨m, hm0, hm1⟩ := mod_upto x.now 2 (by decide)
        have hm : IntKind.i64.wrap ((IntKind.u64.wrap x.now).tmod 3) = (m : Int) := by rw [IntKind.wrap_i64]; simpa [wrap64] using hm0
        clear hm0
        refine apart_w_r12 c rc acts u v hu0 hu1 hv0 hv1 b4 b6 b7 z1d b9 i a cc ps now hi hl hn0 hn1 z2d y x HR hk0 hk1 z3d m hm1 hm H aa nn ss1 ss10 ss11 ?_
        clear H nn ss10
        intro aa ww nn dd1 kp ss10 H
        replace ss0 := (kp 0 rfl).trans ss0
        replace ss1 := (kp 1 rfl).trans ss1
        replace ss2 := (kp 2 rfl).trans ss2
        replace ss3 := (kp 3 rfl).trans ss3
        replace ss4 := (kp 4 rfl).trans ss4
        replace ss6 := (kp 6 rfl).trans ss6
        replace ss7 := (kp 7 rfl).trans ss7
        replace ss9 := (kp 9 rfl).trans ss9
        replace ss11 := (kp 11 rfl).trans ss11
        replace ss21 := (kp 21 rfl).trans ss21
        replace ss24 := (kp 24 rfl).trans ss24
        replace ss30 := (kp 30 rfl).trans ss30
        replace ss39 := (kp 39 rfl).trans ss39
        replace dd := dd1.trans dd
        clear dd1 kp
        refine then_normal ?_
        refine hK17 _ _ ?_
        refine wp_seq_k fun KK18 hK18 => ?_
        rcases Bool.eq_false_or_eq_true ((lookV (mkC c) ps (now + m) x.who x.key x.body).2 != 1) with y4 | y4
        · skip
          have y4o : ((lookV (mkC c) ps (now + m) x.who x.key x.body).2 == 1) = false := neq_t y4
          refine apart_w_r13 c rc acts u v hu0 hu1 hv0 hv1 b4 b6 b7 z1d b9 i a cc ps now hi hl hs hn0 hn1 z2d y x HR hk0 hk1 z3d m hm1 hm y4 H aa nn ss1 ss9 ss10 ss11 ?_
          clear H nn
          intro b12 aa ww nn dd1 kp ss12 ss13 H
          replace ss0 := (kp 0 rfl).trans ss0
          replace ss1 := (kp 1 rfl).trans ss1
          replace ss2 := (kp 2 rfl).trans ss2
          replace ss3 := (kp 3 rfl).trans ss3
          replace ss4 := (kp 4 rfl).trans ss4
          replace ss6 := (kp 6 rfl).trans ss6
          replace ss7 := (kp 7 rfl).trans ss7
          replace ss9 := (kp 9 rfl).trans ss9
          replace ss10 := (kp 10 rfl).trans ss10
          replace ss11 := (kp 11 rfl).trans ss11
          replace ss21 := (kp 21 rfl).trans ss21
          replace ss24 := (kp 24 rfl).trans ss24
          replace ss30 := (kp 30 rfl).trans ss30
          replace ss39 := (kp 39 rfl).trans ss39
          replace dd := dd1.trans dd
          clear dd1 kp
          refine then_normal ?_
          refine hK18 _ _ ?_
          refine wp_seq_k fun KK19 hK19 => ?_
          refine apart_w_r14 c rc acts u v hu0 hu1 hv0 hv1 b4 b6 b7 z1d b9 i a cc ps now hi hl hn0 hn1 z2d y x hk0 hk1 z3d m hm1 hm b12 H aa nn ss13 ?_
          clear H nn
          intro aa ww nn dd1 kp ss77 H
          replace ss0 := (kp 0 rfl).trans ss0
          replace ss1 := (kp 1 rfl).trans ss1
          replace ss2 := (kp 2 rfl).trans ss2
          replace ss3 := (kp 3 rfl).trans ss3
          replace ss4 := (kp 4 rfl).trans ss4
          replace ss6 := (kp 6 rfl).trans ss6
          replace ss7 := (kp 7 rfl).trans ss7
          replace ss9 := (kp 9 rfl).trans ss9
          replace ss10 := (kp 10 rfl).trans ss10
          replace ss11 := (kp 11 rfl).trans ss11
          replace ss12 := (kp 12 rfl).trans ss12
          replace ss13 := (kp 13 rfl).trans ss13
          replace ss21 := (kp 21 rfl).trans ss21
          replace ss24 := (kp 24 rfl).trans ss24
          replace ss30 := (kp 30 rfl).trans ss30
          replace ss39 := (kp 39 rfl).trans ss39
          replace dd := dd1.trans dd
          clear dd1 kp
          refine then_normal ?_
          refine hK19 _ _ ?_
          refine wp_cond_false ss77 ?_
          refine wp_skip ?_
          refine block_normal ?_
          refine then_normal ?_
          refine hK13 _ _ ?_
          refine apart_w_r9 c rc acts u v hu0 hu1 hv0 hv1 b4 b6 b7 z1d b9 i a cc ps now hi hl hn0 hn1 z2d y x hk0 hk1 z3d m hm1 hm b12 H aa nn ss11 ?_
          clear H nn ss11
          intro aa ww nn dd1 kp ss11 H
          replace ss0 := (kp 0 rfl).trans ss0
          replace ss1 := (kp 1 rfl).trans ss1
          replace ss2 := (kp 2 rfl).trans ss2
          replace ss3 := (kp 3 rfl).trans ss3
          replace ss4 := (kp 4 rfl).trans ss4
          replace ss6 := (kp 6 rfl).trans ss6
          replace ss7 := (kp 7 rfl).trans ss7
          replace ss9 := (kp 9 rfl).trans ss9
          replace ss10 := (kp 10 rfl).trans ss10
          replace ss12 := (kp 12 rfl).trans ss12
          replace ss13 := (kp 13 rfl).trans ss13
          replace ss21 := (kp 21 rfl).trans ss21
          replace ss24 := (kp 24 rfl).trans ss24
          replace ss30 := (kp 30 rfl).trans ss30
          replace ss39 := (kp 39 rfl).trans ss39
          replace ss77 := (kp 77 rfl).trans ss77
          replace dd := dd1.trans dd
          clear dd1 kp
          refine then_normal ?_
          replace H := hp_front H 6 rfl
          replace H := hp_front H 6 rfl
          replace H := hp_front H 6 rfl
          replace H := hp_front H 6 rfl
          replace H := hp_front H 6 rfl
          replace H := hp_front H 6 rfl
          refine ⟨⟨i + 1, a, cc, ps, now + m, (by omega), (by first | omega | exact few_add hl _ _ _ _ _), (by first | exact hs | exact sorted_add hs _ _ _ _ _), (by omega), (by omega), nn, dd, ss0, ss1, ss2, ss3, ss4, ss6, ss7, ss9, ss10, ss11, ss21, ss24, (hp_take H 6)⟩, ?_⟩
          simp only [mu1_11, ss11, intOf]
          omega
        · skip
          have y4o : ((lookV (mkC c) ps (now + m) x.who x.key x.body).2 == 1) = true := neq_f y4
          refine apart_w_r13x1 c rc acts u v hu0 hu1 hv0 hv1 b4 b6 b7 z1d b9 i a cc ps now hi hl hs hn0 hn1 z2d y x HR hk0 hk1 z3d m hm1 hm y4 H aa nn ss1 ss9 ss10 ss11 ?_
          clear H nn
          intro b12 a13_22 c13_22 aa ww nn dd1 kp ss12 ss13 H
          replace ss0 := (kp 0 rfl).trans ss0
          replace ss1 := (kp 1 rfl).trans ss1
          replace ss2 := (kp 2 rfl).trans ss2
          replace ss3 := (kp 3 rfl).trans ss3
          replace ss4 := (kp 4 rfl).trans ss4
          replace ss6 := (kp 6 rfl).trans ss6
          replace ss7 := (kp 7 rfl).trans ss7
          replace ss9 := (kp 9 rfl).trans ss9
          replace ss10 := (kp 10 rfl).trans ss10
          replace ss11 := (kp 11 rfl).trans ss11
          replace ss21 := (kp 21 rfl).trans ss21
          replace ss24 := (kp 24 rfl).trans ss24
          replace ss30 := (kp 30 rfl).trans ss30
          replace ss39 := (kp 39 rfl).trans ss39
          replace dd := dd1.trans dd
          clear dd1 kp
          refine then_normal ?_
          refine hK18 _ _ ?_
          refine wp_seq_k fun KK20 hK20 => ?_
          refine apart_w_r14x1 c rc acts u v hu0 hu1 hv0 hv1 b4 b6 b7 z1d b9 i a cc ps now hi hl hn0 hn1 z2d y x hk0 hk1 z3d m hm1 hm b12 a13_22 c13_22 H aa nn ss13 ?_
          clear H nn
          intro aa ww nn dd1 kp ss77 H
          replace ss0 := (kp 0 rfl).trans ss0
          replace ss1 := (kp 1 rfl).trans ss1
          replace ss2 := (kp 2 rfl).trans ss2
          replace ss3 := (kp 3 rfl).trans ss3
          replace ss4 := (kp 4 rfl).trans ss4
          replace ss6 := (kp 6 rfl).trans ss6
          replace ss7 := (kp 7 rfl).trans ss7
          replace ss9 := (kp 9 rfl).trans ss9
          replace ss10 := (kp 10 rfl).trans ss10
          replace ss11 := (kp 11 rfl).trans ss11
          replace ss12 := (kp 12 rfl).trans ss12
          replace ss13 := (kp 13 rfl).trans ss13
          replace ss21 := (kp 21 rfl).trans ss21
          replace ss24 := (kp 24 rfl).trans ss24
          replace ss30 := (kp 30 rfl).trans ss30
          replace ss39 := (kp 39 rfl).trans ss39
          replace dd := dd1.trans dd
          clear dd1 kp
          refine then_normal ?_
          refine hK20 _ _ ?_
          refine wp_cond_true ss77 ?_
          refine apart_w_r15 c rc acts u v hu0 hu1 hv0 hv1 b4 b6 b7 z1d b9 i a cc ps now hi hl hn0 hn1 z2d y x hk0 hk1 z3d m hm1 hm b12 a13_22 c13_22 H aa nn ss9 ss12 ?_
          clear H nn
          intro aa ww nn dd1 kp H
          replace ss0 := (kp 0 rfl).trans ss0
          replace ss1 := (kp 1 rfl).trans ss1
          replace ss2 := (kp 2 rfl).trans ss2
          replace ss3 := (kp 3 rfl).trans ss3
          replace ss4 := (kp 4 rfl).trans ss4
          replace ss6 := (kp 6 rfl).trans ss6
          replace ss7 := (kp 7 rfl).trans ss7
          replace ss9 := (kp 9 rfl).trans ss9
          replace ss10 := (kp 10 rfl).trans ss10
          replace ss11 := (kp 11 rfl).trans ss11
          replace ss12 := (kp 12 rfl).trans ss12
          replace ss13 := (kp 13 rfl).trans ss13
          replace ss21 := (kp 21 rfl).trans ss21
          replace ss24 := (kp 24 rfl).trans ss24
          replace ss30 := (kp 30 rfl).trans ss30
          replace ss39 := (kp 39 rfl).trans ss39
          replace ss77 := (kp 77 rfl).trans ss77
          replace dd := dd1.trans dd
          clear dd1 kp
          refine block_normal ?_
          refine then_normal ?_
          refine hK13 _ _ ?_
          refine apart_w_r9x1 c rc acts u v hu0 hu1 hv0 hv1 b4 b6 b7 z1d b9 i a cc ps now hi hl hn0 hn1 z2d y x hk0 hk1 z3d m hm1 hm b12 a13_22 c13_22 H aa nn ss11 ?_
          clear H nn ss11
          intro aa ww nn dd1 kp ss11 H
          replace ss0 := (kp 0 rfl).trans ss0
          replace ss1 := (kp 1 rfl).trans ss1
          replace ss2 := (kp 2 rfl).trans ss2
          replace ss3 := (kp 3 rfl).trans ss3
          replace ss4 := (kp 4 rfl).trans ss4
          replace ss6 := (kp 6 rfl).trans ss6
          replace ss7 := (kp 7 rfl).trans ss7
          replace ss9 := (kp 9 rfl).trans ss9
          replace ss10 := (kp 10 rfl).trans ss10
          replace ss12 := (kp 12 rfl).trans ss12
          replace ss13 := (kp 13 rfl).trans ss13
          replace ss21 := (kp 21 rfl).trans ss21
          replace ss24 := (kp 24 rfl).trans ss24
          replace ss30 := (kp 30 rfl).trans ss30
          replace ss39 := (kp 39 rfl).trans ss39
          replace ss77 := (kp 77 rfl).trans ss77
          replace dd := dd1.trans dd
          clear dd1 kp
          refine then_normal ?_
          replace H := hp_front H 7 rfl
          replace H := hp_front H 1 rfl
          replace H := hp_front H 6 rfl
          replace H := hp_front H 6 rfl
          replace H := hp_front H 6 rfl
          replace H := hp_front H 6 rfl
          refine ⟨⟨i + 1, a13_22, c13_22, (withV (mkR c) (nameV x.who x.key) ⟨x.key / 4294967296, x.body, x.body⟩ (ps.filter (keepB (mkC c) (now + m)))).1, now + m, (by omega), (by first | omega | exact few_add hl _ _ _ _ _), (by first | exact hs | exact sorted_add hs _ _ _ _ _), (by omega), (by omega), nn, dd, ss0, ss1, ss2, ss3, ss4, ss6, ss7, ss9, ss10, ss11, ss21, ss24, (hp_take H 6)⟩, ?_⟩
          simp only [mu1_11, ss11, intOf]
          omega
    · skip
      have z2d : ¬ (i < acts.length) := of_decide_eq_false z2
      refine wp_exit ?_
      refine then_exit ?_
      refine then_exit ?_
      refine block_exit ?_
      refine then_normal ?_
      refine hK9 _ _ ?_
      refine wp_seq_k fun KK21 hK21 => ?_
      refine wp_seq_k fun KK22 hK22 => ?_
      refine apart_w_r16 c ra rc acts u v hu0 hu1 hv0 hv1 b4 b6 b7 z1d b9 i a cc ps now hi hl hn0 hn1 z2d H aa nn ss6 ss7 ?_
      clear H nn
      intro aa ww nn dd1 kp ss102 H
      replace ss0 := (kp 0 rfl).trans ss0
      replace ss1 := (kp 1 rfl).trans ss1
      replace ss2 := (kp 2 rfl).trans ss2
      replace ss3 := (kp 3 rfl).trans ss3
      replace ss4 := (kp 4 rfl).trans ss4
      replace ss6 := (kp 6 rfl).trans ss6
      replace ss7 := (kp 7 rfl).trans ss7
      replace ss9 := (kp 9 rfl).trans ss9
      replace ss10 := (kp 10 rfl).trans ss10
      replace ss11 := (kp 11 rfl).trans ss11
      replace ss21 := (kp 21 rfl).trans ss21
      replace ss24 := (kp 24 rfl).trans ss24
      replace ss30 := (kp 30 rfl).trans ss30
      replace dd := dd1.trans dd
      clear dd1 kp
      refine then_normal ?_
      refine hK22 _ _ ?_
      refine wp_cond_split ss102 (fun z5 => ?_) (fun z5 => ?_)
      · skip
        refine wp_seq_k fun KK23 hK23 => ?_
        refine apart_w_r17 c ra rc acts u v hu0 hu1 hv0 hv1 b4 b6 b7 z1d b9 i a cc ps now hi hl hn0 hn1 z2d H aa nn  ?_
        clear H nn
        intro aa ww nn dd1 kp ss8 H
        replace ss0 := (kp 0 rfl).trans ss0
        replace ss1 := (kp 1 rfl).trans ss1
        replace ss2 := (kp 2 rfl).trans ss2
        replace ss3 := (kp 3 rfl).trans ss3
        replace ss4 := (kp 4 rfl).trans ss4
        replace ss6 := (kp 6 rfl).trans ss6
        replace ss7 := (kp 7 rfl).trans ss7
        replace ss9 := (kp 9 rfl).trans ss9
        replace ss10 := (kp 10 rfl).trans ss10
        replace ss11 := (kp 11 rfl).trans ss11
        replace ss21 := (kp 21 rfl).trans ss21
        replace ss24 := (kp 24 rfl).trans ss24
        replace ss30 := (kp 30 rfl).trans ss30
        replace ss102 := (kp 102 rfl).trans ss102
        replace dd := dd1.trans dd
        clear dd1 kp
        refine then_normal ?_
        refine hK23 _ _ ?_
        refine wp_ret ?_
        refine then_ret ?_
        exact ret1 rfl dd ss8 ⟨rfl, H.out.off⟩
      · skip
        have z5l : (((u.who == v.who) && (u.key == v.key)) || (decide (40 < (u.body.size : Int)))) = false := ol z5
        have z5ll : ((u.who == v.who) && (u.key == v.key)) = false := ol z5l
        have z5lr : (decide (40 < (u.body.size : Int))) = false := orr z5l
        have z5lrd : ¬ (40 < (u.body.size : Int)) := of_decide_eq_false z5lr
        have z5r : (decide (40 < (v.body.size : Int))) = false := orr z5
        have z5rd : ¬ (40 < (v.body.size : Int)) := of_decide_eq_false z5r
        refine wp_skip ?_
        refine then_normal ?_
        refine hK21 _ _ ?_
        refine wp_seq_k fun KK24 hK24 => ?_
        refine apart_w_r18 c ra rc acts u v hu0 hu1 hv0 hv1 b4 b6 b7 z1d b9 i a cc ps now hi hl hs hn0 hn1 z2d z5lrd z5rd H aa nn ss6 ss9 ss10 ?_
        clear H nn
        intro aa ww nn dd1 kp ss14 ss15 H
        replace ss0 := (kp 0 rfl).trans ss0
        replace ss1 := (kp 1 rfl).trans ss1
        replace ss2 := (kp 2 rfl).trans ss2
        replace ss3 := (kp 3 rfl).trans ss3
        replace ss4 := (kp 4 rfl).trans ss4
        replace ss6 := (kp 6 rfl).trans ss6
        replace ss7 := (kp 7 rfl).trans ss7
        replace ss9 := (kp 9 rfl).trans ss9
        replace ss10 := (kp 10 rfl).trans ss10
        replace ss11 := (kp 11 rfl).trans ss11
        replace ss21 := (kp 21 rfl).trans ss21
        replace ss24 := (kp 24 rfl).trans ss24
        replace ss30 := (kp 30 rfl).trans ss30
        replace ss102 := (kp 102 rfl).trans ss102
        replace dd := dd1.trans dd
        clear dd1 kp
        refine then_normal ?_
        refine hK24 _ _ ?_
        refine wp_seq_k fun KK25 hK25 => ?_
        rcases Bool.eq_false_or_eq_true ((lookV (mkC c) ps now v.who v.key v.body).2 != 1) with y6 | y6
        · skip
          have y6o : ((lookV (mkC c) ps now v.who v.key v.body).2 == 1) = false := neq_t y6
          refine apart_w_r19 c ra rc acts u v hu0 hu1 hv0 hv1 b4 b6 b7 z1d b9 i a cc ps now hi hl hs hn0 hn1 z2d z5lrd z5rd y6 H aa nn ss7 ss9 ss10 ?_
          clear H nn
          intro b16 aa ww nn dd1 kp ss16 ss17 H
          replace ss0 := (kp 0 rfl).trans ss0
          replace ss1 := (kp 1 rfl).trans ss1
          replace ss2 := (kp 2 rfl).trans ss2
          replace ss3 := (kp 3 rfl).trans ss3
          replace ss4 := (kp 4 rfl).trans ss4
          replace ss6 := (kp 6 rfl).trans ss6
          replace ss7 := (kp 7 rfl).trans ss7
          replace ss9 := (kp 9 rfl).trans ss9
          replace ss10 := (kp 10 rfl).trans ss10
          replace ss11 := (kp 11 rfl).trans ss11
          replace ss14 := (kp 14 rfl).trans ss14
          replace ss15 := (kp 15 rfl).trans ss15
          replace ss21 := (kp 21 rfl).trans ss21
          replace ss24 := (kp 24 rfl).trans ss24
          replace ss30 := (kp 30 rfl).trans ss30
          replace ss102 := (kp 102 rfl).trans ss102
          replace dd := dd1.trans dd
          clear dd1 kp
          refine then_normal ?_
          refine hK25 _ _ ?_
          refine wp_seq_k fun KK26 hK26 => ?_
          refine wp_seq_k fun KK27 hK27 => ?_
          refine apart_w_r20 c ra rc acts u v hu0 hu1 hv0 hv1 b4 b6 b7 z1d b9 i a cc ps now hi hl hn0 hn1 z2d z5lrd z5rd b16 H aa nn ss17 ?_
          clear H nn
          intro aa ww nn dd1 kp ss128 H
          replace ss0 := (kp 0 rfl).trans ss0
          replace ss1 := (kp 1 rfl).trans ss1
          replace ss2 := (kp 2 rfl).trans ss2
          replace ss3 := (kp 3 rfl).trans ss3
          replace ss4 := (kp 4 rfl).trans ss4
          replace ss6 := (kp 6 rfl).trans ss6
          replace ss7 := (kp 7 rfl).trans ss7
          replace ss9 := (kp 9 rfl).trans ss9
          replace ss10 := (kp 10 rfl).trans ss10
          replace ss11 := (kp 11 rfl).trans ss11
          replace ss14 := (kp 14 rfl).trans ss14
          replace ss15 := (kp 15 rfl).trans ss15
          replace ss16 := (kp 16 rfl).trans ss16
          replace ss17 := (kp 17 rfl).trans ss17
          replace ss21 := (kp 21 rfl).trans ss21
          replace ss24 := (kp 24 rfl).trans ss24
          replace ss30 := (kp 30 rfl).trans ss30
          replace ss102 := (kp 102 rfl).trans ss102
          replace dd := dd1.trans dd
          clear dd1 kp
          refine then_normal ?_
          refine hK27 _ _ ?_
          refine wp_cond_true ss128 ?_
          refine wp_seq_k fun KK28 hK28 => ?_
          refine apart_w_r21 c ra rc acts u v hu0 hu1 hv0 hv1 b4 b6 b7 z1d b9 i a cc ps now hi hl hn0 hn1 z2d z5lrd z5rd b16 H aa nn  ?_
          clear H nn
          intro aa ww nn dd1 kp ss8 H
          replace ss0 := (kp 0 rfl).trans ss0
          replace ss1 := (kp 1 rfl).trans ss1
          replace ss2 := (kp 2 rfl).trans ss2
          replace ss3 := (kp 3 rfl).trans ss3
          replace ss4 := (kp 4 rfl).trans ss4
          replace ss6 := (kp 6 rfl).trans ss6
          replace ss7 := (kp 7 rfl).trans ss7
          replace ss9 := (kp 9 rfl).trans ss9
          replace ss10 := (kp 10 rfl).trans ss10
          replace ss11 := (kp 11 rfl).trans ss11
          replace ss14 := (kp 14 rfl).trans ss14
          replace ss15 := (kp 15 rfl).trans ss15
          replace ss16 := (kp 16 rfl).trans ss16
          replace ss17 := (kp 17 rfl).trans ss17
          replace ss21 := (kp 21 rfl).trans ss21
          replace ss24 := (kp 24 rfl).trans ss24
          replace ss30 := (kp 30 rfl).trans ss30
          replace ss102 := (kp 102 rfl).trans ss102
          replace ss128 := (kp 128 rfl).trans ss128
          replace dd := dd1.trans dd
          clear dd1 kp
          refine then_normal ?_
          refine hK28 _ _ ?_
          refine wp_ret ?_
          refine then_ret ?_
          exact ret1 rfl dd ss8 ⟨rfl, H.out.off⟩
        · skip
          have y6o : ((lookV (mkC c) ps now v.who v.key v.body).2 == 1) = true := neq_f y6
          refine apart_w_r19x1 c ra rc acts u v hu0 hu1 hv0 hv1 b4 b6 b7 z1d b9 i a cc ps now hi hl hs hn0 hn1 z2d z5lrd z5rd y6 H aa nn ss7 ss9 ss10 ?_
          clear H nn
          intro a19_8 c19_8 b16 aa ww nn dd1 kp ss16 ss17 H
          replace ss0 := (kp 0 rfl).trans ss0
          replace ss1 := (kp 1 rfl).trans ss1
          replace ss2 := (kp 2 rfl).trans ss2
          replace ss3 := (kp 3 rfl).trans ss3
          replace ss4 := (kp 4 rfl).trans ss4
          replace ss6 := (kp 6 rfl).trans ss6
          replace ss7 := (kp 7 rfl).trans ss7
          replace ss9 := (kp 9 rfl).trans ss9
          replace ss10 := (kp 10 rfl).trans ss10
          replace ss11 := (kp 11 rfl).trans ss11
          replace ss14 := (kp 14 rfl).trans ss14
          replace ss15 := (kp 15 rfl).trans ss15
          replace ss21 := (kp 21 rfl).trans ss21
          replace ss24 := (kp 24 rfl).trans ss24
          replace ss30 := (kp 30 rfl).trans ss30
          replace ss102 := (kp 102 rfl).trans ss102
          replace dd := dd1.trans dd
          clear dd1 kp
          refine then_normal ?_
          refine hK25 _ _ ?_
          refine wp_seq_k fun KK29 hK29 => ?_
          refine wp_seq_k fun KK30 hK30 => ?_
          refine apart_w_r20x1 c ra rc acts u v hu0 hu1 hv0 hv1 b4 b6 b7 z1d b9 i a cc ps now hi hl hn0 hn1 z2d z5lrd z5rd a19_8 c19_8 b16 H aa nn ss17 ?_
          clear H nn
          intro aa ww nn dd1 kp ss128 H
          replace ss0 := (kp 0 rfl).trans ss0
          replace ss1 := (kp 1 rfl).trans ss1
          replace ss2 := (kp 2 rfl).trans ss2
          replace ss3 := (kp 3 rfl).trans ss3
          replace ss4 := (kp 4 rfl).trans ss4
          replace ss6 := (kp 6 rfl).trans ss6
          replace ss7 := (kp 7 rfl).trans ss7
          replace ss9 := (kp 9 rfl).trans ss9
          replace ss10 := (kp 10 rfl).trans ss10
          replace ss11 := (kp 11 rfl).trans ss11
          replace ss14 := (kp 14 rfl).trans ss14
          replace ss15 := (kp 15 rfl).trans ss15
          replace ss16 := (kp 16 rfl).trans ss16
          replace ss17 := (kp 17 rfl).trans ss17
          replace ss21 := (kp 21 rfl).trans ss21
          replace ss24 := (kp 24 rfl).trans ss24
          replace ss30 := (kp 30 rfl).trans ss30
          replace ss102 := (kp 102 rfl).trans ss102
          replace dd := dd1.trans dd
          clear dd1 kp
          refine then_normal ?_
          refine hK30 _ _ ?_
          refine wp_cond_false ss128 ?_
          refine wp_skip ?_
          refine then_normal ?_
          refine hK29 _ _ ?_
          refine wp_seq_k fun KK31 hK31 => ?_
          refine apart_w_r22 c ra rc acts u v hu0 hu1 hv0 hv1 b4 b6 b7 z1d b9 i a cc ps now hi hl hs hn0 hn1 z2d z5lrd z5rd a19_8 c19_8 b16 H aa nn ss6 ss10 ss16 ?_
          clear H nn
          intro aa ww nn dd1 kp ss18 ss19 H
          replace ss0 := (kp 0 rfl).trans ss0
          replace ss1 := (kp 1 rfl).trans ss1
          replace ss2 := (kp 2 rfl).trans ss2
          replace ss3 := (kp 3 rfl).trans ss3
          replace ss4 := (kp 4 rfl).trans ss4
          replace ss6 := (kp 6 rfl).trans ss6
          replace ss7 := (kp 7 rfl).trans ss7
          replace ss9 := (kp 9 rfl).trans ss9
          replace ss10 := (kp 10 rfl).trans ss10
          replace ss11 := (kp 11 rfl).trans ss11
          replace ss14 := (kp 14 rfl).trans ss14
          replace ss15 := (kp 15 rfl).trans ss15
          replace ss16 := (kp 16 rfl).trans ss16
          replace ss17 := (kp 17 rfl).trans ss17
          replace ss21 := (kp 21 rfl).trans ss21
          replace ss24 := (kp 24 rfl).trans ss24
          replace ss30 := (kp 30 rfl).trans ss30
          replace ss102 := (kp 102 rfl).trans ss102
          replace ss128 := (kp 128 rfl).trans ss128
          replace dd := dd1.trans dd
          clear dd1 kp
          refine then_normal ?_
          refine hK31 _ _ ?_
          refine wp_seq_k fun KK32 hK32 => ?_
          refine apart_w_r23 c ra rc acts u v hu0 hu1 hv0 hv1 b4 b6 b7 z1d b9 i a cc ps now hi hl hn0 hn1 z2d z5lrd z5rd a19_8 c19_8 b16 H aa nn ss14 ss15 ss18 ss19 ?_
          clear H nn
          intro aa ww nn dd1 kp ss8 H
          replace ss0 := (kp 0 rfl).trans ss0
          replace ss1 := (kp 1 rfl).trans ss1
          replace ss2 := (kp 2 rfl).trans ss2
          replace ss3 := (kp 3 rfl).trans ss3
          replace ss4 := (kp 4 rfl).trans ss4
          replace ss6 := (kp 6 rfl).trans ss6
          replace ss7 := (kp 7 rfl).trans ss7
          replace ss9 := (kp 9 rfl).trans ss9
          replace ss10 := (kp 10 rfl).trans ss10
          replace ss11 := (kp 11 rfl).trans ss11
          replace ss14 := (kp 14 rfl).trans ss14
          replace ss15 := (kp 15 rfl).trans ss15
          replace ss16 := (kp 16 rfl).trans ss16
          replace ss17 := (kp 17 rfl).trans ss17
          replace ss18 := (kp 18 rfl).trans ss18
          replace ss19 := (kp 19 rfl).trans ss19
          replace ss21 := (kp 21 rfl).trans ss21
          replace ss24 := (kp 24 rfl).trans ss24
          replace ss30 := (kp 30 rfl).trans ss30
          replace ss102 := (kp 102 rfl).trans ss102
          replace ss128 := (kp 128 rfl).trans ss128
          replace dd := dd1.trans dd
          clear dd1 kp
          refine then_normal ?_
          refine hK32 _ _ ?_
          refine wp_ret ?_
          exact ret1 rfl dd ss8 ⟨congrArg (fun z => Ending.returned (.bool z)) (apart_law hs.out mk_room hu0 hu1 hv0 hv1 z5ll y6), H.out.off⟩
end Go.Proofs.Ytfhhfmkfkoemjaa.Se6
