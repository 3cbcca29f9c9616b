/- Every configuration and row of deeds: the walk. -/
import Derived.Test.YtfhhfmkfkoemjaaProg
import Derived.Below
import Derived.WalkKit
import Derived.KernelRfl
import Derived.RowKit3
import Derived.Deep.LoopGhost
import Derived.Deep.QuietTactic
import Derived.BigQuiet
import Derived.WideLaws
import Derived.Deep.DeepCutAuto
import Derived.Deep.CutBlock
import Derived.Lib.Hide
import Derived.Laws.BitsLemmas
import Derived.Laws.Bits64
import Derived.Laws.BitsAllLaws
import Derived.IntWalk
import Derived.Outline
import Derived.WalkSpells
import Derived.Test.YtfhhfmkfkoemjaaMem
import Derived.Test.YtfhhfmkfkoemjaaLwKeysExacta
namespace Go.Proofs.Ytfhhfmkfkoemjaa.Se6
open Go.RowKit Go.Proofs.Ytfhhfmkfkoemjaa.Mem Go.Proofs.Ytfhhfmkfkoemjaa.Reg Go.Proofs.Ytfhhfmkfkoemjaa.Pk Go.Proofs.Ytfhhfmkfkoemjaa.Si
set_option linter.unusedVariables false
set_option linter.unusedSimpArgs false

set_option maxHeartbeats 16000000 in
set_option maxRecDepth 20000 in
theorem exact_w (c : Cfg) (ra : Option Addr) (rc : Nat) (acts : List ActK) (tt : Int) (w : World) (h1 : (rS ra rc 5 (acts.map actRow)).holds w) (hok : Hid (∀ z ∈ acts, 0 ≤ z.key ∧ z.key ≤ 18446744073709551615)) (hon : Hid (∀ z ∈ acts, -9223372036854775808 ≤ z.now ∧ z.now ≤ 9223372036854775807)) : Calls Try.prog 12 #[.agg (cA c), .slice ra acts.length rc, .int .i64 tt] w fun e w' => e = .returned (.bool true) ∧ Off [] w w' := by
  have H := Lib.hid (Hp.start [] w)
  have H := hp_old H h1 (by decide)
  clear h1
  replace H := hp_old H (rS_nil w 4) (by decide)
  replace H := hp_old H (rS_nilE w) (by decide)
  refine calls_start Try.func12 rfl 175 rfl (by simp) (fun aa nn dd sl => ?_)
  have ss0 : aa.eval (.tmp 0) = .agg (cA c) := sl 0 (by simp)
  have ss1 : aa.eval (.tmp 1) = .slice ra acts.length rc := sl 1 (by simp)
  have ss2 : aa.eval (.tmp 2) = .int .i64 tt := sl 2 (by simp)
  clear sl
  refine wp_seq_k fun KK1 hK1 => ?_
  refine exact_w_r0 c ra rc acts H aa nn ss0 ?_
  clear H nn
  intro b3 aa ww nn dd1 kp ss3 ss6 H
  replace ss0 := (kp 0 rfl).trans ss0
  replace ss1 := (kp 1 rfl).trans ss1
  replace ss2 := (kp 2 rfl).trans ss2
  replace dd := dd1.trans dd
  clear dd1 kp
  refine then_normal ?_
  refine hK1 _ _ ?_
  refine wp_seq_k fun KK2 hK2 => ?_
  refine wp_seq_k fun KK3 hK3 => ?_
  refine exact_w_r1 c ra rc acts b3 H aa nn  ?_
  clear H nn
  intro aa ww nn dd1 kp ss21 H
  replace ss0 := (kp 0 rfl).trans ss0
  replace ss1 := (kp 1 rfl).trans ss1
  replace ss2 := (kp 2 rfl).trans ss2
  replace ss3 := (kp 3 rfl).trans ss3
  replace ss6 := (kp 6 rfl).trans ss6
  replace dd := dd1.trans dd
  clear dd1 kp
  refine then_normal ?_
  refine hK3 _ _ ?_
  refine wp_cond_false ss21 ?_
  refine wp_skip ?_
  refine then_normal ?_
  refine hK2 _ _ ?_
  refine wp_seq_k fun KK4 hK4 => ?_
  refine exact_w_r3 c ra rc acts b3 H aa nn ss3 ?_
  clear H nn
  intro b7 aa ww nn dd1 kp ss7 H
  replace ss0 := (kp 0 rfl).trans ss0
  replace ss1 := (kp 1 rfl).trans ss1
  replace ss2 := (kp 2 rfl).trans ss2
  replace ss3 := (kp 3 rfl).trans ss3
  replace ss6 := (kp 6 rfl).trans ss6
  replace ss21 := (kp 21 rfl).trans ss21
  replace dd := dd1.trans dd
  clear dd1 kp
  refine then_normal ?_
  refine hK4 _ _ ?_
  refine wp_seq_k fun KK5 hK5 => ?_
  refine exact_w_r4 c ra rc acts b3 b7 H aa nn  ?_
  clear H nn
  intro b8 aa ww nn dd1 kp ss8 H
  replace ss0 := (kp 0 rfl).trans ss0
  replace ss1 := (kp 1 rfl).trans ss1
  replace ss2 := (kp 2 rfl).trans ss2
  replace ss3 := (kp 3 rfl).trans ss3
  replace ss6 := (kp 6 rfl).trans ss6
  replace ss7 := (kp 7 rfl).trans ss7
  replace ss21 := (kp 21 rfl).trans ss21
  replace dd := dd1.trans dd
  clear dd1 kp
  refine then_normal ?_
  refine hK5 _ _ ?_
  refine wp_seq_k fun KK6 hK6 => ?_
  refine wp_seq_k fun KK7 hK7 => ?_
  refine exact_w_r5 c ra rc acts b3 b7 b8 H aa nn ss3 ?_
  clear H nn
  intro aa ww nn dd1 kp ss26 H
  replace ss0 := (kp 0 rfl).trans ss0
  replace ss1 := (kp 1 rfl).trans ss1
  replace ss2 := (kp 2 rfl).trans ss2
  replace ss3 := (kp 3 rfl).trans ss3
  replace ss6 := (kp 6 rfl).trans ss6
  replace ss7 := (kp 7 rfl).trans ss7
  replace ss8 := (kp 8 rfl).trans ss8
  replace ss21 := (kp 21 rfl).trans ss21
  replace dd := dd1.trans dd
  clear dd1 kp
  refine then_normal ?_
  refine hK7 _ _ ?_
  have hjn1 : ∀ (aa : Act) (ww : World), aa.tmps.size = 175 → aa.defers = [] → aa.eval (.tmp 0) = .agg (cA c) → aa.eval (.tmp 1) = .slice ra acts.length rc → aa.eval (.tmp 2) = .int .i64 tt → aa.eval (.tmp 3) = .pointer (some ⟨b3, 0, none⟩) → aa.eval (.tmp 6) = .bool false → aa.eval (.tmp 7) = .pointer (some ⟨b7, 0, none⟩) → aa.eval (.tmp 8) = .pointer (some ⟨b8, 0, none⟩) → aa.eval (.tmp 21) = .bool false → aa.eval (.tmp 26) = .bool (checkV c == 0) → Hid (Hp [] w ww [rB b8 99 (rkL (mkC c) (.slice none 0 0)), rB b7 84 (kL (mkC c) (mkR c) (.slice none (([] : List PairV).length) 0)), rB b3 24 (cL c), rS none 0 4 (([] : List EntR).map entRow), rS none 0 4 (([] : List PairV).map rowOf), rS ra rc 5 (acts.map actRow)]) → KK6 aa ww := by
    clear H nn dd ss0 ss1 ss2 ss3 ss6 ss7 ss8 ss21 ss26
    intro aa ww nn dd ss0 ss1 ss2 ss3 ss6 ss7 ss8 ss21 ss26 H
    refine hK6 _ _ ?_
    refine wp_seq_k fun KK8 hK8 => ?_
    refine wp_seq_k fun KK9 hK9 => ?_
    refine exact_w_r7 c ra rc acts b3 b7 b8 H aa nn  ?_
    clear H nn
    intro aa ww nn dd1 kp ss9 H
    replace ss0 := (kp 0 rfl).trans ss0
    replace ss1 := (kp 1 rfl).trans ss1
    replace ss2 := (kp 2 rfl).trans ss2
    replace ss3 := (kp 3 rfl).trans ss3
    replace ss6 := (kp 6 rfl).trans ss6
    replace ss7 := (kp 7 rfl).trans ss7
    replace ss8 := (kp 8 rfl).trans ss8
    replace ss21 := (kp 21 rfl).trans ss21
    replace ss26 := (kp 26 rfl).trans ss26
    replace dd := dd1.trans dd
    clear dd1 kp
    refine then_normal ?_
    refine hK9 _ _ ?_
    refine wp_block ?_
    refine wp_loop (fun ab wv => ∃ i : Nat, ∃ a : Option Addr, ∃ cc : Nat, ∃ ps : List PairV, ∃ la : Option Addr, ∃ lc : Nat, ∃ l : List EntR, i ≤ acts.length ∧ i ≤ 60 ∧ Hid (RelK (mkC c) (mkR c) ps l) ∧ ab.tmps.size = 175 ∧ ab.defers = [] ∧ ab.eval (.tmp 0) = .agg (cA c) ∧ ab.eval (.tmp 1) = .slice ra acts.length rc ∧ ab.eval (.tmp 2) = .int .i64 tt ∧ ab.eval (.tmp 3) = .pointer (some ⟨b3, 0, none⟩) ∧ ab.eval (.tmp 7) = .pointer (some ⟨b7, 0, none⟩) ∧ ab.eval (.tmp 8) = .pointer (some ⟨b8, 0, none⟩) ∧ ab.eval (.tmp 9) = .int .i64 i ∧ ab.eval (.tmp 21) = .bool false ∧ ab.eval (.tmp 26) = .bool (checkV c == 0) ∧ Hid (Hp [] w wv [rB b8 99 (rkL (mkC c) (.slice la l.length lc)), rB b7 84 (kL (mkC c) (mkR c) (.slice a ps.length cc)), rB b3 24 (cL c), rS la lc 4 (l.map entRow), rS a cc 4 (ps.map rowOf), rS ra rc 5 (acts.map actRow)])) (fun ab _ => 60 - (intOf (ab.eval (.tmp 9))).toNat) ⟨0, none, 0, [], none, 0, [], (Nat.zero_le _), (by omega), (Lib.hid (rel_nil c)), nn, dd, ss0, ss1, ss2, ss3, ss7, ss8, ss9, ss21, ss26, H⟩ (fun aa wv hI => ?_)
    clear H nn dd ss0 ss1 ss2 ss3 ss6 ss7 ss8 ss9 ss21 ss26
    obtain ⟨i, a, cc, ps, la, lc, l, hi, hi2, hrel, nn, dd, ss0, ss1, ss2, ss3, ss7, ss8, ss9, ss21, ss26, H⟩ := hI
    have mu1_9 := ss9
    refine wp_seq_k fun KK10 hK10 => ?_
    refine wp_seq_k fun KK11 hK11 => ?_
    refine exact_w_r8 c ra rc acts b3 b7 b8 i a cc ps la lc l hi hi2 H aa nn ss1 ss9 ?_
    clear H nn
    intro aa ww nn dd1 kp ss36 H
    replace ss0 := (kp 0 rfl).trans ss0
    replace ss1 := (kp 1 rfl).trans ss1
    replace ss2 := (kp 2 rfl).trans ss2
    replace ss3 := (kp 3 rfl).trans ss3
    replace ss7 := (kp 7 rfl).trans ss7
    replace ss8 := (kp 8 rfl).trans ss8
    replace ss9 := (kp 9 rfl).trans ss9
    replace ss21 := (kp 21 rfl).trans ss21
    replace ss26 := (kp 26 rfl).trans ss26
    replace dd := dd1.trans dd
    clear dd1 kp
    refine then_normal ?_
    refine hK11 _ _ ?_
    refine wp_cond_split ss36 (fun z1 => ?_) (fun z1 => ?_)
    · skip
      have z1l : (decide (i < acts.length)) = true := bl z1
      have z1ld : i < acts.length := of_decide_eq_true z1l
      have z1r : (decide ((i : Int) < 60)) = true := br z1
      have z1rd : (i : Int) < 60 := of_decide_eq_true z1r
      obtain ⟨y, rfl⟩ := some_of_row (hp_held H (show rS ra rc 5 (acts.map actRow) ∈ _ by simp)) (i := i) (by simpa using z1ld)
      obtain ⟨x, hx⟩ : ∃ x, acts[i]? = some x := ⟨acts[i], List.getElem?_eq_getElem (by omega)⟩
      have HR := Lib.hid (show (acts.map actRow)[i]? = some [.int .i64 x.kind, .int .i64 x.now, .int .i64 x.who, .int .u64 x.key, .string x.body] by rw [List.getElem?_map, hx]; rfl)
      have HX := Lib.hid hx
      have hk0 : 0 ≤ x.key := (hok.out x (List.mem_of_getElem? hx)).1
      have hk1 : x.key ≤ 18446744073709551615 := (hok.out x (List.mem_of_getElem? hx)).2
      clear hx
      have hxn : x.now ≤ 9223372036854775807 := (hon.out x (List.mem_of_getElem? HX.out)).2
      refine wp_skip ?_
      refine then_normal ?_
      refine hK10 _ _ ?_
      refine wp_seq_k fun KK12 hK12 => ?_
      refine wp_block ?_
      refine wp_seq_k fun KK13 hK13 => ?_
      refine exact_w_r10 c rc acts b3 b7 b8 i a cc ps la lc l hi hi2 z1ld z1rd y x HR hk0 hk1 hxn H aa nn ss1 ss9 ?_
      clear H nn
      intro b10 aa ww nn dd1 kp ss10 H
      replace ss0 := (kp 0 rfl).trans ss0
      replace ss1 := (kp 1 rfl).trans ss1
      replace ss2 := (kp 2 rfl).trans ss2
      replace ss3 := (kp 3 rfl).trans ss3
      replace ss7 := (kp 7 rfl).trans ss7
      replace ss8 := (kp 8 rfl).trans ss8
      replace ss9 := (kp 9 rfl).trans ss9
      replace ss21 := (kp 21 rfl).trans ss21
      replace ss26 := (kp 26 rfl).trans ss26
      replace ss36 := (kp 36 rfl).trans ss36
      replace dd := dd1.trans dd
      clear dd1 kp
      refine then_normal ?_
      refine hK13 _ _ ?_
      refine wp_seq_k fun KK14 hK14 => ?_
      refine wp_seq_k fun KK15 hK15 => ?_
      refine exact_w_r11 c rc acts b3 b7 b8 i a cc ps la lc l hi hi2 z1ld z1rd y x hk0 hk1 hxn b10 H aa nn ss10 ?_
      clear H nn
      intro aa ww nn dd1 kp ss46 H
      replace ss0 := (kp 0 rfl).trans ss0
      replace ss1 := (kp 1 rfl).trans ss1
      replace ss2 := (kp 2 rfl).trans ss2
      replace ss3 := (kp 3 rfl).trans ss3
      replace ss7 := (kp 7 rfl).trans ss7
      replace ss8 := (kp 8 rfl).trans ss8
      replace ss9 := (kp 9 rfl).trans ss9
      replace ss10 := (kp 10 rfl).trans ss10
      replace ss21 := (kp 21 rfl).trans ss21
      replace ss26 := (kp 26 rfl).trans ss26
      replace ss36 := (kp 36 rfl).trans ss36
      replace dd := dd1.trans dd
      clear dd1 kp
      refine then_normal ?_
      refine hK15 _ _ ?_
      refine wp_cond_split ss46 (fun z2 => ?_) (fun z2 => ?_)
      · skip
        have z2d : 40 < (x.body.size : Int) := of_decide_eq_true z2
        refine wp_seq_k fun KK16 hK16 => ?_
        refine exact_w_r12 c rc acts b3 b7 b8 i a cc ps la lc l hi hi2 z1ld z1rd y x hk0 hk1 hxn b10 z2d H aa nn  ?_
        clear H nn
        intro aa ww nn dd1 kp ss6 H
        replace ss0 := (kp 0 rfl).trans ss0
        replace ss1 := (kp 1 rfl).trans ss1
        replace ss2 := (kp 2 rfl).trans ss2
        replace ss3 := (kp 3 rfl).trans ss3
        replace ss7 := (kp 7 rfl).trans ss7
        replace ss8 := (kp 8 rfl).trans ss8
        replace ss9 := (kp 9 rfl).trans ss9
        replace ss10 := (kp 10 rfl).trans ss10
        replace ss21 := (kp 21 rfl).trans ss21
        replace ss26 := (kp 26 rfl).trans ss26
        replace ss36 := (kp 36 rfl).trans ss36
        replace ss46 := (kp 46 rfl).trans ss46
        replace dd := dd1.trans dd
        clear dd1 kp
        refine then_normal ?_
        refine hK16 _ _ ?_
        refine wp_ret ?_
        refine then_ret ?_
        refine block_ret ?_
        refine then_ret ?_
        refine then_ret ?_
        refine block_ret ?_
        refine then_ret ?_
        exact ret1 rfl dd ss6 ⟨rfl, H.out.off⟩
      · skip
        have z2d : ¬ (40 < (x.body.size : Int)) := of_decide_eq_false z2
        refine wp_skip ?_
        refine then_normal ?_
        refine hK14 _ _ ?_
        refine wp_seq_k fun KK17 hK17 => ?_
        refine wp_seq_k fun KK18 hK18 => ?_
        refine exact_w_r13 c rc acts b3 b7 b8 i a cc ps la lc l hi hi2 z1ld z1rd y x hk0 hk1 hxn b10 z2d H aa nn ss3 ss10 ?_
        clear H nn
        intro aa ww nn dd1 kp ss68 H
        replace ss0 := (kp 0 rfl).trans ss0
        replace ss1 := (kp 1 rfl).trans ss1
        replace ss2 := (kp 2 rfl).trans ss2
        replace ss3 := (kp 3 rfl).trans ss3
        replace ss7 := (kp 7 rfl).trans ss7
        replace ss8 := (kp 8 rfl).trans ss8
        replace ss9 := (kp 9 rfl).trans ss9
        replace ss10 := (kp 10 rfl).trans ss10
        replace ss21 := (kp 21 rfl).trans ss21
        replace ss26 := (kp 26 rfl).trans ss26
        replace ss36 := (kp 36 rfl).trans ss36
        replace ss46 := (kp 46 rfl).trans ss46
        replace dd := dd1.trans dd
        clear dd1 kp
        refine then_normal ?_
        refine hK18 _ _ ?_
        refine wp_cond_split ss68 (fun z3 => ?_) (fun z3 => ?_)
        · skip
          have z3n : ((isGoodV c x.key x.now) == (goodRV c x.key x.now)) = false := bn z3
          exact no (no_good hk0 hk1 hxn) z3
        · skip
          have z3n : ((isGoodV c x.key x.now) == (goodRV c x.key x.now)) = true := bt z3
          refine wp_skip ?_
          refine then_normal ?_
          refine hK17 _ _ ?_
          refine wp_seq_k fun KK19 hK19 => ?_
          refine exact_w_r15 c rc acts b3 b7 b8 i a cc ps la lc l hi hi2 hrel z1ld z1rd y x hk0 hk1 hxn b10 z2d H aa nn ss7 ss10 ?_
          clear H nn
          intro aa ww nn dd1 kp ss11 ss12 H
          replace ss0 := (kp 0 rfl).trans ss0
          replace ss1 := (kp 1 rfl).trans ss1
          replace ss2 := (kp 2 rfl).trans ss2
          replace ss3 := (kp 3 rfl).trans ss3
          replace ss7 := (kp 7 rfl).trans ss7
          replace ss8 := (kp 8 rfl).trans ss8
          replace ss9 := (kp 9 rfl).trans ss9
          replace ss10 := (kp 10 rfl).trans ss10
          replace ss21 := (kp 21 rfl).trans ss21
          replace ss26 := (kp 26 rfl).trans ss26
          replace ss36 := (kp 36 rfl).trans ss36
          replace ss46 := (kp 46 rfl).trans ss46
          replace ss68 := (kp 68 rfl).trans ss68
          replace dd := dd1.trans dd
          clear dd1 kp
          refine then_normal ?_
          refine hK19 _ _ ?_
          refine wp_seq_k fun KK20 hK20 => ?_
          refine exact_w_r16 c rc acts b3 b7 b8 i a cc ps la lc l hi hi2 hrel z1ld z1rd y x hk0 hk1 hxn b10 z2d H aa nn ss8 ss10 ?_
          clear H nn
          intro aa ww nn dd1 kp ss13 ss14 H
          replace ss0 := (kp 0 rfl).trans ss0
          replace ss1 := (kp 1 rfl).trans ss1
          replace ss2 := (kp 2 rfl).trans ss2
          replace ss3 := (kp 3 rfl).trans ss3
          replace ss7 := (kp 7 rfl).trans ss7
          replace ss8 := (kp 8 rfl).trans ss8
          replace ss9 := (kp 9 rfl).trans ss9
          replace ss10 := (kp 10 rfl).trans ss10
          replace ss11 := (kp 11 rfl).trans ss11
          replace ss12 := (kp 12 rfl).trans ss12
          replace ss21 := (kp 21 rfl).trans ss21
          replace ss26 := (kp 26 rfl).trans ss26
          replace ss36 := (kp 36 rfl).trans ss36
          replace ss46 := (kp 46 rfl).trans ss46
          replace ss68 := (kp 68 rfl).trans ss68
          replace dd := dd1.trans dd
          clear dd1 kp
          refine then_normal ?_
          refine hK20 _ _ ?_
          refine wp_seq_k fun KK21 hK21 => ?_
          refine wp_seq_k fun KK22 hK22 => ?_
          refine exact_w_r17 c rc acts b3 b7 b8 i a cc ps la lc l hi hi2 z1ld z1rd y x hk0 hk1 hxn b10 z2d H aa nn ss11 ss12 ss13 ss14 ?_
          clear H nn
          intro aa ww nn dd1 kp ss102 H
          replace ss0 := (kp 0 rfl).trans ss0
          replace ss1 := (kp 1 rfl).trans ss1
          replace ss2 := (kp 2 rfl).trans ss2
          replace ss3 := (kp 3 rfl).trans ss3
          replace ss7 := (kp 7 rfl).trans ss7
          replace ss8 := (kp 8 rfl).trans ss8
          replace ss9 := (kp 9 rfl).trans ss9
          replace ss10 := (kp 10 rfl).trans ss10
          replace ss11 := (kp 11 rfl).trans ss11
          replace ss12 := (kp 12 rfl).trans ss12
          replace ss13 := (kp 13 rfl).trans ss13
          replace ss14 := (kp 14 rfl).trans ss14
          replace ss21 := (kp 21 rfl).trans ss21
          replace ss26 := (kp 26 rfl).trans ss26
          replace ss36 := (kp 36 rfl).trans ss36
          replace ss46 := (kp 46 rfl).trans ss46
          replace ss68 := (kp 68 rfl).trans ss68
          replace dd := dd1.trans dd
          clear dd1 kp
          refine then_normal ?_
          refine hK22 _ _ ?_
          refine wp_cond_split ss102 (fun z4 => ?_) (fun z4 => ?_)
          · skip
            exact no (no_look hrel.out hk0 hk1 hxn) z4
          · skip
            have z4l : (!(((lookV (mkC c) ps x.now x.who x.key x.body).1).toList == ((lookR (mkC c) l x.now x.who x.key x.body).1).toList)) = false := ol z4
            have z4ln : (((lookV (mkC c) ps x.now x.who x.key x.body).1).toList == ((lookR (mkC c) l x.now x.who x.key x.body).1).toList) = true := bt z4l
            have z4lno : (((lookV (mkC c) ps x.now x.who x.key x.body).1).toList != ((lookR (mkC c) l x.now x.who x.key x.body).1).toList) = false := eqq_t z4ln
            have z4r : (((lookV (mkC c) ps x.now x.who x.key x.body).2) != ((lookR (mkC c) l x.now x.who x.key x.body).2)) = false := orr z4
            have z4ro : (((lookV (mkC c) ps x.now x.who x.key x.body).2) == ((lookR (mkC c) l x.now x.who x.key x.body).2)) = true := neq_f z4r
            refine wp_skip ?_
            refine then_normal ?_
            refine hK21 _ _ ?_
            refine wp_seq_k fun KK23 hK23 => ?_
            refine wp_seq_k fun KK24 hK24 => ?_
            refine exact_w_r19 c rc acts b3 b7 b8 i a cc ps la lc l hi hi2 z1ld z1rd y x hk0 hk1 hxn b10 z2d H aa nn ss10 ?_
            clear H nn
            intro aa ww nn dd1 kp ss110 H
            replace ss0 := (kp 0 rfl).trans ss0
            replace ss1 := (kp 1 rfl).trans ss1
            replace ss2 := (kp 2 rfl).trans ss2
            replace ss3 := (kp 3 rfl).trans ss3
            replace ss7 := (kp 7 rfl).trans ss7
            replace ss8 := (kp 8 rfl).trans ss8
            replace ss9 := (kp 9 rfl).trans ss9
            replace ss10 := (kp 10 rfl).trans ss10
            replace ss11 := (kp 11 rfl).trans ss11
            replace ss12 := (kp 12 rfl).trans ss12
            replace ss13 := (kp 13 rfl).trans ss13
            replace ss14 := (kp 14 rfl).trans ss14
            replace ss21 := (kp 21 rfl).trans ss21
            replace ss26 := (kp 26 rfl).trans ss26
            replace ss36 := (kp 36 rfl).trans ss36
            replace ss46 := (kp 46 rfl).trans ss46
            replace ss68 := (kp 68 rfl).trans ss68
            replace ss102 := (kp 102 rfl).trans ss102
            replace dd := dd1.trans dd
            clear dd1 kp
            refine then_normal ?_
            refine hK24 _ _ ?_
            have hjn2 : ∀ (a2 : Option Addr) (cc2 : Nat) (ps2 : List PairV) (la2 : Option Addr) (lc2 : Nat) (l2 : List EntR) (aa : Act) (ww : World), Hid (RelK (mkC c) (mkR c) ps2 l2) → aa.tmps.size = 175 → aa.defers = [] → aa.eval (.tmp 0) = .agg (cA c) → aa.eval (.tmp 1) = .slice (some y) acts.length rc → aa.eval (.tmp 2) = .int .i64 tt → aa.eval (.tmp 3) = .pointer (some ⟨b3, 0, none⟩) → aa.eval (.tmp 7) = .pointer (some ⟨b7, 0, none⟩) → aa.eval (.tmp 8) = .pointer (some ⟨b8, 0, none⟩) → aa.eval (.tmp 9) = .int .i64 i → aa.eval (.tmp 10) = .pointer (some ⟨b10, 0, none⟩) → aa.eval (.tmp 11) = .string ((lookV (mkC c) ps x.now x.who x.key x.body).1) → aa.eval (.tmp 12) = .int .i64 ((lookV (mkC c) ps x.now x.who x.key x.body).2) → aa.eval (.tmp 13) = .string ((lookR (mkC c) l x.now x.who x.key x.body).1) → aa.eval (.tmp 14) = .int .i64 ((lookR (mkC c) l x.now x.who x.key x.body).2) → aa.eval (.tmp 21) = .bool false → aa.eval (.tmp 26) = .bool (checkV c == 0) → aa.eval (.tmp 36) = .bool ((decide (i < acts.length)) && (decide ((i : Int) < 60))) → aa.eval (.tmp 46) = .bool (decide (40 < (x.body.size : Int))) → aa.eval (.tmp 68) = .bool (!((isGoodV c x.key x.now) == (goodRV c x.key x.now))) → aa.eval (.tmp 102) = .bool ((!(((lookV (mkC c) ps x.now x.who x.key x.body).1).toList == ((lookR (mkC c) l x.now x.who x.key x.body).1).toList)) || (((lookV (mkC c) ps x.now x.who x.key x.body).2) != ((lookR (mkC c) l x.now x.who x.key x.body).2))) → aa.eval (.tmp 110) = .bool ((x.kind == 1) || (x.kind == 2)) → Hid (Hp [] w ww [rB b10 87 [.int .i64 x.kind, .int .i64 x.now, .int .i64 x.who, .int .u64 x.key, .string x.body], rB b8 99 (rkL (mkC c) (.slice la2 l2.length lc2)), rB b7 84 (kL (mkC c) (mkR c) (.slice a2 ps2.length cc2)), rB b3 24 (cL c), rS la2 lc2 4 (l2.map entRow), rS a2 cc2 4 (ps2.map rowOf), rS (some y) rc 5 (acts.map actRow)]) → KK23 aa ww := by
              clear H nn dd ss0 ss1 ss2 ss3 ss7 ss8 ss9 ss10 ss11 ss12 ss13 ss14 ss21 ss26 ss36 ss46 ss68 ss102 ss110
              intro a2 cc2 ps2 la2 lc2 l2 aa ww hrel2 nn dd ss0 ss1 ss2 ss3 ss7 ss8 ss9 ss10 ss11 ss12 ss13 ss14 ss21 ss26 ss36 ss46 ss68 ss102 ss110 H
              have hrel0 := hrel
              clear hrel
              have hrel := hrel2
              refine hK23 _ _ ?_
              refine wp_seq_k fun KK25 hK25 => ?_
              refine exact_w_r27 c rc acts tt b3 b7 b8 i hi hi2 z1ld z1rd y x hk0 hk1 hxn b10 z2d a2 cc2 ps2 la2 lc2 l2 H aa nn ss2 ?_
              clear H nn
              intro aa ww nn dd1 kp ss19 H
              replace ss0 := (kp 0 rfl).trans ss0
              replace ss1 := (kp 1 rfl).trans ss1
              replace ss2 := (kp 2 rfl).trans ss2
              replace ss3 := (kp 3 rfl).trans ss3
              replace ss7 := (kp 7 rfl).trans ss7
              replace ss8 := (kp 8 rfl).trans ss8
              replace ss9 := (kp 9 rfl).trans ss9
              replace ss10 := (kp 10 rfl).trans ss10
              replace ss11 := (kp 11 rfl).trans ss11
              replace ss12 := (kp 12 rfl).trans ss12
              replace ss13 := (kp 13 rfl).trans ss13
              replace ss14 := (kp 14 rfl).trans ss14
              replace ss21 := (kp 21 rfl).trans ss21
              replace ss26 := (kp 26 rfl).trans ss26
              replace ss36 := (kp 36 rfl).trans ss36
              replace ss46 := (kp 46 rfl).trans ss46
              replace ss68 := (kp 68 rfl).trans ss68
              replace ss102 := (kp 102 rfl).trans ss102
              replace ss110 := (kp 110 rfl).trans ss110
              replace dd := dd1.trans dd
              clear dd1 kp
              refine then_normal ?_
              refine hK25 _ _ ?_
              refine wp_seq_k fun KK26 hK26 => ?_
              refine wp_seq_k fun KK27 hK27 => ?_
              refine exact_w_r28 c rc acts tt b3 b7 b8 i hi hi2 z1ld z1rd y x hk0 hk1 hxn b10 z2d a2 cc2 ps2 la2 lc2 l2 H aa nn ss2 ?_
              clear H nn
              intro aa ww nn dd1 kp ss166 H
              replace ss0 := (kp 0 rfl).trans ss0
              replace ss1 := (kp 1 rfl).trans ss1
              replace ss2 := (kp 2 rfl).trans ss2
              replace ss3 := (kp 3 rfl).trans ss3
              replace ss7 := (kp 7 rfl).trans ss7
              replace ss8 := (kp 8 rfl).trans ss8
              replace ss9 := (kp 9 rfl).trans ss9
              replace ss10 := (kp 10 rfl).trans ss10
              replace ss11 := (kp 11 rfl).trans ss11
              replace ss12 := (kp 12 rfl).trans ss12
              replace ss13 := (kp 13 rfl).trans ss13
              replace ss14 := (kp 14 rfl).trans ss14
              replace ss19 := (kp 19 rfl).trans ss19
              replace ss21 := (kp 21 rfl).trans ss21
              replace ss26 := (kp 26 rfl).trans ss26
              replace ss36 := (kp 36 rfl).trans ss36
              replace ss46 := (kp 46 rfl).trans ss46
              replace ss68 := (kp 68 rfl).trans ss68
              replace ss102 := (kp 102 rfl).trans ss102
              replace ss110 := (kp 110 rfl).trans ss110
              replace dd := dd1.trans dd
              clear dd1 kp
              refine then_normal ?_
              refine hK27 _ _ ?_
              have hjn3 : ∀ (nw : Int) (aa : Act) (ww : World), aa.tmps.size = 175 → aa.defers = [] → aa.eval (.tmp 0) = .agg (cA c) → aa.eval (.tmp 1) = .slice (some y) acts.length rc → aa.eval (.tmp 2) = .int .i64 tt → aa.eval (.tmp 3) = .pointer (some ⟨b3, 0, none⟩) → aa.eval (.tmp 7) = .pointer (some ⟨b7, 0, none⟩) → aa.eval (.tmp 8) = .pointer (some ⟨b8, 0, none⟩) → aa.eval (.tmp 9) = .int .i64 i → aa.eval (.tmp 10) = .pointer (some ⟨b10, 0, none⟩) → aa.eval (.tmp 11) = .string ((lookV (mkC c) ps x.now x.who x.key x.body).1) → aa.eval (.tmp 12) = .int .i64 ((lookV (mkC c) ps x.now x.who x.key x.body).2) → aa.eval (.tmp 13) = .string ((lookR (mkC c) l x.now x.who x.key x.body).1) → aa.eval (.tmp 14) = .int .i64 ((lookR (mkC c) l x.now x.who x.key x.body).2) → aa.eval (.tmp 19) = .int .i64 nw → aa.eval (.tmp 21) = .bool false → aa.eval (.tmp 26) = .bool (checkV c == 0) → aa.eval (.tmp 36) = .bool ((decide (i < acts.length)) && (decide ((i : Int) < 60))) → aa.eval (.tmp 46) = .bool (decide (40 < (x.body.size : Int))) → aa.eval (.tmp 68) = .bool (!((isGoodV c x.key x.now) == (goodRV c x.key x.now))) → aa.eval (.tmp 102) = .bool ((!(((lookV (mkC c) ps x.now x.who x.key x.body).1).toList == ((lookR (mkC c) l x.now x.who x.key x.body).1).toList)) || (((lookV (mkC c) ps x.now x.who x.key x.body).2) != ((lookR (mkC c) l x.now x.who x.key x.body).2))) → aa.eval (.tmp 110) = .bool ((x.kind == 1) || (x.kind == 2)) → aa.eval (.tmp 166) = .bool ((decide (tt < (-1099511627776))) || (decide (1099511627776 < tt))) → Hid (Hp [] w ww [rB b10 87 [.int .i64 x.kind, .int .i64 x.now, .int .i64 x.who, .int .u64 x.key, .string x.body], rB b8 99 (rkL (mkC c) (.slice la2 l2.length lc2)), rB b7 84 (kL (mkC c) (mkR c) (.slice a2 ps2.length cc2)), rB b3 24 (cL c), rS la2 lc2 4 (l2.map entRow), rS a2 cc2 4 (ps2.map rowOf), rS (some y) rc 5 (acts.map actRow)]) → KK26 aa ww := by
                clear H nn dd ss0 ss1 ss2 ss3 ss7 ss8 ss9 ss10 ss11 ss12 ss13 ss14 ss19 ss21 ss26 ss36 ss46 ss68 ss102 ss110 ss166
                intro nw aa ww nn dd ss0 ss1 ss2 ss3 ss7 ss8 ss9 ss10 ss11 ss12 ss13 ss14 ss19 ss21 ss26 ss36 ss46 ss68 ss102 ss110 ss166 H
                refine hK26 _ _ ?_
                refine wp_seq_k fun KK28 hK28 => ?_
                refine exact_w_r30 c rc acts b3 b7 b8 i hi hi2 z1ld z1rd y x hk0 hk1 hxn b10 z2d a2 cc2 ps2 la2 lc2 l2 hrel nw H aa nn ss7 ss8 ss19 ?_
                clear H nn
                intro a30_5 c30_5 aa ww nn dd1 kp ss174 H
                replace ss0 := (kp 0 rfl).trans ss0
                replace ss1 := (kp 1 rfl).trans ss1
                replace ss2 := (kp 2 rfl).trans ss2
                replace ss3 := (kp 3 rfl).trans ss3
                replace ss7 := (kp 7 rfl).trans ss7
                replace ss8 := (kp 8 rfl).trans ss8
                replace ss9 := (kp 9 rfl).trans ss9
                replace ss10 := (kp 10 rfl).trans ss10
                replace ss11 := (kp 11 rfl).trans ss11
                replace ss12 := (kp 12 rfl).trans ss12
                replace ss13 := (kp 13 rfl).trans ss13
                replace ss14 := (kp 14 rfl).trans ss14
                replace ss19 := (kp 19 rfl).trans ss19
                replace ss21 := (kp 21 rfl).trans ss21
                replace ss26 := (kp 26 rfl).trans ss26
                replace ss36 := (kp 36 rfl).trans ss36
                replace ss46 := (kp 46 rfl).trans ss46
                replace ss68 := (kp 68 rfl).trans ss68
                replace ss102 := (kp 102 rfl).trans ss102
                replace ss110 := (kp 110 rfl).trans ss110
                replace ss166 := (kp 166 rfl).trans ss166
                replace dd := dd1.trans dd
                clear dd1 kp
                refine then_normal ?_
                refine hK28 _ _ ?_
                refine wp_cond_split ss174 (fun z5 => ?_) (fun z5 => ?_)
                · skip
                  have z5o : (((ps2.filter (keepB (mkC c) nw)).length : Int) == ((l2.filter (keepR (mkC c) nw)).length : Int)) = false := neq_t z5
                  exact no (no_count hrel.out nw) z5
                · skip
                  have z5o : (((ps2.filter (keepB (mkC c) nw)).length : Int) == ((l2.filter (keepR (mkC c) nw)).length : Int)) = true := neq_f z5
                  refine wp_skip ?_
                  refine block_normal ?_
                  refine then_normal ?_
                  refine hK12 _ _ ?_
                  refine exact_w_r9 c rc acts b3 b7 b8 i hi hi2 z1ld z1rd y x hk0 hk1 hxn b10 z2d a2 cc2 ps2 la2 lc2 l2 nw a30_5 c30_5 H aa nn ss9 ?_
                  clear H nn ss9
                  intro aa ww nn dd1 kp ss9 H
                  replace ss0 := (kp 0 rfl).trans ss0
                  replace ss1 := (kp 1 rfl).trans ss1
                  replace ss2 := (kp 2 rfl).trans ss2
                  replace ss3 := (kp 3 rfl).trans ss3
                  replace ss7 := (kp 7 rfl).trans ss7
                  replace ss8 := (kp 8 rfl).trans ss8
                  replace ss10 := (kp 10 rfl).trans ss10
                  replace ss11 := (kp 11 rfl).trans ss11
                  replace ss12 := (kp 12 rfl).trans ss12
                  replace ss13 := (kp 13 rfl).trans ss13
                  replace ss14 := (kp 14 rfl).trans ss14
                  replace ss19 := (kp 19 rfl).trans ss19
                  replace ss21 := (kp 21 rfl).trans ss21
                  replace ss26 := (kp 26 rfl).trans ss26
                  replace ss36 := (kp 36 rfl).trans ss36
                  replace ss46 := (kp 46 rfl).trans ss46
                  replace ss68 := (kp 68 rfl).trans ss68
                  replace ss102 := (kp 102 rfl).trans ss102
                  replace ss110 := (kp 110 rfl).trans ss110
                  replace ss166 := (kp 166 rfl).trans ss166
                  replace ss174 := (kp 174 rfl).trans ss174
                  replace dd := dd1.trans dd
                  clear dd1 kp
                  refine then_normal ?_
                  replace H := hp_front H 7 rfl
                  replace H := hp_front H 7 rfl
                  replace H := hp_front H 7 rfl
                  replace H := hp_front H 7 rfl
                  replace H := hp_front H 7 rfl
                  replace H := hp_front H 7 rfl
                  refine ⟨⟨i + 1, a2, cc2, ps2, la2, lc2, l2, (by omega), (by omega), hrel, nn, dd, ss0, ss1, ss2, ss3, ss7, ss8, ss9, ss21, ss26, (hp_take H 6)⟩, ?_⟩
                  simp only [mu1_9, ss9, intOf]
                  omega
              refine wp_cond_split ss166 (fun z6 => ?_) (fun z6 => ?_)
              · skip
                refine exact_w_r29 c rc acts b3 b7 b8 i hi hi2 z1ld z1rd y x hk0 hk1 hxn b10 z2d a2 cc2 ps2 la2 lc2 l2 H aa nn  ?_
                clear H nn ss19
                intro aa ww nn dd1 kp ss19 H
                replace ss0 := (kp 0 rfl).trans ss0
                replace ss1 := (kp 1 rfl).trans ss1
                replace ss2 := (kp 2 rfl).trans ss2
                replace ss3 := (kp 3 rfl).trans ss3
                replace ss7 := (kp 7 rfl).trans ss7
                replace ss8 := (kp 8 rfl).trans ss8
                replace ss9 := (kp 9 rfl).trans ss9
                replace ss10 := (kp 10 rfl).trans ss10
                replace ss11 := (kp 11 rfl).trans ss11
                replace ss12 := (kp 12 rfl).trans ss12
                replace ss13 := (kp 13 rfl).trans ss13
                replace ss14 := (kp 14 rfl).trans ss14
                replace ss21 := (kp 21 rfl).trans ss21
                replace ss26 := (kp 26 rfl).trans ss26
                replace ss36 := (kp 36 rfl).trans ss36
                replace ss46 := (kp 46 rfl).trans ss46
                replace ss68 := (kp 68 rfl).trans ss68
                replace ss102 := (kp 102 rfl).trans ss102
                replace ss110 := (kp 110 rfl).trans ss110
                replace ss166 := (kp 166 rfl).trans ss166
                replace dd := dd1.trans dd
                clear dd1 kp
                refine then_normal ?_
                exact hjn3 7 _ _ nn dd ss0 ss1 ss2 ss3 ss7 ss8 ss9 ss10 ss11 ss12 ss13 ss14 ss19 ss21 ss26 ss36 ss46 ss68 ss102 ss110 ss166 H
              · skip
                have z6l : (decide (tt < (-1099511627776))) = false := ol z6
                have z6ld : ¬ (tt < (-1099511627776)) := of_decide_eq_false z6l
                have z6r : (decide (1099511627776 < tt)) = false := orr z6
                have z6rd : ¬ (1099511627776 < tt) := of_decide_eq_false z6r
                refine wp_skip ?_
                refine then_normal ?_
                exact hjn3 tt _ _ nn dd ss0 ss1 ss2 ss3 ss7 ss8 ss9 ss10 ss11 ss12 ss13 ss14 ss19 ss21 ss26 ss36 ss46 ss68 ss102 ss110 ss166 H
            refine wp_cond_split ss110 (fun z7 => ?_) (fun z7 => ?_)
            · skip
              refine wp_seq_k fun KK29 hK29 => ?_
              rcases Bool.eq_false_or_eq_true ((lookV (mkC c) ps x.now x.who x.key x.body).2 != 1) with y8 | y8
              · skip
                have y8o : ((lookV (mkC c) ps x.now x.who x.key x.body).2 == 1) = false := neq_t y8
                refine exact_w_r20 c rc acts b3 b7 b8 i a cc ps la lc l hi hi2 hrel z1ld z1rd y x hk0 hk1 hxn b10 z2d y8 H aa nn ss7 ss10 ?_
                clear H nn
                intro b15 aa ww nn dd1 kp ss15 ss16 H
                replace ss0 := (kp 0 rfl).trans ss0
                replace ss1 := (kp 1 rfl).trans ss1
                replace ss2 := (kp 2 rfl).trans ss2
                replace ss3 := (kp 3 rfl).trans ss3
                replace ss7 := (kp 7 rfl).trans ss7
                replace ss8 := (kp 8 rfl).trans ss8
                replace ss9 := (kp 9 rfl).trans ss9
                replace ss10 := (kp 10 rfl).trans ss10
                replace ss11 := (kp 11 rfl).trans ss11
                replace ss12 := (kp 12 rfl).trans ss12
                replace ss13 := (kp 13 rfl).trans ss13
                replace ss14 := (kp 14 rfl).trans ss14
                replace ss21 := (kp 21 rfl).trans ss21
                replace ss26 := (kp 26 rfl).trans ss26
                replace ss36 := (kp 36 rfl).trans ss36
                replace ss46 := (kp 46 rfl).trans ss46
                replace ss68 := (kp 68 rfl).trans ss68
                replace ss102 := (kp 102 rfl).trans ss102
                replace ss110 := (kp 110 rfl).trans ss110
                replace dd := dd1.trans dd
                clear dd1 kp
                refine then_normal ?_
                refine hK29 _ _ ?_
                refine wp_seq_k fun KK30 hK30 => ?_
                have hrx : (((lookR (mkC c) l x.now x.who x.key x.body).2 != 1) = true) := by rw [← look_eq hrel.out hk0 hk1 hxn]; exact y8
                refine exact_w_r21 c rc acts b3 b7 b8 i a cc ps la lc l hi hi2 hrel z1ld z1rd y x hk0 hk1 hxn b10 z2d b15 hrx H aa nn ss8 ss10 ?_
                clear H nn
                intro b17 aa ww nn dd1 kp ss17 ss18 H
                replace ss0 := (kp 0 rfl).trans ss0
                replace ss1 := (kp 1 rfl).trans ss1
                replace ss2 := (kp 2 rfl).trans ss2
                replace ss3 := (kp 3 rfl).trans ss3
                replace ss7 := (kp 7 rfl).trans ss7
                replace ss8 := (kp 8 rfl).trans ss8
                replace ss9 := (kp 9 rfl).trans ss9
                replace ss10 := (kp 10 rfl).trans ss10
                replace ss11 := (kp 11 rfl).trans ss11
                replace ss12 := (kp 12 rfl).trans ss12
                replace ss13 := (kp 13 rfl).trans ss13
                replace ss14 := (kp 14 rfl).trans ss14
                replace ss15 := (kp 15 rfl).trans ss15
                replace ss16 := (kp 16 rfl).trans ss16
                replace ss21 := (kp 21 rfl).trans ss21
                replace ss26 := (kp 26 rfl).trans ss26
                replace ss36 := (kp 36 rfl).trans ss36
                replace ss46 := (kp 46 rfl).trans ss46
                replace ss68 := (kp 68 rfl).trans ss68
                replace ss102 := (kp 102 rfl).trans ss102
                replace ss110 := (kp 110 rfl).trans ss110
                replace dd := dd1.trans dd
                clear dd1 kp
                refine then_normal ?_
                refine hK30 _ _ ?_
                refine wp_seq_k fun KK31 hK31 => ?_
                refine wp_seq_k fun KK32 hK32 => ?_
                refine exact_w_r22 c rc acts b3 b7 b8 i a cc ps la lc l hi hi2 z1ld z1rd y x hk0 hk1 hxn b10 z2d b15 hrx b17 H aa nn ss15 ss16 ss18 ?_
                clear H nn
                intro aa ww nn dd1 kp ss155 H
                replace ss0 := (kp 0 rfl).trans ss0
                replace ss1 := (kp 1 rfl).trans ss1
                replace ss2 := (kp 2 rfl).trans ss2
                replace ss3 := (kp 3 rfl).trans ss3
                replace ss7 := (kp 7 rfl).trans ss7
                replace ss8 := (kp 8 rfl).trans ss8
                replace ss9 := (kp 9 rfl).trans ss9
                replace ss10 := (kp 10 rfl).trans ss10
                replace ss11 := (kp 11 rfl).trans ss11
                replace ss12 := (kp 12 rfl).trans ss12
                replace ss13 := (kp 13 rfl).trans ss13
                replace ss14 := (kp 14 rfl).trans ss14
                replace ss15 := (kp 15 rfl).trans ss15
                replace ss16 := (kp 16 rfl).trans ss16
                replace ss17 := (kp 17 rfl).trans ss17
                replace ss18 := (kp 18 rfl).trans ss18
                replace ss21 := (kp 21 rfl).trans ss21
                replace ss26 := (kp 26 rfl).trans ss26
                replace ss36 := (kp 36 rfl).trans ss36
                replace ss46 := (kp 46 rfl).trans ss46
                replace ss68 := (kp 68 rfl).trans ss68
                replace ss102 := (kp 102 rfl).trans ss102
                replace ss110 := (kp 110 rfl).trans ss110
                replace dd := dd1.trans dd
                clear dd1 kp
                refine then_normal ?_
                refine hK32 _ _ ?_
                refine wp_cond_false ss155 ?_
                refine wp_skip ?_
                refine then_normal ?_
                refine hK31 _ _ ?_
                refine wp_seq_k fun KK33 hK33 => ?_
                refine exact_w_r24 c rc acts b3 b7 b8 i a cc ps la lc l hi hi2 z1ld z1rd y x hk0 hk1 hxn b10 z2d b15 hrx b17 H aa nn ss16 ?_
                clear H nn
                intro aa ww nn dd1 kp ss157 H
                replace ss0 := (kp 0 rfl).trans ss0
                replace ss1 := (kp 1 rfl).trans ss1
                replace ss2 := (kp 2 rfl).trans ss2
                replace ss3 := (kp 3 rfl).trans ss3
                replace ss7 := (kp 7 rfl).trans ss7
                replace ss8 := (kp 8 rfl).trans ss8
                replace ss9 := (kp 9 rfl).trans ss9
                replace ss10 := (kp 10 rfl).trans ss10
                replace ss11 := (kp 11 rfl).trans ss11
                replace ss12 := (kp 12 rfl).trans ss12
                replace ss13 := (kp 13 rfl).trans ss13
                replace ss14 := (kp 14 rfl).trans ss14
                replace ss15 := (kp 15 rfl).trans ss15
                replace ss16 := (kp 16 rfl).trans ss16
                replace ss17 := (kp 17 rfl).trans ss17
                replace ss18 := (kp 18 rfl).trans ss18
                replace ss21 := (kp 21 rfl).trans ss21
                replace ss26 := (kp 26 rfl).trans ss26
                replace ss36 := (kp 36 rfl).trans ss36
                replace ss46 := (kp 46 rfl).trans ss46
                replace ss68 := (kp 68 rfl).trans ss68
                replace ss102 := (kp 102 rfl).trans ss102
                replace ss110 := (kp 110 rfl).trans ss110
                replace ss155 := (kp 155 rfl).trans ss155
                replace dd := dd1.trans dd
                clear dd1 kp
                refine then_normal ?_
                refine hK33 _ _ ?_
                refine wp_cond_false ss157 ?_
                refine wp_skip ?_
                refine then_normal ?_
                replace H := hp_front H 8 rfl
                replace H := hp_front H 8 rfl
                replace H := hp_front H 8 rfl
                replace H := hp_front H 8 rfl
                replace H := hp_front H 8 rfl
                replace H := hp_front H 8 rfl
                replace H := hp_front H 8 rfl
                exact hjn2 a cc ps la lc l _ _ hrel nn dd ss0 ss1 ss2 ss3 ss7 ss8 ss9 ss10 ss11 ss12 ss13 ss14 ss21 ss26 ss36 ss46 ss68 ss102 ss110 (hp_take H 7)
              · skip
                have y8o : ((lookV (mkC c) ps x.now x.who x.key x.body).2 == 1) = true := neq_f y8
                refine exact_w_r20x1 c rc acts b3 b7 b8 i a cc ps la lc l hi hi2 hrel z1ld z1rd y x hk0 hk1 hxn b10 z2d y8 H aa nn ss7 ss10 ?_
                clear H nn
                intro a20_12 c20_12 b15 aa ww nn dd1 kp ss15 ss16 H
                replace ss0 := (kp 0 rfl).trans ss0
                replace ss1 := (kp 1 rfl).trans ss1
                replace ss2 := (kp 2 rfl).trans ss2
                replace ss3 := (kp 3 rfl).trans ss3
                replace ss7 := (kp 7 rfl).trans ss7
                replace ss8 := (kp 8 rfl).trans ss8
                replace ss9 := (kp 9 rfl).trans ss9
                replace ss10 := (kp 10 rfl).trans ss10
                replace ss11 := (kp 11 rfl).trans ss11
                replace ss12 := (kp 12 rfl).trans ss12
                replace ss13 := (kp 13 rfl).trans ss13
                replace ss14 := (kp 14 rfl).trans ss14
                replace ss21 := (kp 21 rfl).trans ss21
                replace ss26 := (kp 26 rfl).trans ss26
                replace ss36 := (kp 36 rfl).trans ss36
                replace ss46 := (kp 46 rfl).trans ss46
                replace ss68 := (kp 68 rfl).trans ss68
                replace ss102 := (kp 102 rfl).trans ss102
                replace ss110 := (kp 110 rfl).trans ss110
                replace dd := dd1.trans dd
                clear dd1 kp
                refine then_normal ?_
                refine hK29 _ _ ?_
                refine wp_seq_k fun KK34 hK34 => ?_
                have hrx : (((lookR (mkC c) l x.now x.who x.key x.body).2 != 1) = false) := by rw [← look_eq hrel.out hk0 hk1 hxn]; exact y8
                refine exact_w_r21x1 c rc acts b3 b7 b8 i a cc ps la lc l hi hi2 hrel z1ld z1rd y x hk0 hk1 hxn b10 z2d a20_12 c20_12 b15 hrx H aa nn ss8 ss10 ?_
                clear H nn
                intro a21_12 c21_12 b17 aa ww nn dd1 kp ss17 ss18 H
                replace ss0 := (kp 0 rfl).trans ss0
                replace ss1 := (kp 1 rfl).trans ss1
                replace ss2 := (kp 2 rfl).trans ss2
                replace ss3 := (kp 3 rfl).trans ss3
                replace ss7 := (kp 7 rfl).trans ss7
                replace ss8 := (kp 8 rfl).trans ss8
                replace ss9 := (kp 9 rfl).trans ss9
                replace ss10 := (kp 10 rfl).trans ss10
                replace ss11 := (kp 11 rfl).trans ss11
                replace ss12 := (kp 12 rfl).trans ss12
                replace ss13 := (kp 13 rfl).trans ss13
                replace ss14 := (kp 14 rfl).trans ss14
                replace ss15 := (kp 15 rfl).trans ss15
                replace ss16 := (kp 16 rfl).trans ss16
                replace ss21 := (kp 21 rfl).trans ss21
                replace ss26 := (kp 26 rfl).trans ss26
                replace ss36 := (kp 36 rfl).trans ss36
                replace ss46 := (kp 46 rfl).trans ss46
                replace ss68 := (kp 68 rfl).trans ss68
                replace ss102 := (kp 102 rfl).trans ss102
                replace ss110 := (kp 110 rfl).trans ss110
                replace dd := dd1.trans dd
                clear dd1 kp
                refine then_normal ?_
                refine hK34 _ _ ?_
                refine wp_seq_k fun KK35 hK35 => ?_
                refine wp_seq_k fun KK36 hK36 => ?_
                refine exact_w_r22x1 c rc acts b3 b7 b8 i a cc ps la lc l hi hi2 z1ld z1rd y x hk0 hk1 hxn b10 z2d a20_12 c20_12 b15 hrx a21_12 c21_12 b17 H aa nn ss16 ss18 ?_
                clear H nn
                intro aa ww nn dd1 kp ss155 H
                replace ss0 := (kp 0 rfl).trans ss0
                replace ss1 := (kp 1 rfl).trans ss1
                replace ss2 := (kp 2 rfl).trans ss2
                replace ss3 := (kp 3 rfl).trans ss3
                replace ss7 := (kp 7 rfl).trans ss7
                replace ss8 := (kp 8 rfl).trans ss8
                replace ss9 := (kp 9 rfl).trans ss9
                replace ss10 := (kp 10 rfl).trans ss10
                replace ss11 := (kp 11 rfl).trans ss11
                replace ss12 := (kp 12 rfl).trans ss12
                replace ss13 := (kp 13 rfl).trans ss13
                replace ss14 := (kp 14 rfl).trans ss14
                replace ss15 := (kp 15 rfl).trans ss15
                replace ss16 := (kp 16 rfl).trans ss16
                replace ss17 := (kp 17 rfl).trans ss17
                replace ss18 := (kp 18 rfl).trans ss18
                replace ss21 := (kp 21 rfl).trans ss21
                replace ss26 := (kp 26 rfl).trans ss26
                replace ss36 := (kp 36 rfl).trans ss36
                replace ss46 := (kp 46 rfl).trans ss46
                replace ss68 := (kp 68 rfl).trans ss68
                replace ss102 := (kp 102 rfl).trans ss102
                replace ss110 := (kp 110 rfl).trans ss110
                replace dd := dd1.trans dd
                clear dd1 kp
                refine then_normal ?_
                refine hK36 _ _ ?_
                refine wp_cond_false ss155 ?_
                refine wp_skip ?_
                refine then_normal ?_
                refine hK35 _ _ ?_
                refine wp_seq_k fun KK37 hK37 => ?_
                refine exact_w_r24x1 c rc acts b3 b7 b8 i a cc ps la lc l hi hi2 z1ld z1rd y x hk0 hk1 hxn b10 z2d a20_12 c20_12 b15 hrx a21_12 c21_12 b17 H aa nn ss16 ?_
                clear H nn
                intro aa ww nn dd1 kp ss157 H
                replace ss0 := (kp 0 rfl).trans ss0
                replace ss1 := (kp 1 rfl).trans ss1
                replace ss2 := (kp 2 rfl).trans ss2
                replace ss3 := (kp 3 rfl).trans ss3
                replace ss7 := (kp 7 rfl).trans ss7
                replace ss8 := (kp 8 rfl).trans ss8
                replace ss9 := (kp 9 rfl).trans ss9
                replace ss10 := (kp 10 rfl).trans ss10
                replace ss11 := (kp 11 rfl).trans ss11
                replace ss12 := (kp 12 rfl).trans ss12
                replace ss13 := (kp 13 rfl).trans ss13
                replace ss14 := (kp 14 rfl).trans ss14
                replace ss15 := (kp 15 rfl).trans ss15
                replace ss16 := (kp 16 rfl).trans ss16
                replace ss17 := (kp 17 rfl).trans ss17
                replace ss18 := (kp 18 rfl).trans ss18
                replace ss21 := (kp 21 rfl).trans ss21
                replace ss26 := (kp 26 rfl).trans ss26
                replace ss36 := (kp 36 rfl).trans ss36
                replace ss46 := (kp 46 rfl).trans ss46
                replace ss68 := (kp 68 rfl).trans ss68
                replace ss102 := (kp 102 rfl).trans ss102
                replace ss110 := (kp 110 rfl).trans ss110
                replace ss155 := (kp 155 rfl).trans ss155
                replace dd := dd1.trans dd
                clear dd1 kp
                refine then_normal ?_
                refine hK37 _ _ ?_
                refine wp_cond_true ss157 ?_
                refine wp_seq_k fun KK38 hK38 => ?_
                refine exact_w_r25 c rc acts b3 b7 b8 i a cc ps la lc l hi hi2 z1ld z1rd y x hk0 hk1 hxn b10 z2d a20_12 c20_12 b15 hrx a21_12 c21_12 b17 H aa nn ss7 ss15 ?_
                clear H nn
                intro aa ww nn dd1 kp H
                replace ss0 := (kp 0 rfl).trans ss0
                replace ss1 := (kp 1 rfl).trans ss1
                replace ss2 := (kp 2 rfl).trans ss2
                replace ss3 := (kp 3 rfl).trans ss3
                replace ss7 := (kp 7 rfl).trans ss7
                replace ss8 := (kp 8 rfl).trans ss8
                replace ss9 := (kp 9 rfl).trans ss9
                replace ss10 := (kp 10 rfl).trans ss10
                replace ss11 := (kp 11 rfl).trans ss11
                replace ss12 := (kp 12 rfl).trans ss12
                replace ss13 := (kp 13 rfl).trans ss13
                replace ss14 := (kp 14 rfl).trans ss14
                replace ss15 := (kp 15 rfl).trans ss15
                replace ss16 := (kp 16 rfl).trans ss16
                replace ss17 := (kp 17 rfl).trans ss17
                replace ss18 := (kp 18 rfl).trans ss18
                replace ss21 := (kp 21 rfl).trans ss21
                replace ss26 := (kp 26 rfl).trans ss26
                replace ss36 := (kp 36 rfl).trans ss36
                replace ss46 := (kp 46 rfl).trans ss46
                replace ss68 := (kp 68 rfl).trans ss68
                replace ss102 := (kp 102 rfl).trans ss102
                replace ss110 := (kp 110 rfl).trans ss110
                replace ss155 := (kp 155 rfl).trans ss155
                replace ss157 := (kp 157 rfl).trans ss157
                replace dd := dd1.trans dd
                clear dd1 kp
                refine then_normal ?_
                refine hK38 _ _ ?_
                refine exact_w_r26 c rc acts b3 b7 b8 i a cc ps la lc l hi hi2 z1ld z1rd y x hk0 hk1 hxn b10 z2d a20_12 c20_12 b15 hrx a21_12 c21_12 b17 H aa nn ss8 ss17 ?_
                clear H nn
                intro aa ww nn dd1 kp H
                replace ss0 := (kp 0 rfl).trans ss0
                replace ss1 := (kp 1 rfl).trans ss1
                replace ss2 := (kp 2 rfl).trans ss2
                replace ss3 := (kp 3 rfl).trans ss3
                replace ss7 := (kp 7 rfl).trans ss7
                replace ss8 := (kp 8 rfl).trans ss8
                replace ss9 := (kp 9 rfl).trans ss9
                replace ss10 := (kp 10 rfl).trans ss10
                replace ss11 := (kp 11 rfl).trans ss11
                replace ss12 := (kp 12 rfl).trans ss12
                replace ss13 := (kp 13 rfl).trans ss13
                replace ss14 := (kp 14 rfl).trans ss14
                replace ss15 := (kp 15 rfl).trans ss15
                replace ss16 := (kp 16 rfl).trans ss16
                replace ss17 := (kp 17 rfl).trans ss17
                replace ss18 := (kp 18 rfl).trans ss18
                replace ss21 := (kp 21 rfl).trans ss21
                replace ss26 := (kp 26 rfl).trans ss26
                replace ss36 := (kp 36 rfl).trans ss36
                replace ss46 := (kp 46 rfl).trans ss46
                replace ss68 := (kp 68 rfl).trans ss68
                replace ss102 := (kp 102 rfl).trans ss102
                replace ss110 := (kp 110 rfl).trans ss110
                replace ss155 := (kp 155 rfl).trans ss155
                replace ss157 := (kp 157 rfl).trans ss157
                replace dd := dd1.trans dd
                clear dd1 kp
                refine then_normal ?_
                replace H := hp_front H 10 rfl
                replace H := hp_front H 4 rfl
                replace H := hp_front H 3 rfl
                replace H := hp_front H 8 rfl
                replace H := hp_front H 8 rfl
                replace H := hp_front H 8 rfl
                replace H := hp_front H 8 rfl
                exact hjn2 a20_12 c20_12 ((withV (mkR c) (nameV x.who x.key) ⟨x.key / 4294967296, x.body, x.body ++ (⟨#[33]⟩ : ByteArray)⟩ (ps.filter (keepB (mkC c) x.now))).1) a21_12 c21_12 (l.filter (keepR (mkC c) x.now) ++ [(⟨x.who, x.key, x.body, x.body ++ (⟨#[33]⟩ : ByteArray)⟩ : EntR)]) _ _ (Lib.hid (rel_with hrel.out hk0 hk1 y8)) nn dd ss0 ss1 ss2 ss3 ss7 ss8 ss9 ss10 ss11 ss12 ss13 ss14 ss21 ss26 ss36 ss46 ss68 ss102 ss110 (hp_take H 7)
            · skip
              have z7l : (x.kind == 1) = false := ol z7
              have z7lo : (x.kind != 1) = true := eqq_f z7l
              have z7r : (x.kind == 2) = false := orr z7
              have z7ro : (x.kind != 2) = true := eqq_f z7r
              refine wp_skip ?_
              refine then_normal ?_
              replace H := hp_front H 6 rfl
              replace H := hp_front H 6 rfl
              replace H := hp_front H 6 rfl
              replace H := hp_front H 6 rfl
              replace H := hp_front H 6 rfl
              replace H := hp_front H 6 rfl
              replace H := hp_front H 6 rfl
              exact hjn2 a cc ps la lc l _ _ hrel nn dd ss0 ss1 ss2 ss3 ss7 ss8 ss9 ss10 ss11 ss12 ss13 ss14 ss21 ss26 ss36 ss46 ss68 ss102 ss110 (hp_take H 7)
    · skip
      refine wp_exit ?_
      refine then_exit ?_
      refine then_exit ?_
      refine block_exit ?_
      refine then_normal ?_
      refine hK8 _ _ ?_
      refine wp_seq_k fun KK39 hK39 => ?_
      refine exact_w_r32 c ra rc acts b3 b7 b8 i a cc ps la lc l hi hi2 H aa nn  ?_
      clear H nn
      intro aa ww nn dd1 kp ss6 H
      replace ss0 := (kp 0 rfl).trans ss0
      replace ss1 := (kp 1 rfl).trans ss1
      replace ss2 := (kp 2 rfl).trans ss2
      replace ss3 := (kp 3 rfl).trans ss3
      replace ss7 := (kp 7 rfl).trans ss7
      replace ss8 := (kp 8 rfl).trans ss8
      replace ss9 := (kp 9 rfl).trans ss9
      replace ss21 := (kp 21 rfl).trans ss21
      replace ss26 := (kp 26 rfl).trans ss26
      replace ss36 := (kp 36 rfl).trans ss36
      replace dd := dd1.trans dd
      clear dd1 kp
      refine then_normal ?_
      refine hK39 _ _ ?_
      refine wp_ret ?_
      exact ret1 rfl dd ss6 ⟨rfl, H.out.off⟩
  refine wp_cond_split ss26 (fun z9 => ?_) (fun z9 => ?_)
  · skip
    have z9o : (checkV c != 0) = false := eqq_t z9
    refine exact_w_r6 c ra rc acts b3 b7 b8 H aa nn ss3 ss8 ?_
    clear H nn
    intro aa ww nn dd1 kp H
    replace ss0 := (kp 0 rfl).trans ss0
    replace ss1 := (kp 1 rfl).trans ss1
    replace ss2 := (kp 2 rfl).trans ss2
    replace ss3 := (kp 3 rfl).trans ss3
    replace ss6 := (kp 6 rfl).trans ss6
    replace ss7 := (kp 7 rfl).trans ss7
    replace ss8 := (kp 8 rfl).trans ss8
    replace ss21 := (kp 21 rfl).trans ss21
    replace ss26 := (kp 26 rfl).trans ss26
    replace dd := dd1.trans dd
    clear dd1 kp
    refine then_normal ?_
    rw [show rkL c (.slice none 0 0) = rkL (mkC c) (.slice none 0 0) by rw [good_mkC z9]] at H
    replace H := hp_front H 5 rfl
    replace H := hp_front H 5 rfl
    replace H := hp_front H 5 rfl
    replace H := hp_front H 5 rfl
    replace H := hp_front H 5 rfl
    replace H := hp_front H 5 rfl
    exact hjn1 _ _ nn dd ss0 ss1 ss2 ss3 ss6 ss7 ss8 ss21 ss26 (hp_take H 6)
  · skip
    have z9o : (checkV c != 0) = true := eqq_f z9
    refine wp_skip ?_
    refine then_normal ?_
    rw [show ([.int .i64 0, .int .i64 0, .int .i64 0, .int .i64 0, .int .i64 0, .int .i64 0, .int .i64 0, .int .i64 0, .int .i64 0, .int .i64 0, .int .i64 0, .int .i64 0, .int .i64 0, .int .i64 0, .int .i64 0, .int .i64 0, .int .i64 0, .int .u32 0, .slice none 0 0] : List Value) = rkL (mkC c) (.slice none 0 0) by rw [bad_mkC z9]; rfl] at H
    replace H := hp_front H 5 rfl
    replace H := hp_front H 5 rfl
    replace H := hp_front H 5 rfl
    replace H := hp_front H 5 rfl
    replace H := hp_front H 5 rfl
    replace H := hp_front H 5 rfl
    exact hjn1 _ _ nn dd ss0 ss1 ss2 ss3 ss6 ss7 ss8 ss21 ss26 (hp_take H 6)
end Go.Proofs.Ytfhhfmkfkoemjaa.Se6
