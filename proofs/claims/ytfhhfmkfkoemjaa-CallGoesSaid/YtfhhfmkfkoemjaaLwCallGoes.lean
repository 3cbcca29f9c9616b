/- A call goes on by its rows alone: the walk. -/
import Derived.Test.YtfhhfmkfkoemjaaProg
import Derived.Below
import Derived.WalkKit
import Derived.KernelRfl
import Derived.RowKit3
import Derived.Deep.LoopGhost
import Derived.Deep.QuietTactic
import Derived.BigQuiet
import Derived.WideLaws
import Derived.Deep.DeepCutAuto
import Derived.Deep.CutBlock
import Derived.Lib.Hide
import Derived.Laws.BitsLemmas
import Derived.Laws.Bits64
import Derived.Laws.BitsAllLaws
import Derived.IntWalk
import Derived.Outline
import Derived.WalkSpells
import Derived.Test.YtfhhfmkfkoemjaaMem
import Derived.Test.YtfhhfmkfkoemjaaLwCallGoesa
namespace Go.Proofs.Ytfhhfmkfkoemjaa.Ca
open Go.RowKit Go.Proofs.Ytfhhfmkfkoemjaa.Mem Go.Proofs.Ytfhhfmkfkoemjaa.Reg Go.Proofs.Ytfhhfmkfkoemjaa.Si
set_option linter.unusedVariables false
set_option linter.unusedSimpArgs false

set_option maxRecDepth 20000 in
theorem goes_w_r40 (c : Cfg) (x : CallV) (ra : Option Addr) (rc : Nat) (zs : List Int) (b3 : Nat) (b4 : Nat) (b7 : Nat) (i : Nat) (y : CallV) (hi : i ≤ zs.length) (hi2 : i ≤ 60) {wa wb : World} (H : Hid (Hp [] wa wb [rB b7 26 [.int .i64 y.id, .int .i64 y.kind, .int .i64 y.src, .int .i64 y.dst, .int .i64 y.car, .int .i64 y.state, .int .i64 y.owner, .int .i64 y.born], rB b4 26 [.int .i64 x.id, .int .i64 x.kind, .int .i64 x.src, .int .i64 x.dst, .int .i64 x.car, .int .i64 x.state, .int .i64 x.owner, .int .i64 x.born], rB b3 24 (cL c), rS ra rc 1 (zs.map intRow)])) (ac0 : Act) (hz : ac0.tmps.size = 203)  {QR : Exit → Act → World → Prop} (hfin : ∀ (ac1 : Act) (wz : World), ac1.tmps.size = 203 → ac1.defers = ac0.defers → (∀ t, ([6] : List Nat).contains t = false → ac1.eval (.tmp t) = ac0.eval (.tmp t)) → ac1.eval (.tmp 6) = .bool true →  Hid (Hp [] wa wz [rB b7 26 [.int .i64 y.id, .int .i64 y.kind, .int .i64 y.src, .int .i64 y.dst, .int .i64 y.car, .int .i64 y.state, .int .i64 y.owner, .int .i64 y.born], rB b4 26 [.int .i64 x.id, .int .i64 x.kind, .int .i64 x.src, .int .i64 x.dst, .int .i64 x.car, .int .i64 x.state, .int .i64 x.owner, .int .i64 x.born], rB b3 24 (cL c), rS ra rc 1 (zs.map intRow)]) → QR .normal ac1 wz) : (regAt Try.f3 40).wp Try.prog QR ac0 wb := by
  refine wp_region_sq (by kernel_rfl) 203 hz (by kernel_rfl) (fun (xx : Unit) jx => nth [.bool true] jx) (fun (LL : Nat → Bool) (xx : Unit) ww => Hp [] wa ww [rB b7 26 [.int .i64 y.id, .int .i64 y.kind, .int .i64 y.src, .int .i64 y.dst, .int .i64 y.car, .int .i64 y.state, .int .i64 y.owner, .int .i64 y.born], rB b4 26 [.int .i64 x.id, .int .i64 x.kind, .int .i64 x.src, .int .i64 x.dst, .int .i64 x.car, .int .i64 x.state, .int .i64 x.owner, .int .i64 x.born], rB b3 24 (cL c), rS ra rc 1 (zs.map intRow)]) () H.out ?_ (steps_al ?_) ?_ ?_
  · exact fun _ _ _ _ _ h => h
  · refine al_cons ?_ (al_nil)
    · intro LL xx ac wc sg hst hwant QQ hgo
      exact op_val hwant hgo hst _ (exec_assign rfl rfl) rfl
  · exact skips [] (by kernel_rfl) (fun _ h => by cases h)
  · intro xx ac1 wz hfr hsl hst
    exact hfin ac1 wz (hfr.size.trans hz) hfr.defers (fr_keep hfr [6] (by kernel_rfl)) (hsl 0 (by decide)) (Lib.hid hst)
set_option maxHeartbeats 16000000 in
set_option maxRecDepth 20000 in
theorem goes_w (c : Cfg) (x : CallV) (ra : Option Addr) (rc : Nat) (zs : List Int) (w : World) (h1 : (rS ra rc 1 (zs.map intRow)).holds w) : Calls Try.prog 3 #[.agg (cA c), .agg #[.int .i64 x.id, .int .i64 x.kind, .int .i64 x.src, .int .i64 x.dst, .int .i64 x.car, .int .i64 x.state, .int .i64 x.owner, .int .i64 x.born], .slice ra zs.length rc] w fun e w' => e = .returned (.bool true) ∧ Off [] w w' := by
  have H := Lib.hid (Hp.start [] w)
  have H := hp_old H h1 (by decide)
  clear h1
  refine calls_start Try.func3 rfl 203 rfl (by simp) (fun aa nn dd sl => ?_)
  have ss0 : aa.eval (.tmp 0) = .agg (cA c) := sl 0 (by simp)
  have ss1 : aa.eval (.tmp 1) = .agg #[.int .i64 x.id, .int .i64 x.kind, .int .i64 x.src, .int .i64 x.dst, .int .i64 x.car, .int .i64 x.state, .int .i64 x.owner, .int .i64 x.born] := sl 1 (by simp)
  have ss2 : aa.eval (.tmp 2) = .slice ra zs.length rc := sl 2 (by simp)
  clear sl
  refine wp_seq_k fun KK1 hK1 => ?_
  refine goes_w_r0 c x ra rc zs H aa nn ss0 ss1 ?_
  clear H nn
  intro b3 b4 aa ww nn dd1 kp ss3 ss4 ss6 H
  replace ss0 := (kp 0 rfl).trans ss0
  replace ss1 := (kp 1 rfl).trans ss1
  replace ss2 := (kp 2 rfl).trans ss2
  replace dd := dd1.trans dd
  clear dd1 kp
  refine then_normal ?_
  refine hK1 _ _ ?_
  refine wp_seq_k fun KK2 hK2 => ?_
  refine wp_seq_k fun KK3 hK3 => ?_
  refine goes_w_r1 c x ra rc zs b3 b4 H aa nn  ?_
  clear H nn
  intro aa ww nn dd1 kp ss16 H
  replace ss0 := (kp 0 rfl).trans ss0
  replace ss1 := (kp 1 rfl).trans ss1
  replace ss2 := (kp 2 rfl).trans ss2
  replace ss3 := (kp 3 rfl).trans ss3
  replace ss4 := (kp 4 rfl).trans ss4
  replace ss6 := (kp 6 rfl).trans ss6
  replace dd := dd1.trans dd
  clear dd1 kp
  refine then_normal ?_
  refine hK3 _ _ ?_
  refine wp_cond_false ss16 ?_
  refine wp_skip ?_
  refine then_normal ?_
  refine hK2 _ _ ?_
  refine wp_seq_k fun KK4 hK4 => ?_
  refine goes_w_r3 c x ra rc zs b3 b4 H aa nn ss3 ss4 ?_
  clear H nn
  intro b7 aa ww nn dd1 kp ss7 ss8 H
  replace ss0 := (kp 0 rfl).trans ss0
  replace ss1 := (kp 1 rfl).trans ss1
  replace ss2 := (kp 2 rfl).trans ss2
  replace ss3 := (kp 3 rfl).trans ss3
  replace ss4 := (kp 4 rfl).trans ss4
  replace ss6 := (kp 6 rfl).trans ss6
  replace ss16 := (kp 16 rfl).trans ss16
  replace dd := dd1.trans dd
  clear dd1 kp
  refine then_normal ?_
  refine hK4 _ _ ?_
  refine wp_seq_k fun KK5 hK5 => ?_
  refine wp_seq_k fun KK6 hK6 => ?_
  refine goes_w_r4 c x ra rc zs b3 b4 b7 H aa nn ss8 ?_
  clear H nn
  intro aa ww nn dd1 kp ss24 H
  replace ss0 := (kp 0 rfl).trans ss0
  replace ss1 := (kp 1 rfl).trans ss1
  replace ss2 := (kp 2 rfl).trans ss2
  replace ss3 := (kp 3 rfl).trans ss3
  replace ss4 := (kp 4 rfl).trans ss4
  replace ss6 := (kp 6 rfl).trans ss6
  replace ss7 := (kp 7 rfl).trans ss7
  replace ss8 := (kp 8 rfl).trans ss8
  replace ss16 := (kp 16 rfl).trans ss16
  replace dd := dd1.trans dd
  clear dd1 kp
  refine then_normal ?_
  refine hK6 _ _ ?_
  refine wp_cond_split ss24 (fun z1 => ?_) (fun z1 => ?_)
  · skip
    have z1o : (((newV c x 1 2 3).2) == 0) = false := neq_t z1
    refine wp_seq_k fun KK7 hK7 => ?_
    refine goes_w_r5 c x ra rc zs b3 b4 b7 H aa nn  ?_
    clear H nn ss6
    intro aa ww nn dd1 kp ss6 H
    replace ss0 := (kp 0 rfl).trans ss0
    replace ss1 := (kp 1 rfl).trans ss1
    replace ss2 := (kp 2 rfl).trans ss2
    replace ss3 := (kp 3 rfl).trans ss3
    replace ss4 := (kp 4 rfl).trans ss4
    replace ss7 := (kp 7 rfl).trans ss7
    replace ss8 := (kp 8 rfl).trans ss8
    replace ss16 := (kp 16 rfl).trans ss16
    replace ss24 := (kp 24 rfl).trans ss24
    replace dd := dd1.trans dd
    clear dd1 kp
    refine then_normal ?_
    refine hK7 _ _ ?_
    refine wp_ret ?_
    refine then_ret ?_
    exact ret1 rfl dd ss6 ⟨rfl, H.out.off⟩
  · skip
    have z1o : (((newV c x 1 2 3).2) == 0) = true := neq_f z1
    have hg0 := Lib.hid (good_of z1)
    refine wp_skip ?_
    refine then_normal ?_
    refine hK5 _ _ ?_
    refine wp_seq_k fun KK8 hK8 => ?_
    refine goes_w_r6 c x ra rc zs b3 b4 b7 H aa nn  ?_
    clear H nn
    intro aa ww nn dd1 kp ss9 H
    replace ss0 := (kp 0 rfl).trans ss0
    replace ss1 := (kp 1 rfl).trans ss1
    replace ss2 := (kp 2 rfl).trans ss2
    replace ss3 := (kp 3 rfl).trans ss3
    replace ss4 := (kp 4 rfl).trans ss4
    replace ss6 := (kp 6 rfl).trans ss6
    replace ss7 := (kp 7 rfl).trans ss7
    replace ss8 := (kp 8 rfl).trans ss8
    replace ss16 := (kp 16 rfl).trans ss16
    replace ss24 := (kp 24 rfl).trans ss24
    replace dd := dd1.trans dd
    clear dd1 kp
    refine then_normal ?_
    refine hK8 _ _ ?_
    refine wp_seq_k fun KK9 hK9 => ?_
    refine wp_seq_k fun KK10 hK10 => ?_
    refine goes_w_r7 c x ra rc zs b3 b4 b7 H aa nn  ?_
    clear H nn
    intro aa ww nn dd1 kp ss10 H
    replace ss0 := (kp 0 rfl).trans ss0
    replace ss1 := (kp 1 rfl).trans ss1
    replace ss2 := (kp 2 rfl).trans ss2
    replace ss3 := (kp 3 rfl).trans ss3
    replace ss4 := (kp 4 rfl).trans ss4
    replace ss6 := (kp 6 rfl).trans ss6
    replace ss7 := (kp 7 rfl).trans ss7
    replace ss8 := (kp 8 rfl).trans ss8
    replace ss9 := (kp 9 rfl).trans ss9
    replace ss16 := (kp 16 rfl).trans ss16
    replace ss24 := (kp 24 rfl).trans ss24
    replace dd := dd1.trans dd
    clear dd1 kp
    refine then_normal ?_
    refine hK10 _ _ ?_
    refine wp_block ?_
    replace ss9 : aa.eval (.tmp 9) = .bool (!(livesV (newV c x 1 2 3).1)) := ss9.trans (by rw [new_lives z1]; rfl)
    refine wp_loop (fun ab wv => ∃ i : Nat, ∃ y : CallV, i ≤ zs.length ∧ i ≤ 60 ∧ Hid (Good c x y) ∧ ab.tmps.size = 203 ∧ ab.defers = [] ∧ ab.eval (.tmp 0) = .agg (cA c) ∧ ab.eval (.tmp 1) = .agg #[.int .i64 x.id, .int .i64 x.kind, .int .i64 x.src, .int .i64 x.dst, .int .i64 x.car, .int .i64 x.state, .int .i64 x.owner, .int .i64 x.born] ∧ ab.eval (.tmp 2) = .slice ra zs.length rc ∧ ab.eval (.tmp 3) = .pointer (some ⟨b3, 0, none⟩) ∧ ab.eval (.tmp 4) = .pointer (some ⟨b4, 0, none⟩) ∧ ab.eval (.tmp 7) = .pointer (some ⟨b7, 0, none⟩) ∧ ab.eval (.tmp 8) = .int .i64 ((newV c x 1 2 3).2) ∧ ab.eval (.tmp 9) = .bool (!(livesV y)) ∧ ab.eval (.tmp 10) = .int .i64 i ∧ ab.eval (.tmp 16) = .bool false ∧ ab.eval (.tmp 24) = .bool (((newV c x 1 2 3).2) != 0) ∧ Hid (Hp [] w wv [rB b7 26 [.int .i64 y.id, .int .i64 y.kind, .int .i64 y.src, .int .i64 y.dst, .int .i64 y.car, .int .i64 y.state, .int .i64 y.owner, .int .i64 y.born], rB b4 26 [.int .i64 x.id, .int .i64 x.kind, .int .i64 x.src, .int .i64 x.dst, .int .i64 x.car, .int .i64 x.state, .int .i64 x.owner, .int .i64 x.born], rB b3 24 (cL c), rS ra rc 1 (zs.map intRow)])) (fun ab _ => 60 - (intOf (ab.eval (.tmp 10))).toNat) ⟨0, (newV c x 1 2 3).1, (Nat.zero_le _), (Nat.zero_le _), hg0, nn, dd, ss0, ss1, ss2, ss3, ss4, ss7, ss8, ss9, ss10, ss16, ss24, H⟩ (fun aa wv hI => ?_)
    clear H nn dd ss0 ss1 ss2 ss3 ss4 ss6 ss7 ss8 ss9 ss10 ss16 ss24
    obtain ⟨i, y, hi, hi2, hg, nn, dd, ss0, ss1, ss2, ss3, ss4, ss7, ss8, ss9, ss10, ss16, ss24, H⟩ := hI
    have mu1_10 := ss10
    refine wp_seq_k fun KK11 hK11 => ?_
    refine wp_seq_k fun KK12 hK12 => ?_
    refine goes_w_r8 c x ra rc zs b3 b4 b7 i y hi hi2 H aa nn ss2 ss10 ?_
    clear H nn
    intro aa ww nn dd1 kp ss32 H
    replace ss0 := (kp 0 rfl).trans ss0
    replace ss1 := (kp 1 rfl).trans ss1
    replace ss2 := (kp 2 rfl).trans ss2
    replace ss3 := (kp 3 rfl).trans ss3
    replace ss4 := (kp 4 rfl).trans ss4
    replace ss7 := (kp 7 rfl).trans ss7
    replace ss8 := (kp 8 rfl).trans ss8
    replace ss9 := (kp 9 rfl).trans ss9
    replace ss10 := (kp 10 rfl).trans ss10
    replace ss16 := (kp 16 rfl).trans ss16
    replace ss24 := (kp 24 rfl).trans ss24
    replace dd := dd1.trans dd
    clear dd1 kp
    refine then_normal ?_
    refine hK12 _ _ ?_
    refine wp_cond_split ss32 (fun z2 => ?_) (fun z2 => ?_)
    · skip
      have z2l : (decide (i < zs.length)) = true := bl z2
      have z2ld : i < zs.length := of_decide_eq_true z2l
      have z2r : (decide ((i : Int) < 60)) = true := br z2
      have z2rd : (i : Int) < 60 := of_decide_eq_true z2r
      obtain ⟨ya, rfl⟩ := some_of_row (hp_held H (show rS ra rc 1 (zs.map intRow) ∈ _ by simp)) (i := i) (by simp; omega)
      obtain ⟨d, hd⟩ : ∃ d, zs[i]? = some d := ⟨zs[i], List.getElem?_eq_getElem (by omega)⟩
      have HRd := Lib.hid (show (zs.map intRow)[i]? = some [.int .i64 d] by rw [List.getElem?_map, hd]; rfl)
      have HXd := Lib.hid hd
      clear hd
      refine wp_skip ?_
      refine then_normal ?_
      refine hK11 _ _ ?_
      refine wp_seq_k fun KK13 hK13 => ?_
      refine wp_block ?_
      refine wp_seq_k fun KK14 hK14 => ?_
      obtain ⟨m, hm0, hm1⟩ := mod_upto d 63 (by decide)
      have hm : IntKind.i64.wrap ((IntKind.u64.wrap d).tmod 64) = (m : Int) := by rw [IntKind.wrap_i64]; simpa [wrap64] using hm0
      clear hm0
      obtain ⟨r, q, p, hr6, hq11, hp4, hr, hq, hp⟩ := six hm1
      have hq2 : IntKind.i64.wrap ((m : Int) / 6) = (q : Int) := hq
      refine goes_w_r10 c x rc zs b3 b4 b7 i y hi hi2 z2ld z2rd ya d HRd m hm1 hm r q p hr6 hq11 hp4 hr hq hp hq2 H aa nn ss2 ss10 ?_
      clear H nn
      intro aa ww nn dd1 kp ss11 H
      replace ss0 := (kp 0 rfl).trans ss0
      replace ss1 := (kp 1 rfl).trans ss1
      replace ss2 := (kp 2 rfl).trans ss2
      replace ss3 := (kp 3 rfl).trans ss3
      replace ss4 := (kp 4 rfl).trans ss4
      replace ss7 := (kp 7 rfl).trans ss7
      replace ss8 := (kp 8 rfl).trans ss8
      replace ss9 := (kp 9 rfl).trans ss9
      replace ss10 := (kp 10 rfl).trans ss10
      replace ss16 := (kp 16 rfl).trans ss16
      replace ss24 := (kp 24 rfl).trans ss24
      replace ss32 := (kp 32 rfl).trans ss32
      replace dd := dd1.trans dd
      clear dd1 kp
      refine then_normal ?_
      refine hK14 _ _ ?_
      refine wp_seq_k fun KK15 hK15 => ?_
      refine goes_w_r11 c x rc zs b3 b4 b7 i y hi hi2 z2ld z2rd ya d m hm1 hm r q p hr6 hq11 hp4 hr hq hp hq2 H aa nn ss7 ?_
      clear H nn
      intro b12 aa ww nn dd1 kp ss12 H
      replace ss0 := (kp 0 rfl).trans ss0
      replace ss1 := (kp 1 rfl).trans ss1
      replace ss2 := (kp 2 rfl).trans ss2
      replace ss3 := (kp 3 rfl).trans ss3
      replace ss4 := (kp 4 rfl).trans ss4
      replace ss7 := (kp 7 rfl).trans ss7
      replace ss8 := (kp 8 rfl).trans ss8
      replace ss9 := (kp 9 rfl).trans ss9
      replace ss10 := (kp 10 rfl).trans ss10
      replace ss11 := (kp 11 rfl).trans ss11
      replace ss16 := (kp 16 rfl).trans ss16
      replace ss24 := (kp 24 rfl).trans ss24
      replace ss32 := (kp 32 rfl).trans ss32
      replace dd := dd1.trans dd
      clear dd1 kp
      refine then_normal ?_
      refine hK15 _ _ ?_
      refine wp_seq_k fun KK16 hK16 => ?_
      refine goes_w_r12 c x rc zs b3 b4 b7 i y hi hi2 z2ld z2rd ya d m hm1 hm r q p hr6 hq11 hp4 hr hq hp hq2 b12 H aa nn  ?_
      clear H nn
      intro aa ww nn dd1 kp ss13 H
      replace ss0 := (kp 0 rfl).trans ss0
      replace ss1 := (kp 1 rfl).trans ss1
      replace ss2 := (kp 2 rfl).trans ss2
      replace ss3 := (kp 3 rfl).trans ss3
      replace ss4 := (kp 4 rfl).trans ss4
      replace ss7 := (kp 7 rfl).trans ss7
      replace ss8 := (kp 8 rfl).trans ss8
      replace ss9 := (kp 9 rfl).trans ss9
      replace ss10 := (kp 10 rfl).trans ss10
      replace ss11 := (kp 11 rfl).trans ss11
      replace ss12 := (kp 12 rfl).trans ss12
      replace ss16 := (kp 16 rfl).trans ss16
      replace ss24 := (kp 24 rfl).trans ss24
      replace ss32 := (kp 32 rfl).trans ss32
      replace dd := dd1.trans dd
      clear dd1 kp
      refine then_normal ?_
      refine hK16 _ _ ?_
      refine wp_seq_k fun KK17 hK17 => ?_
      refine wp_seq_k fun KK18 hK18 => ?_
      refine goes_w_r13 c x rc zs b3 b4 b7 i y hi hi2 z2ld z2rd ya d m hm1 hm r q p hr6 hq11 hp4 hr hq hp hq2 b12 H aa nn ss11 ?_
      clear H nn
      intro aa ww nn dd1 kp ss44 H
      replace ss0 := (kp 0 rfl).trans ss0
      replace ss1 := (kp 1 rfl).trans ss1
      replace ss2 := (kp 2 rfl).trans ss2
      replace ss3 := (kp 3 rfl).trans ss3
      replace ss4 := (kp 4 rfl).trans ss4
      replace ss7 := (kp 7 rfl).trans ss7
      replace ss8 := (kp 8 rfl).trans ss8
      replace ss9 := (kp 9 rfl).trans ss9
      replace ss10 := (kp 10 rfl).trans ss10
      replace ss11 := (kp 11 rfl).trans ss11
      replace ss12 := (kp 12 rfl).trans ss12
      replace ss13 := (kp 13 rfl).trans ss13
      replace ss16 := (kp 16 rfl).trans ss16
      replace ss24 := (kp 24 rfl).trans ss24
      replace ss32 := (kp 32 rfl).trans ss32
      replace dd := dd1.trans dd
      clear dd1 kp
      refine then_normal ?_
      refine hK18 _ _ ?_
      refine wp_block ?_
      refine wp_seq_k fun KK19 hK19 => ?_
      refine goes_w_r14 c x rc zs b3 b4 b7 i y hi hi2 z2ld z2rd ya d m hm1 hm r q p hr6 hq11 hp4 hr hq hp hq2 b12 H aa nn ss44 ?_
      clear H nn
      intro aa ww nn dd1 kp ss45 H
      replace ss0 := (kp 0 rfl).trans ss0
      replace ss1 := (kp 1 rfl).trans ss1
      replace ss2 := (kp 2 rfl).trans ss2
      replace ss3 := (kp 3 rfl).trans ss3
      replace ss4 := (kp 4 rfl).trans ss4
      replace ss7 := (kp 7 rfl).trans ss7
      replace ss8 := (kp 8 rfl).trans ss8
      replace ss9 := (kp 9 rfl).trans ss9
      replace ss10 := (kp 10 rfl).trans ss10
      replace ss11 := (kp 11 rfl).trans ss11
      replace ss12 := (kp 12 rfl).trans ss12
      replace ss13 := (kp 13 rfl).trans ss13
      replace ss16 := (kp 16 rfl).trans ss16
      replace ss24 := (kp 24 rfl).trans ss24
      replace ss32 := (kp 32 rfl).trans ss32
      replace ss44 := (kp 44 rfl).trans ss44
      replace dd := dd1.trans dd
      clear dd1 kp
      refine then_normal ?_
      refine hK19 _ _ ?_
      have hjn1 : ∀ (z : CallV) (f : Int) (aa : Act) (ww : World), Hid (Stp c x y z f) → aa.tmps.size = 203 → aa.defers = [] → aa.eval (.tmp 0) = .agg (cA c) → aa.eval (.tmp 1) = .agg #[.int .i64 x.id, .int .i64 x.kind, .int .i64 x.src, .int .i64 x.dst, .int .i64 x.car, .int .i64 x.state, .int .i64 x.owner, .int .i64 x.born] → aa.eval (.tmp 2) = .slice (some ya) zs.length rc → aa.eval (.tmp 3) = .pointer (some ⟨b3, 0, none⟩) → aa.eval (.tmp 4) = .pointer (some ⟨b4, 0, none⟩) → aa.eval (.tmp 7) = .pointer (some ⟨b7, 0, none⟩) → aa.eval (.tmp 8) = .int .i64 ((newV c x 1 2 3).2) → aa.eval (.tmp 9) = .bool (!(livesV y)) → aa.eval (.tmp 10) = .int .i64 i → aa.eval (.tmp 11) = .int .i64 m → aa.eval (.tmp 12) = .pointer (some ⟨b12, 0, none⟩) → aa.eval (.tmp 13) = .int .i64 f → aa.eval (.tmp 16) = .bool false → aa.eval (.tmp 24) = .bool (((newV c x 1 2 3).2) != 0) → aa.eval (.tmp 32) = .bool ((decide (i < zs.length)) && (decide ((i : Int) < 60))) → aa.eval (.tmp 44) = .int .i64 r → aa.eval (.tmp 45) = .bool ((r : Int) == 0) → Hid (Hp [] w ww [rB b12 26 [.int .i64 z.id, .int .i64 z.kind, .int .i64 z.src, .int .i64 z.dst, .int .i64 z.car, .int .i64 z.state, .int .i64 z.owner, .int .i64 z.born], rB b7 26 [.int .i64 y.id, .int .i64 y.kind, .int .i64 y.src, .int .i64 y.dst, .int .i64 y.car, .int .i64 y.state, .int .i64 y.owner, .int .i64 y.born], rB b4 26 [.int .i64 x.id, .int .i64 x.kind, .int .i64 x.src, .int .i64 x.dst, .int .i64 x.car, .int .i64 x.state, .int .i64 x.owner, .int .i64 x.born], rB b3 24 (cL c), rS (some ya) rc 1 (zs.map intRow)]) → KK17 aa ww := by
        clear H nn dd ss0 ss1 ss2 ss3 ss4 ss7 ss8 ss9 ss10 ss11 ss12 ss13 ss16 ss24 ss32 ss44 ss45
        intro z f aa ww hst nn dd ss0 ss1 ss2 ss3 ss4 ss7 ss8 ss9 ss10 ss11 ss12 ss13 ss16 ss24 ss32 ss44 ss45 H
        refine hK17 _ _ ?_
        refine wp_seq_k fun KK20 hK20 => ?_
        refine wp_seq_k fun KK21 hK21 => ?_
        refine goes_w_r26 c x rc zs b3 b4 b7 i y hi hi2 z2ld z2rd ya d m hm1 hm r q p hr6 hq11 hp4 hr hq hp hq2 b12 z f hst H aa nn ss13 ?_
        clear H nn
        intro aa ww nn dd1 kp ss97 H
        replace ss0 := (kp 0 rfl).trans ss0
        replace ss1 := (kp 1 rfl).trans ss1
        replace ss2 := (kp 2 rfl).trans ss2
        replace ss3 := (kp 3 rfl).trans ss3
        replace ss4 := (kp 4 rfl).trans ss4
        replace ss7 := (kp 7 rfl).trans ss7
        replace ss8 := (kp 8 rfl).trans ss8
        replace ss9 := (kp 9 rfl).trans ss9
        replace ss10 := (kp 10 rfl).trans ss10
        replace ss11 := (kp 11 rfl).trans ss11
        replace ss12 := (kp 12 rfl).trans ss12
        replace ss13 := (kp 13 rfl).trans ss13
        replace ss16 := (kp 16 rfl).trans ss16
        replace ss24 := (kp 24 rfl).trans ss24
        replace ss32 := (kp 32 rfl).trans ss32
        replace ss44 := (kp 44 rfl).trans ss44
        replace ss45 := (kp 45 rfl).trans ss45
        replace dd := dd1.trans dd
        clear dd1 kp
        refine then_normal ?_
        refine hK21 _ _ ?_
        refine wp_cond_split ss97 (fun z3 => ?_) (fun z3 => ?_)
        · skip
          have z3o : (f == 0) = false := neq_t z3
          have hz0 : (sameV z (⟨0, 0, 0, 0, 0, 0, 0, 0⟩ : CallV)) = true := by
            rcases hst.out with ⟨_, h⟩ | ⟨h, _⟩
            · rw [h]; rfl
            · rw [h] at z3; exact absurd z3 (by decide)
          refine wp_seq_k fun KK22 hK22 => ?_
          refine wp_seq_k fun KK23 hK23 => ?_
          refine goes_w_r27 c x rc zs b3 b4 b7 i y hi hi2 z2ld z2rd ya d m hm1 hm r q p hr6 hq11 hp4 hr hq hp hq2 b12 z f hst hz0 H aa nn ss12 ?_
          clear H nn
          intro aa ww nn dd1 kp ss100 H
          replace ss0 := (kp 0 rfl).trans ss0
          replace ss1 := (kp 1 rfl).trans ss1
          replace ss2 := (kp 2 rfl).trans ss2
          replace ss3 := (kp 3 rfl).trans ss3
          replace ss4 := (kp 4 rfl).trans ss4
          replace ss7 := (kp 7 rfl).trans ss7
          replace ss8 := (kp 8 rfl).trans ss8
          replace ss9 := (kp 9 rfl).trans ss9
          replace ss10 := (kp 10 rfl).trans ss10
          replace ss11 := (kp 11 rfl).trans ss11
          replace ss12 := (kp 12 rfl).trans ss12
          replace ss13 := (kp 13 rfl).trans ss13
          replace ss16 := (kp 16 rfl).trans ss16
          replace ss24 := (kp 24 rfl).trans ss24
          replace ss32 := (kp 32 rfl).trans ss32
          replace ss44 := (kp 44 rfl).trans ss44
          replace ss45 := (kp 45 rfl).trans ss45
          replace ss97 := (kp 97 rfl).trans ss97
          replace dd := dd1.trans dd
          clear dd1 kp
          refine then_normal ?_
          refine hK23 _ _ ?_
          refine wp_cond_false ss100 ?_
          refine wp_skip ?_
          refine then_normal ?_
          refine hK22 _ _ ?_
          refine wp_exit ?_
          refine then_exit ?_
          refine block_exit ?_
          refine then_normal ?_
          refine hK13 _ _ ?_
          refine goes_w_r9 c x rc zs b3 b4 b7 i y hi hi2 z2ld z2rd ya d m hm1 hm r q p hr6 hq11 hp4 hr hq hp hq2 b12 z f hst hz0 H aa nn ss10 ?_
          clear H nn ss10
          intro aa ww nn dd1 kp ss10 H
          replace ss0 := (kp 0 rfl).trans ss0
          replace ss1 := (kp 1 rfl).trans ss1
          replace ss2 := (kp 2 rfl).trans ss2
          replace ss3 := (kp 3 rfl).trans ss3
          replace ss4 := (kp 4 rfl).trans ss4
          replace ss7 := (kp 7 rfl).trans ss7
          replace ss8 := (kp 8 rfl).trans ss8
          replace ss9 := (kp 9 rfl).trans ss9
          replace ss11 := (kp 11 rfl).trans ss11
          replace ss12 := (kp 12 rfl).trans ss12
          replace ss13 := (kp 13 rfl).trans ss13
          replace ss16 := (kp 16 rfl).trans ss16
          replace ss24 := (kp 24 rfl).trans ss24
          replace ss32 := (kp 32 rfl).trans ss32
          replace ss44 := (kp 44 rfl).trans ss44
          replace ss45 := (kp 45 rfl).trans ss45
          replace ss97 := (kp 97 rfl).trans ss97
          replace ss100 := (kp 100 rfl).trans ss100
          replace dd := dd1.trans dd
          clear dd1 kp
          refine then_normal ?_
          replace H := hp_front H 4 rfl
          replace H := hp_front H 4 rfl
          replace H := hp_front H 4 rfl
          replace H := hp_front H 4 rfl
          refine ⟨⟨i + 1, y, (by omega), (by omega), hg, nn, dd, ss0, ss1, ss2, ss3, ss4, ss7, ss8, ss9, ss10, ss16, ss24, (hp_take H 4)⟩, ?_⟩
          simp only [mu1_10, ss10, intOf]
          omega
        · skip
          have z3o : (f == 0) = true := neq_f z3
          obtain ⟨hl, hmy, hz⟩ : livesV y = true ∧ mayV c y z = true ∧ Good c x z := by
            rcases hst.out with ⟨h, _⟩ | ⟨_, h⟩
            · exact absurd h (by simpa using z3)
            · exact h
          obtain ⟨i1, i2, i3, i4, i5⟩ := goes_facts hz
          have hlv := goes_lives hz
          have hcr := goes_car hz
          obtain ⟨g1, g2⟩ := goal_of hz
          have HZ := Lib.hid hz
          clear hz hst
          replace ss9 : aa.eval (.tmp 9) = .bool false := ss9.trans (by rw [hl]; rfl)
          refine wp_skip ?_
          refine then_normal ?_
          refine hK20 _ _ ?_
          refine wp_seq_k fun KK24 hK24 => ?_
          refine wp_seq_k fun KK25 hK25 => ?_
          refine goes_w_r29 c x rc zs b3 b4 b7 i y hi hi2 z2ld z2rd ya d m hm1 hm r q p hr6 hq11 hp4 hr hq hp hq2 b12 z f hl hmy i1 i2 i3 i4 i5 g1 g2 hlv hcr H aa nn ss3 ss4 ss7 ss9 ss12 ?_
          clear H nn
          intro aa ww nn dd1 kp ss137 H
          replace ss0 := (kp 0 rfl).trans ss0
          replace ss1 := (kp 1 rfl).trans ss1
          replace ss2 := (kp 2 rfl).trans ss2
          replace ss3 := (kp 3 rfl).trans ss3
          replace ss4 := (kp 4 rfl).trans ss4
          replace ss7 := (kp 7 rfl).trans ss7
          replace ss8 := (kp 8 rfl).trans ss8
          replace ss9 := (kp 9 rfl).trans ss9
          replace ss10 := (kp 10 rfl).trans ss10
          replace ss11 := (kp 11 rfl).trans ss11
          replace ss12 := (kp 12 rfl).trans ss12
          replace ss13 := (kp 13 rfl).trans ss13
          replace ss16 := (kp 16 rfl).trans ss16
          replace ss24 := (kp 24 rfl).trans ss24
          replace ss32 := (kp 32 rfl).trans ss32
          replace ss44 := (kp 44 rfl).trans ss44
          replace ss45 := (kp 45 rfl).trans ss45
          replace ss97 := (kp 97 rfl).trans ss97
          replace dd := dd1.trans dd
          clear dd1 kp
          refine then_normal ?_
          refine hK25 _ _ ?_
          refine wp_cond_false ss137 ?_
          refine wp_skip ?_
          refine then_normal ?_
          refine hK24 _ _ ?_
          refine wp_seq_k fun KK26 hK26 => ?_
          refine goes_w_r31 c x rc zs b3 b4 b7 i y hi hi2 z2ld z2rd ya d m hm1 hm r q p hr6 hq11 hp4 hr hq hp hq2 b12 z f hl hmy i1 i2 i3 i4 i5 g1 g2 hlv hcr H aa nn ss12 ?_
          clear H nn
          intro aa ww nn dd1 kp ss14 H
          replace ss0 := (kp 0 rfl).trans ss0
          replace ss1 := (kp 1 rfl).trans ss1
          replace ss2 := (kp 2 rfl).trans ss2
          replace ss3 := (kp 3 rfl).trans ss3
          replace ss4 := (kp 4 rfl).trans ss4
          replace ss7 := (kp 7 rfl).trans ss7
          replace ss8 := (kp 8 rfl).trans ss8
          replace ss9 := (kp 9 rfl).trans ss9
          replace ss10 := (kp 10 rfl).trans ss10
          replace ss11 := (kp 11 rfl).trans ss11
          replace ss12 := (kp 12 rfl).trans ss12
          replace ss13 := (kp 13 rfl).trans ss13
          replace ss16 := (kp 16 rfl).trans ss16
          replace ss24 := (kp 24 rfl).trans ss24
          replace ss32 := (kp 32 rfl).trans ss32
          replace ss44 := (kp 44 rfl).trans ss44
          replace ss45 := (kp 45 rfl).trans ss45
          replace ss97 := (kp 97 rfl).trans ss97
          replace ss137 := (kp 137 rfl).trans ss137
          replace dd := dd1.trans dd
          clear dd1 kp
          refine then_normal ?_
          refine hK26 _ _ ?_
          refine wp_seq_k fun KK27 hK27 => ?_
          refine wp_seq_k fun KK28 hK28 => ?_
          refine goes_w_r32 c x rc zs b3 b4 b7 i y hi hi2 z2ld z2rd ya d m hm1 hm r q p hr6 hq11 hp4 hr hq hp hq2 b12 z f hl hmy i1 i2 i3 i4 i5 g1 g2 hlv hcr H aa nn ss3 ss14 ?_
          clear H nn
          intro aa ww nn dd1 kp ss147 H
          replace ss0 := (kp 0 rfl).trans ss0
          replace ss1 := (kp 1 rfl).trans ss1
          replace ss2 := (kp 2 rfl).trans ss2
          replace ss3 := (kp 3 rfl).trans ss3
          replace ss4 := (kp 4 rfl).trans ss4
          replace ss7 := (kp 7 rfl).trans ss7
          replace ss8 := (kp 8 rfl).trans ss8
          replace ss9 := (kp 9 rfl).trans ss9
          replace ss10 := (kp 10 rfl).trans ss10
          replace ss11 := (kp 11 rfl).trans ss11
          replace ss12 := (kp 12 rfl).trans ss12
          replace ss13 := (kp 13 rfl).trans ss13
          replace ss14 := (kp 14 rfl).trans ss14
          replace ss16 := (kp 16 rfl).trans ss16
          replace ss24 := (kp 24 rfl).trans ss24
          replace ss32 := (kp 32 rfl).trans ss32
          replace ss44 := (kp 44 rfl).trans ss44
          replace ss45 := (kp 45 rfl).trans ss45
          replace ss97 := (kp 97 rfl).trans ss97
          replace ss137 := (kp 137 rfl).trans ss137
          replace dd := dd1.trans dd
          clear dd1 kp
          refine then_normal ?_
          refine hK28 _ _ ?_
          refine wp_cond_false ss147 ?_
          refine wp_skip ?_
          refine then_normal ?_
          refine hK27 _ _ ?_
          refine wp_seq_k fun KK29 hK29 => ?_
          refine wp_seq_k fun KK30 hK30 => ?_
          refine goes_w_r34 c x rc zs b3 b4 b7 i y hi hi2 z2ld z2rd ya d m hm1 hm r q p hr6 hq11 hp4 hr hq hp hq2 b12 z f hl hmy i1 i2 i3 i4 i5 g1 g2 hlv hcr H aa nn ss12 ?_
          clear H nn
          intro aa ww nn dd1 kp ss163 H
          replace ss0 := (kp 0 rfl).trans ss0
          replace ss1 := (kp 1 rfl).trans ss1
          replace ss2 := (kp 2 rfl).trans ss2
          replace ss3 := (kp 3 rfl).trans ss3
          replace ss4 := (kp 4 rfl).trans ss4
          replace ss7 := (kp 7 rfl).trans ss7
          replace ss8 := (kp 8 rfl).trans ss8
          replace ss9 := (kp 9 rfl).trans ss9
          replace ss10 := (kp 10 rfl).trans ss10
          replace ss11 := (kp 11 rfl).trans ss11
          replace ss12 := (kp 12 rfl).trans ss12
          replace ss13 := (kp 13 rfl).trans ss13
          replace ss14 := (kp 14 rfl).trans ss14
          replace ss16 := (kp 16 rfl).trans ss16
          replace ss24 := (kp 24 rfl).trans ss24
          replace ss32 := (kp 32 rfl).trans ss32
          replace ss44 := (kp 44 rfl).trans ss44
          replace ss45 := (kp 45 rfl).trans ss45
          replace ss97 := (kp 97 rfl).trans ss97
          replace ss137 := (kp 137 rfl).trans ss137
          replace ss147 := (kp 147 rfl).trans ss147
          replace dd := dd1.trans dd
          clear dd1 kp
          refine then_normal ?_
          refine hK30 _ _ ?_
          refine wp_cond_false ss163 ?_
          refine wp_skip ?_
          refine then_normal ?_
          refine hK29 _ _ ?_
          refine wp_seq_k fun KK31 hK31 => ?_
          refine wp_seq_k fun KK32 hK32 => ?_
          refine goes_w_r36 c x rc zs b3 b4 b7 i y hi hi2 z2ld z2rd ya d m hm1 hm r q p hr6 hq11 hp4 hr hq hp hq2 b12 z f hl hmy i1 i2 i3 i4 i5 g1 g2 hlv hcr H aa nn ss3 ss12 ?_
          clear H nn
          intro aa ww nn dd1 kp ss198 H
          replace ss0 := (kp 0 rfl).trans ss0
          replace ss1 := (kp 1 rfl).trans ss1
          replace ss2 := (kp 2 rfl).trans ss2
          replace ss3 := (kp 3 rfl).trans ss3
          replace ss4 := (kp 4 rfl).trans ss4
          replace ss7 := (kp 7 rfl).trans ss7
          replace ss8 := (kp 8 rfl).trans ss8
          replace ss9 := (kp 9 rfl).trans ss9
          replace ss10 := (kp 10 rfl).trans ss10
          replace ss11 := (kp 11 rfl).trans ss11
          replace ss12 := (kp 12 rfl).trans ss12
          replace ss13 := (kp 13 rfl).trans ss13
          replace ss14 := (kp 14 rfl).trans ss14
          replace ss16 := (kp 16 rfl).trans ss16
          replace ss24 := (kp 24 rfl).trans ss24
          replace ss32 := (kp 32 rfl).trans ss32
          replace ss44 := (kp 44 rfl).trans ss44
          replace ss45 := (kp 45 rfl).trans ss45
          replace ss97 := (kp 97 rfl).trans ss97
          replace ss137 := (kp 137 rfl).trans ss137
          replace ss147 := (kp 147 rfl).trans ss147
          replace ss163 := (kp 163 rfl).trans ss163
          replace dd := dd1.trans dd
          clear dd1 kp
          refine then_normal ?_
          refine hK32 _ _ ?_
          refine wp_cond_false ss198 ?_
          refine wp_skip ?_
          refine then_normal ?_
          refine hK31 _ _ ?_
          refine wp_seq_k fun KK33 hK33 => ?_
          refine goes_w_r38 c x rc zs b3 b4 b7 i y hi hi2 z2ld z2rd ya d m hm1 hm r q p hr6 hq11 hp4 hr hq hp hq2 b12 z f hl hmy i1 i2 i3 i4 i5 g1 g2 hlv hcr H aa nn ss12 ?_
          clear H nn ss9
          intro aa ww nn dd1 kp ss9 H
          replace ss0 := (kp 0 rfl).trans ss0
          replace ss1 := (kp 1 rfl).trans ss1
          replace ss2 := (kp 2 rfl).trans ss2
          replace ss3 := (kp 3 rfl).trans ss3
          replace ss4 := (kp 4 rfl).trans ss4
          replace ss7 := (kp 7 rfl).trans ss7
          replace ss8 := (kp 8 rfl).trans ss8
          replace ss10 := (kp 10 rfl).trans ss10
          replace ss11 := (kp 11 rfl).trans ss11
          replace ss12 := (kp 12 rfl).trans ss12
          replace ss13 := (kp 13 rfl).trans ss13
          replace ss14 := (kp 14 rfl).trans ss14
          replace ss16 := (kp 16 rfl).trans ss16
          replace ss24 := (kp 24 rfl).trans ss24
          replace ss32 := (kp 32 rfl).trans ss32
          replace ss44 := (kp 44 rfl).trans ss44
          replace ss45 := (kp 45 rfl).trans ss45
          replace ss97 := (kp 97 rfl).trans ss97
          replace ss137 := (kp 137 rfl).trans ss137
          replace ss147 := (kp 147 rfl).trans ss147
          replace ss163 := (kp 163 rfl).trans ss163
          replace ss198 := (kp 198 rfl).trans ss198
          replace dd := dd1.trans dd
          clear dd1 kp
          refine then_normal ?_
          refine hK33 _ _ ?_
          refine goes_w_r39 c x rc zs b3 b4 b7 i y hi hi2 z2ld z2rd ya d m hm1 hm r q p hr6 hq11 hp4 hr hq hp hq2 b12 z f hl hmy i1 i2 i3 i4 i5 g1 g2 hlv hcr H aa nn ss7 ss12 ?_
          clear H nn
          intro aa ww nn dd1 kp H
          replace ss0 := (kp 0 rfl).trans ss0
          replace ss1 := (kp 1 rfl).trans ss1
          replace ss2 := (kp 2 rfl).trans ss2
          replace ss3 := (kp 3 rfl).trans ss3
          replace ss4 := (kp 4 rfl).trans ss4
          replace ss7 := (kp 7 rfl).trans ss7
          replace ss8 := (kp 8 rfl).trans ss8
          replace ss9 := (kp 9 rfl).trans ss9
          replace ss10 := (kp 10 rfl).trans ss10
          replace ss11 := (kp 11 rfl).trans ss11
          replace ss12 := (kp 12 rfl).trans ss12
          replace ss13 := (kp 13 rfl).trans ss13
          replace ss14 := (kp 14 rfl).trans ss14
          replace ss16 := (kp 16 rfl).trans ss16
          replace ss24 := (kp 24 rfl).trans ss24
          replace ss32 := (kp 32 rfl).trans ss32
          replace ss44 := (kp 44 rfl).trans ss44
          replace ss45 := (kp 45 rfl).trans ss45
          replace ss97 := (kp 97 rfl).trans ss97
          replace ss137 := (kp 137 rfl).trans ss137
          replace ss147 := (kp 147 rfl).trans ss147
          replace ss163 := (kp 163 rfl).trans ss163
          replace ss198 := (kp 198 rfl).trans ss198
          replace dd := dd1.trans dd
          clear dd1 kp
          refine block_normal ?_
          refine then_normal ?_
          refine hK13 _ _ ?_
          refine goes_w_r9x1 c x rc zs b3 b4 b7 i y hi hi2 z2ld z2rd ya d m hm1 hm r q p hr6 hq11 hp4 hr hq hp hq2 b12 z f hl hmy i1 i2 i3 i4 i5 g1 g2 hlv hcr H aa nn ss10 ?_
          clear H nn ss10
          intro aa ww nn dd1 kp ss10 H
          replace ss0 := (kp 0 rfl).trans ss0
          replace ss1 := (kp 1 rfl).trans ss1
          replace ss2 := (kp 2 rfl).trans ss2
          replace ss3 := (kp 3 rfl).trans ss3
          replace ss4 := (kp 4 rfl).trans ss4
          replace ss7 := (kp 7 rfl).trans ss7
          replace ss8 := (kp 8 rfl).trans ss8
          replace ss9 := (kp 9 rfl).trans ss9
          replace ss11 := (kp 11 rfl).trans ss11
          replace ss12 := (kp 12 rfl).trans ss12
          replace ss13 := (kp 13 rfl).trans ss13
          replace ss14 := (kp 14 rfl).trans ss14
          replace ss16 := (kp 16 rfl).trans ss16
          replace ss24 := (kp 24 rfl).trans ss24
          replace ss32 := (kp 32 rfl).trans ss32
          replace ss44 := (kp 44 rfl).trans ss44
          replace ss45 := (kp 45 rfl).trans ss45
          replace ss97 := (kp 97 rfl).trans ss97
          replace ss137 := (kp 137 rfl).trans ss137
          replace ss147 := (kp 147 rfl).trans ss147
          replace ss163 := (kp 163 rfl).trans ss163
          replace ss198 := (kp 198 rfl).trans ss198
          replace dd := dd1.trans dd
          clear dd1 kp
          refine then_normal ?_
          replace H := hp_front H 4 rfl
          replace H := hp_front H 4 rfl
          replace H := hp_front H 4 rfl
          replace H := hp_front H 4 rfl
          refine ⟨⟨i + 1, z, (by omega), (by omega), HZ, nn, dd, ss0, ss1, ss2, ss3, ss4, ss7, ss8, ss9, ss10, ss16, ss24, (hp_take H 4)⟩, ?_⟩
          simp only [mu1_10, ss10, intOf]
          omega
      refine wp_cond_split ss45 (fun z4 => ?_) (fun z4 => ?_)
      · skip
        have z4o : ((r : Int) != 0) = false := eqq_t z4
        refine goes_w_r15 c x rc zs b3 b4 b7 i y hi hi2 z2ld z2rd ya d m hm1 hm r q p hr6 hq11 hp4 hr hq hp hq2 b12 H aa nn ss3 ss7 ss11 ss12 ?_
        clear H nn ss13
        intro aa ww nn dd1 kp ss13 H
        replace ss0 := (kp 0 rfl).trans ss0
        replace ss1 := (kp 1 rfl).trans ss1
        replace ss2 := (kp 2 rfl).trans ss2
        replace ss3 := (kp 3 rfl).trans ss3
        replace ss4 := (kp 4 rfl).trans ss4
        replace ss7 := (kp 7 rfl).trans ss7
        replace ss8 := (kp 8 rfl).trans ss8
        replace ss9 := (kp 9 rfl).trans ss9
        replace ss10 := (kp 10 rfl).trans ss10
        replace ss11 := (kp 11 rfl).trans ss11
        replace ss12 := (kp 12 rfl).trans ss12
        replace ss16 := (kp 16 rfl).trans ss16
        replace ss24 := (kp 24 rfl).trans ss24
        replace ss32 := (kp 32 rfl).trans ss32
        replace ss44 := (kp 44 rfl).trans ss44
        replace ss45 := (kp 45 rfl).trans ss45
        replace dd := dd1.trans dd
        clear dd1 kp
        refine block_normal ?_
        refine then_normal ?_
        exact hjn1 ((assignV c y (1 + p)).1) ((assignV c y (1 + p)).2) _ _ (Lib.hid (step_assign hg.out _)) nn dd ss0 ss1 ss2 ss3 ss4 ss7 ss8 ss9 ss10 ss11 ss12 ss13 ss16 ss24 ss32 ss44 ss45 (Lib.hid (H.out.sub (by repeat (first | exact List.Sublist.refl _ | apply List.Sublist.cons₂ | apply List.Sublist.cons))))
      · skip
        have z4o : ((r : Int) != 0) = true := eqq_f z4
        refine wp_seq_k fun KK34 hK34 => ?_
        refine goes_w_r16 c x rc zs b3 b4 b7 i y hi hi2 z2ld z2rd ya d m hm1 hm r q p hr6 hq11 hp4 hr hq hp hq2 b12 H aa nn ss44 ?_
        clear H nn
        intro aa ww nn dd1 kp ss57 H
        replace ss0 := (kp 0 rfl).trans ss0
        replace ss1 := (kp 1 rfl).trans ss1
        replace ss2 := (kp 2 rfl).trans ss2
        replace ss3 := (kp 3 rfl).trans ss3
        replace ss4 := (kp 4 rfl).trans ss4
        replace ss7 := (kp 7 rfl).trans ss7
        replace ss8 := (kp 8 rfl).trans ss8
        replace ss9 := (kp 9 rfl).trans ss9
        replace ss10 := (kp 10 rfl).trans ss10
        replace ss11 := (kp 11 rfl).trans ss11
        replace ss12 := (kp 12 rfl).trans ss12
        replace ss13 := (kp 13 rfl).trans ss13
        replace ss16 := (kp 16 rfl).trans ss16
        replace ss24 := (kp 24 rfl).trans ss24
        replace ss32 := (kp 32 rfl).trans ss32
        replace ss44 := (kp 44 rfl).trans ss44
        replace ss45 := (kp 45 rfl).trans ss45
        replace dd := dd1.trans dd
        clear dd1 kp
        refine then_normal ?_
        refine hK34 _ _ ?_
        refine wp_cond_split ss57 (fun z5 => ?_) (fun z5 => ?_)
        · skip
          have z5o : ((r : Int) != 1) = false := eqq_t z5
          refine goes_w_r17 c x rc zs b3 b4 b7 i y hi hi2 z2ld z2rd ya d m hm1 hm r q p hr6 hq11 hp4 hr hq hp hq2 b12 H aa nn ss3 ss7 ss11 ss12 ?_
          clear H nn ss13
          intro aa ww nn dd1 kp ss13 H
          replace ss0 := (kp 0 rfl).trans ss0
          replace ss1 := (kp 1 rfl).trans ss1
          replace ss2 := (kp 2 rfl).trans ss2
          replace ss3 := (kp 3 rfl).trans ss3
          replace ss4 := (kp 4 rfl).trans ss4
          replace ss7 := (kp 7 rfl).trans ss7
          replace ss8 := (kp 8 rfl).trans ss8
          replace ss9 := (kp 9 rfl).trans ss9
          replace ss10 := (kp 10 rfl).trans ss10
          replace ss11 := (kp 11 rfl).trans ss11
          replace ss12 := (kp 12 rfl).trans ss12
          replace ss16 := (kp 16 rfl).trans ss16
          replace ss24 := (kp 24 rfl).trans ss24
          replace ss32 := (kp 32 rfl).trans ss32
          replace ss44 := (kp 44 rfl).trans ss44
          replace ss45 := (kp 45 rfl).trans ss45
          replace ss57 := (kp 57 rfl).trans ss57
          replace dd := dd1.trans dd
          clear dd1 kp
          refine block_normal ?_
          refine then_normal ?_
          exact hjn1 ((leaveV c y (1 + q)).1) ((leaveV c y (1 + q)).2) _ _ (Lib.hid (step_leave hg.out _)) nn dd ss0 ss1 ss2 ss3 ss4 ss7 ss8 ss9 ss10 ss11 ss12 ss13 ss16 ss24 ss32 ss44 ss45 (Lib.hid (H.out.sub (by repeat (first | exact List.Sublist.refl _ | apply List.Sublist.cons₂ | apply List.Sublist.cons))))
        · skip
          have z5o : ((r : Int) != 1) = true := eqq_f z5
          refine wp_seq_k fun KK35 hK35 => ?_
          refine goes_w_r18 c x rc zs b3 b4 b7 i y hi hi2 z2ld z2rd ya d m hm1 hm r q p hr6 hq11 hp4 hr hq hp hq2 b12 H aa nn ss44 ?_
          clear H nn
          intro aa ww nn dd1 kp ss68 H
          replace ss0 := (kp 0 rfl).trans ss0
          replace ss1 := (kp 1 rfl).trans ss1
          replace ss2 := (kp 2 rfl).trans ss2
          replace ss3 := (kp 3 rfl).trans ss3
          replace ss4 := (kp 4 rfl).trans ss4
          replace ss7 := (kp 7 rfl).trans ss7
          replace ss8 := (kp 8 rfl).trans ss8
          replace ss9 := (kp 9 rfl).trans ss9
          replace ss10 := (kp 10 rfl).trans ss10
          replace ss11 := (kp 11 rfl).trans ss11
          replace ss12 := (kp 12 rfl).trans ss12
          replace ss13 := (kp 13 rfl).trans ss13
          replace ss16 := (kp 16 rfl).trans ss16
          replace ss24 := (kp 24 rfl).trans ss24
          replace ss32 := (kp 32 rfl).trans ss32
          replace ss44 := (kp 44 rfl).trans ss44
          replace ss45 := (kp 45 rfl).trans ss45
          replace ss57 := (kp 57 rfl).trans ss57
          replace dd := dd1.trans dd
          clear dd1 kp
          refine then_normal ?_
          refine hK35 _ _ ?_
          refine wp_cond_split ss68 (fun z6 => ?_) (fun z6 => ?_)
          · skip
            have z6o : ((r : Int) != 2) = false := eqq_t z6
            refine goes_w_r19 c x rc zs b3 b4 b7 i y hi hi2 z2ld z2rd ya d m hm1 hm r q p hr6 hq11 hp4 hr hq hp hq2 b12 H aa nn ss7 ss12 ?_
            clear H nn ss13
            intro aa ww nn dd1 kp ss13 H
            replace ss0 := (kp 0 rfl).trans ss0
            replace ss1 := (kp 1 rfl).trans ss1
            replace ss2 := (kp 2 rfl).trans ss2
            replace ss3 := (kp 3 rfl).trans ss3
            replace ss4 := (kp 4 rfl).trans ss4
            replace ss7 := (kp 7 rfl).trans ss7
            replace ss8 := (kp 8 rfl).trans ss8
            replace ss9 := (kp 9 rfl).trans ss9
            replace ss10 := (kp 10 rfl).trans ss10
            replace ss11 := (kp 11 rfl).trans ss11
            replace ss12 := (kp 12 rfl).trans ss12
            replace ss16 := (kp 16 rfl).trans ss16
            replace ss24 := (kp 24 rfl).trans ss24
            replace ss32 := (kp 32 rfl).trans ss32
            replace ss44 := (kp 44 rfl).trans ss44
            replace ss45 := (kp 45 rfl).trans ss45
            replace ss57 := (kp 57 rfl).trans ss57
            replace ss68 := (kp 68 rfl).trans ss68
            replace dd := dd1.trans dd
            clear dd1 kp
            refine block_normal ?_
            refine then_normal ?_
            exact hjn1 ((boardV y).1) ((boardV y).2) _ _ (Lib.hid (step_board hg.out)) nn dd ss0 ss1 ss2 ss3 ss4 ss7 ss8 ss9 ss10 ss11 ss12 ss13 ss16 ss24 ss32 ss44 ss45 (Lib.hid (H.out.sub (by repeat (first | exact List.Sublist.refl _ | apply List.Sublist.cons₂ | apply List.Sublist.cons))))
          · skip
            have z6o : ((r : Int) != 2) = true := eqq_f z6
            refine wp_seq_k fun KK36 hK36 => ?_
            refine goes_w_r20 c x rc zs b3 b4 b7 i y hi hi2 z2ld z2rd ya d m hm1 hm r q p hr6 hq11 hp4 hr hq hp hq2 b12 H aa nn ss44 ?_
            clear H nn
            intro aa ww nn dd1 kp ss75 H
            replace ss0 := (kp 0 rfl).trans ss0
            replace ss1 := (kp 1 rfl).trans ss1
            replace ss2 := (kp 2 rfl).trans ss2
            replace ss3 := (kp 3 rfl).trans ss3
            replace ss4 := (kp 4 rfl).trans ss4
            replace ss7 := (kp 7 rfl).trans ss7
            replace ss8 := (kp 8 rfl).trans ss8
            replace ss9 := (kp 9 rfl).trans ss9
            replace ss10 := (kp 10 rfl).trans ss10
            replace ss11 := (kp 11 rfl).trans ss11
            replace ss12 := (kp 12 rfl).trans ss12
            replace ss13 := (kp 13 rfl).trans ss13
            replace ss16 := (kp 16 rfl).trans ss16
            replace ss24 := (kp 24 rfl).trans ss24
            replace ss32 := (kp 32 rfl).trans ss32
            replace ss44 := (kp 44 rfl).trans ss44
            replace ss45 := (kp 45 rfl).trans ss45
            replace ss57 := (kp 57 rfl).trans ss57
            replace ss68 := (kp 68 rfl).trans ss68
            replace dd := dd1.trans dd
            clear dd1 kp
            refine then_normal ?_
            refine hK36 _ _ ?_
            refine wp_cond_split ss75 (fun z7 => ?_) (fun z7 => ?_)
            · skip
              have z7o : ((r : Int) != 3) = false := eqq_t z7
              refine goes_w_r21 c x rc zs b3 b4 b7 i y hi hi2 z2ld z2rd ya d m hm1 hm r q p hr6 hq11 hp4 hr hq hp hq2 b12 H aa nn ss7 ss12 ?_
              clear H nn ss13
              intro aa ww nn dd1 kp ss13 H
              replace ss0 := (kp 0 rfl).trans ss0
              replace ss1 := (kp 1 rfl).trans ss1
              replace ss2 := (kp 2 rfl).trans ss2
              replace ss3 := (kp 3 rfl).trans ss3
              replace ss4 := (kp 4 rfl).trans ss4
              replace ss7 := (kp 7 rfl).trans ss7
              replace ss8 := (kp 8 rfl).trans ss8
              replace ss9 := (kp 9 rfl).trans ss9
              replace ss10 := (kp 10 rfl).trans ss10
              replace ss11 := (kp 11 rfl).trans ss11
              replace ss12 := (kp 12 rfl).trans ss12
              replace ss16 := (kp 16 rfl).trans ss16
              replace ss24 := (kp 24 rfl).trans ss24
              replace ss32 := (kp 32 rfl).trans ss32
              replace ss44 := (kp 44 rfl).trans ss44
              replace ss45 := (kp 45 rfl).trans ss45
              replace ss57 := (kp 57 rfl).trans ss57
              replace ss68 := (kp 68 rfl).trans ss68
              replace ss75 := (kp 75 rfl).trans ss75
              replace dd := dd1.trans dd
              clear dd1 kp
              refine block_normal ?_
              refine then_normal ?_
              exact hjn1 ((serveV y).1) ((serveV y).2) _ _ (Lib.hid (step_serve hg.out)) nn dd ss0 ss1 ss2 ss3 ss4 ss7 ss8 ss9 ss10 ss11 ss12 ss13 ss16 ss24 ss32 ss44 ss45 (Lib.hid (H.out.sub (by repeat (first | exact List.Sublist.refl _ | apply List.Sublist.cons₂ | apply List.Sublist.cons))))
            · skip
              have z7o : ((r : Int) != 3) = true := eqq_f z7
              refine wp_seq_k fun KK37 hK37 => ?_
              refine goes_w_r22 c x rc zs b3 b4 b7 i y hi hi2 z2ld z2rd ya d m hm1 hm r q p hr6 hq11 hp4 hr hq hp hq2 b12 H aa nn ss44 ?_
              clear H nn
              intro aa ww nn dd1 kp ss82 H
              replace ss0 := (kp 0 rfl).trans ss0
              replace ss1 := (kp 1 rfl).trans ss1
              replace ss2 := (kp 2 rfl).trans ss2
              replace ss3 := (kp 3 rfl).trans ss3
              replace ss4 := (kp 4 rfl).trans ss4
              replace ss7 := (kp 7 rfl).trans ss7
              replace ss8 := (kp 8 rfl).trans ss8
              replace ss9 := (kp 9 rfl).trans ss9
              replace ss10 := (kp 10 rfl).trans ss10
              replace ss11 := (kp 11 rfl).trans ss11
              replace ss12 := (kp 12 rfl).trans ss12
              replace ss13 := (kp 13 rfl).trans ss13
              replace ss16 := (kp 16 rfl).trans ss16
              replace ss24 := (kp 24 rfl).trans ss24
              replace ss32 := (kp 32 rfl).trans ss32
              replace ss44 := (kp 44 rfl).trans ss44
              replace ss45 := (kp 45 rfl).trans ss45
              replace ss57 := (kp 57 rfl).trans ss57
              replace ss68 := (kp 68 rfl).trans ss68
              replace ss75 := (kp 75 rfl).trans ss75
              replace dd := dd1.trans dd
              clear dd1 kp
              refine then_normal ?_
              refine hK37 _ _ ?_
              refine wp_cond_split ss82 (fun z8 => ?_) (fun z8 => ?_)
              · skip
                have z8o : ((r : Int) != 4) = false := eqq_t z8
                refine goes_w_r23 c x rc zs b3 b4 b7 i y hi hi2 z2ld z2rd ya d m hm1 hm r q p hr6 hq11 hp4 hr hq hp hq2 b12 H aa nn ss7 ss12 ?_
                clear H nn ss13
                intro aa ww nn dd1 kp ss13 H
                replace ss0 := (kp 0 rfl).trans ss0
                replace ss1 := (kp 1 rfl).trans ss1
                replace ss2 := (kp 2 rfl).trans ss2
                replace ss3 := (kp 3 rfl).trans ss3
                replace ss4 := (kp 4 rfl).trans ss4
                replace ss7 := (kp 7 rfl).trans ss7
                replace ss8 := (kp 8 rfl).trans ss8
                replace ss9 := (kp 9 rfl).trans ss9
                replace ss10 := (kp 10 rfl).trans ss10
                replace ss11 := (kp 11 rfl).trans ss11
                replace ss12 := (kp 12 rfl).trans ss12
                replace ss16 := (kp 16 rfl).trans ss16
                replace ss24 := (kp 24 rfl).trans ss24
                replace ss32 := (kp 32 rfl).trans ss32
                replace ss44 := (kp 44 rfl).trans ss44
                replace ss45 := (kp 45 rfl).trans ss45
                replace ss57 := (kp 57 rfl).trans ss57
                replace ss68 := (kp 68 rfl).trans ss68
                replace ss75 := (kp 75 rfl).trans ss75
                replace ss82 := (kp 82 rfl).trans ss82
                replace dd := dd1.trans dd
                clear dd1 kp
                refine block_normal ?_
                refine then_normal ?_
                exact hjn1 ((cancelV y).1) ((cancelV y).2) _ _ (Lib.hid (step_cancel hg.out)) nn dd ss0 ss1 ss2 ss3 ss4 ss7 ss8 ss9 ss10 ss11 ss12 ss13 ss16 ss24 ss32 ss44 ss45 (Lib.hid (H.out.sub (by repeat (first | exact List.Sublist.refl _ | apply List.Sublist.cons₂ | apply List.Sublist.cons))))
              · skip
                have z8o : ((r : Int) != 4) = true := eqq_f z8
                refine wp_seq_k fun KK38 hK38 => ?_
                have h5 : ((r : Int) == 5) = true := by
                  have z0 := z4
                  have z1 := z5
                  have z2 := z6
                  have z3 := z7
                  have z4 := z8
                  simp at z0 z1 z2 z3 z4
                  rw [beq_iff_eq]
                  omega
                refine goes_w_r24 c x rc zs b3 b4 b7 i y hi hi2 z2ld z2rd ya d m hm1 hm r q p hr6 hq11 hp4 hr hq hp hq2 b12 h5 H aa nn ss44 ?_
                clear H nn
                intro aa ww nn dd1 kp ss89 H
                replace ss0 := (kp 0 rfl).trans ss0
                replace ss1 := (kp 1 rfl).trans ss1
                replace ss2 := (kp 2 rfl).trans ss2
                replace ss3 := (kp 3 rfl).trans ss3
                replace ss4 := (kp 4 rfl).trans ss4
                replace ss7 := (kp 7 rfl).trans ss7
                replace ss8 := (kp 8 rfl).trans ss8
                replace ss9 := (kp 9 rfl).trans ss9
                replace ss10 := (kp 10 rfl).trans ss10
                replace ss11 := (kp 11 rfl).trans ss11
                replace ss12 := (kp 12 rfl).trans ss12
                replace ss13 := (kp 13 rfl).trans ss13
                replace ss16 := (kp 16 rfl).trans ss16
                replace ss24 := (kp 24 rfl).trans ss24
                replace ss32 := (kp 32 rfl).trans ss32
                replace ss44 := (kp 44 rfl).trans ss44
                replace ss45 := (kp 45 rfl).trans ss45
                replace ss57 := (kp 57 rfl).trans ss57
                replace ss68 := (kp 68 rfl).trans ss68
                replace ss75 := (kp 75 rfl).trans ss75
                replace ss82 := (kp 82 rfl).trans ss82
                replace dd := dd1.trans dd
                clear dd1 kp
                refine then_normal ?_
                refine hK38 _ _ ?_
                refine wp_cond_true ss89 ?_
                refine goes_w_r25 c x rc zs b3 b4 b7 i y hi hi2 z2ld z2rd ya d m hm1 hm r q p hr6 hq11 hp4 hr hq hp hq2 b12 h5 H aa nn ss7 ss12 ?_
                clear H nn ss13
                intro aa ww nn dd1 kp ss13 H
                replace ss0 := (kp 0 rfl).trans ss0
                replace ss1 := (kp 1 rfl).trans ss1
                replace ss2 := (kp 2 rfl).trans ss2
                replace ss3 := (kp 3 rfl).trans ss3
                replace ss4 := (kp 4 rfl).trans ss4
                replace ss7 := (kp 7 rfl).trans ss7
                replace ss8 := (kp 8 rfl).trans ss8
                replace ss9 := (kp 9 rfl).trans ss9
                replace ss10 := (kp 10 rfl).trans ss10
                replace ss11 := (kp 11 rfl).trans ss11
                replace ss12 := (kp 12 rfl).trans ss12
                replace ss16 := (kp 16 rfl).trans ss16
                replace ss24 := (kp 24 rfl).trans ss24
                replace ss32 := (kp 32 rfl).trans ss32
                replace ss44 := (kp 44 rfl).trans ss44
                replace ss45 := (kp 45 rfl).trans ss45
                replace ss57 := (kp 57 rfl).trans ss57
                replace ss68 := (kp 68 rfl).trans ss68
                replace ss75 := (kp 75 rfl).trans ss75
                replace ss82 := (kp 82 rfl).trans ss82
                replace ss89 := (kp 89 rfl).trans ss89
                replace dd := dd1.trans dd
                clear dd1 kp
                refine block_normal ?_
                refine then_normal ?_
                exact hjn1 ((expireV y).1) ((expireV y).2) _ _ (Lib.hid (step_expire hg.out)) nn dd ss0 ss1 ss2 ss3 ss4 ss7 ss8 ss9 ss10 ss11 ss12 ss13 ss16 ss24 ss32 ss44 ss45 (Lib.hid (H.out.sub (by repeat (first | exact List.Sublist.refl _ | apply List.Sublist.cons₂ | apply List.Sublist.cons))))
    · skip
      refine wp_exit ?_
      refine then_exit ?_
      refine then_exit ?_
      refine block_exit ?_
      refine then_normal ?_
      refine hK9 _ _ ?_
      refine wp_seq_k fun KK39 hK39 => ?_
      refine goes_w_r40 c x ra rc zs b3 b4 b7 i y hi hi2 H aa nn  ?_
      clear H nn
      intro aa ww nn dd1 kp ss6 H
      replace ss0 := (kp 0 rfl).trans ss0
      replace ss1 := (kp 1 rfl).trans ss1
      replace ss2 := (kp 2 rfl).trans ss2
      replace ss3 := (kp 3 rfl).trans ss3
      replace ss4 := (kp 4 rfl).trans ss4
      replace ss7 := (kp 7 rfl).trans ss7
      replace ss8 := (kp 8 rfl).trans ss8
      replace ss9 := (kp 9 rfl).trans ss9
      replace ss10 := (kp 10 rfl).trans ss10
      replace ss16 := (kp 16 rfl).trans ss16
      replace ss24 := (kp 24 rfl).trans ss24
      replace ss32 := (kp 32 rfl).trans ss32
      replace dd := dd1.trans dd
      clear dd1 kp
      refine then_normal ?_
      refine hK39 _ _ ?_
      refine wp_ret ?_
      exact ret1 rfl dd ss6 ⟨rfl, H.out.off⟩
end Go.Proofs.Ytfhhfmkfkoemjaa.Ca
