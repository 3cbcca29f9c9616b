/- Layer 10: what is fixed by number. -/
import Derived.Test.YtfhhfmkfkoemjaaProg
import Derived.Below
import Derived.WalkKit
import Derived.KernelRfl
import Derived.RowKit3
import Derived.Deep.LoopGhost
import Derived.Deep.QuietTactic
import Derived.BigQuiet
import Derived.WideLaws
import Derived.Deep.DeepCutAuto
import Derived.Deep.CutBlock
import Derived.Lib.Hide
import Derived.Laws.BitsLemmas
import Derived.Laws.Bits64
import Derived.Laws.BitsAllLaws
import Derived.IntWalk
import Derived.Outline
import Derived.WalkSpells
import Derived.Test.YtfhhfmkfkoemjaaMem
import Derived.Test.YtfhhfmkfkoemjaaKy3
namespace Go.Proofs.Ytfhhfmkfkoemjaa.Se6
open Go.RowKit Go.Proofs.Ytfhhfmkfkoemjaa.Mem Go.Proofs.Ytfhhfmkfkoemjaa.Reg Go.Proofs.Ytfhhfmkfkoemjaa.Pk Go.Proofs.Ytfhhfmkfkoemjaa.Si
set_option linter.unusedVariables false
set_option linter.unusedSimpArgs false

def smallV : Cfg := ⟨5, 1, 2, 4, 2, 4, 20, 100, 10, 1000, 2, 4, 4, 2, 0, 1, 1, 7⟩
set_option maxRecDepth 20000 in
theorem smallC_r0  {wa wb : World} (H : Hid (Hp [] wa wb [])) (ac0 : Act) (hz : ac0.tmps.size = 2)  {QR : Exit → Act → World → Prop} (hfin : ∀ (b0 : Nat) (ac1 : Act) (wz : World), ac1.tmps.size = 2 → ac1.defers = ac0.defers → (∀ t, ([0] : List Nat).contains t = false → ac1.eval (.tmp t) = ac0.eval (.tmp t)) → ac1.eval (.tmp 0) = .pointer (some ⟨b0, 0, none⟩) →  Hid (Hp [] wa wz [rB b0 24 [.int .i64 0, .int .i64 0, .int .i64 0, .int .i64 0, .int .i64 0, .int .i64 0, .int .i64 0, .int .i64 0, .int .i64 0, .int .i64 0, .int .i64 0, .int .i64 0, .int .i64 0, .int .i64 0, .int .i64 0, .int .i64 0, .int .i64 0, .int .u32 0]]) → QR .normal ac1 wz) : (regAt Try.f59 0).wp Try.prog QR ac0 wb := by
  refine wp_region_sq (by kernel_rfl) 2 hz (by kernel_rfl) (fun (xx : Nat) jx => match xx with | b0 => nth [.pointer (some ⟨b0, 0, none⟩)] jx) (fun (LL : Nat → Bool) (xx : Nat) ww => match xx with | b0 => Hp [] wa ww (bif LL 0 then [rB b0 24 [.int .i64 0, .int .i64 0, .int .i64 0, .int .i64 0, .int .i64 0, .int .i64 0, .int .i64 0, .int .i64 0, .int .i64 0, .int .i64 0, .int .i64 0, .int .i64 0, .int .i64 0, .int .i64 0, .int .i64 0, .int .i64 0, .int .i64 0, .int .u32 0]] else [])) default H.out ?_ (steps_al ?_) ?_ ?_
  · intro L1 L2 xx ww hL sg
    have lh0 := hL 0 (by decide)
    simp only [lh0] at sg
    exact sg
  · refine al_cons ?_ (al_nil)
    · intro LL xx ac wc sg hst hwant QQ hgo
      revert sg hst hgo; revert xx; intro xold sg hst hgo
      have H := Lib.hid hst
      simp only [sg.self, cond_true, cond_false] at H
      refine hpA_alloc tyapi_Config H rfl rfl ?_
      intro wd b0 H2
      exact hgo _ b0 _ (sg.agree (x' := b0) (n := 1) rfl (by (iterate 1 (refine ix_cons (by first | exact fun _ => rfl | exact no sg.self | exact no (sg.des _ rfl)) ?_)); exact ix_nil)) rfl (by simp only [(show upd LL 0 0 = true from rfl), cond_true, cond_false]; exact H2.out)
  · exact skips [] (by kernel_rfl) (fun _ h => by cases h)
  · intro xx ac1 wz hfr hsl hst
    revert hsl hst; revert xx; intro b0 hsl hst
    exact hfin b0 ac1 wz (hfr.size.trans hz) hfr.defers (fr_keep hfr [0] (by kernel_rfl)) (hsl 0 (by decide)) (Lib.hid hst)
set_option maxRecDepth 20000 in
theorem smallC_r1 (b0 : Nat) {wa wb : World} (H : Hid (Hp [] wa wb [rB b0 24 [.int .i64 0, .int .i64 0, .int .i64 0, .int .i64 0, .int .i64 0, .int .i64 0, .int .i64 0, .int .i64 0, .int .i64 0, .int .i64 0, .int .i64 0, .int .i64 0, .int .i64 0, .int .i64 0, .int .i64 0, .int .i64 0, .int .i64 0, .int .u32 0]])) (ac0 : Act) (hz : ac0.tmps.size = 2) (so0 : ac0.eval (.tmp 0) = .pointer (some ⟨b0, 0, none⟩)) {QR : Exit → Act → World → Prop} (hfin : ∀ (ac1 : Act) (wz : World), ac1.tmps.size = 2 → ac1.defers = ac0.defers → (∀ t, ([1] : List Nat).contains t = false → ac1.eval (.tmp t) = ac0.eval (.tmp t)) →  Hid (Hp [] wa wz [rB b0 24 [.int .i64 5, .int .i64 1, .int .i64 2, .int .i64 4, .int .i64 2, .int .i64 4, .int .i64 20, .int .i64 100, .int .i64 10, .int .i64 1000, .int .i64 2, .int .i64 4, .int .i64 4, .int .i64 2, .int .i64 0, .int .i64 1, .int .i64 1, .int .u32 7]]) → QR .normal ac1 wz) : (regAt Try.f59 1).wp Try.prog QR ac0 wb := by
  refine wp_region_sq (by kernel_rfl) 2 hz (by kernel_rfl) (fun (xx : Unit) jx => nth [.agg #[.int .i64 5, .int .i64 1, .int .i64 2, .int .i64 4, .int .i64 2, .int .i64 4, .int .i64 20, .int .i64 100, .int .i64 10, .int .i64 1000, .int .i64 2, .int .i64 4, .int .i64 4, .int .i64 2, .int .i64 0, .int .i64 1, .int .i64 1, .int .u32 7], undef] jx) (fun (LL : Nat → Bool) (xx : Unit) ww => Hp [] wa ww (bif LL 1 then [rB b0 24 [.int .i64 5, .int .i64 1, .int .i64 2, .int .i64 4, .int .i64 2, .int .i64 4, .int .i64 20, .int .i64 100, .int .i64 10, .int .i64 1000, .int .i64 2, .int .i64 4, .int .i64 4, .int .i64 2, .int .i64 0, .int .i64 1, .int .i64 1, .int .u32 7]] else [rB b0 24 [.int .i64 0, .int .i64 0, .int .i64 0, .int .i64 0, .int .i64 0, .int .i64 0, .int .i64 0, .int .i64 0, .int .i64 0, .int .i64 0, .int .i64 0, .int .i64 0, .int .i64 0, .int .i64 0, .int .i64 0, .int .i64 0, .int .i64 0, .int .u32 0]])) () H.out ?_ (steps_al ?_) ?_ ?_
  · intro L1 L2 xx ww hL sg
    have lh1 := hL 1 (by decide)
    simp only [lh1] at sg
    exact sg
  · refine al_cons ?_ (al_cons ?_ (al_nil))
    · intro LL xx ac wc sg hst hwant QQ hgo
      exact op_val hwant hgo hst _ (by simp only [execOp, nth, kA, kL, rkA, rkL, cA, cL]; go_simp <;> omega) rfl
    · intro LL xx ac wc sg hst hwant QQ hgo
      have H := Lib.hid hst
      simp only [sg.self, cond_true, cond_false] at H
      refine hpA_store tyapi_Config H rfl rfl ((sg.free 0 (by kernel_rfl)).trans so0) (sg.slot 0 (sg.anc 0 rfl)) rfl (by repeat (first | apply Put.head | apply Put.tail)) (by simp [kA, kL, rkA, rkL, cA, cL]) (by simp [kA, kL, rkA, rkL, cA, cL, Value.oneCell']) (by first | rfl | (simp only [spl]; rfl)) rfl ?_
      intro wd H2
      exact hgo _ () _ (fun _ _ => rfl) rfl (by simp only [(show upd LL 1 1 = true from rfl), cond_true, cond_false]; exact H2.out)
  · exact skips [] (by kernel_rfl) (fun _ h => by cases h)
  · intro xx ac1 wz hfr hsl hst
    exact hfin ac1 wz (hfr.size.trans hz) hfr.defers (fr_keep hfr [1] (by kernel_rfl)) (Lib.hid hst)
set_option maxRecDepth 20000 in
theorem smallC  (w : World) : Calls Try.prog 59 #[] w fun e w' => e = .returned (.agg (cA smallV)) ∧ Off [] w w' := by
  have H := Lib.hid (Hp.start [] w)
  refine calls_start Try.func59 rfl 2 rfl (by simp) (fun aa nn dd sl => ?_)
  clear sl
  refine wp_seq_k fun KK1 hK1 => ?_
  refine smallC_r0  H aa nn  ?_
  clear H nn
  intro b0 aa ww nn dd1 kp ss0 H
  replace dd := dd1.trans dd
  clear dd1 kp
  refine then_normal ?_
  refine hK1 _ _ ?_
  refine wp_seq_k fun KK2 hK2 => ?_
  refine smallC_r1 b0 H aa nn ss0 ?_
  clear H nn
  intro aa ww nn dd1 kp H
  replace ss0 := (kp 0 rfl).trans ss0
  replace dd := dd1.trans dd
  clear dd1 kp
  refine then_normal ?_
  refine hK2 _ _ ?_
  refine wp_ret ?_
  exact hp_ret_c tyapi_Config H rfl dd ss0  (by (repeat (first | exact List.Mem.head _ | apply List.Mem.tail))) rfl ⟨rfl, H.out.off⟩
theorem key59 (w : World) : Calls Try.prog 45 #[.int .i64 5, .int .i64 9] w fun e w' => e = .returned (.int .u64 21474836489) ∧ Off [] w w' :=
  keyYes 5 9 w (by decide) (by decide) (by decide) (by decide) (by decide) (by decide) (by decide) (by decide +kernel)
def w1V : List PairV := (withV smallV.keys (nameV 1 21474836489) ⟨21474836489 / 4294967296, (⟨#[98]⟩ : ByteArray), (⟨#[121, 101, 115]⟩ : ByteArray)⟩ (([] : List PairV).filter (keepB smallV 25))).1
set_option maxRecDepth 20000 in
theorem awake10_r0 (hk0 : 0 ≤ (21474836489 : Int)) (hk1 : (21474836489 : Int) ≤ 18446744073709551615) (f0 : (checkV smallV != 0) = false) (hroom : (if smallV.keys < 1 ∨ 65536 < smallV.keys then 0 else smallV.keys) = smallV.keys) (f1 : ((lookV smallV ([] : List PairV) 4 1 21474836489 (⟨#[98]⟩ : ByteArray)).2 == 4) = true) (f2 : ((lookV smallV ([] : List PairV) 5 1 21474836489 (⟨#[98]⟩ : ByteArray)).2 == 1) = true) (f3 : ((lookV smallV ([] : List PairV) 25 1 21474836489 (⟨#[98]⟩ : ByteArray)).2 != 1) = false) (f4 : (((lookV smallV w1V 25 1 21474836489 (⟨#[98]⟩ : ByteArray)).1).toList == ([121, 101, 115] : List UInt8)) = true) (f5 : ((lookV smallV w1V 25 1 21474836489 (⟨#[98]⟩ : ByteArray)).2 == 2) = true) (f6 : ((lookV smallV w1V 25 1 21474836489 (⟨#[99]⟩ : ByteArray)).2 == 3) = true) (f7 : ((lookV smallV w1V 26 1 21474836489 (⟨#[98]⟩ : ByteArray)).2 == 4) = true) (f8 : ((lookV smallV w1V 25 2 21474836489 (⟨#[98]⟩ : ByteArray)).2 == 1) = true) (f9 : ((((w1V).filter (keepB smallV 25)).length : Int) == 1) = true) (f10 : ((((w1V).filter (keepB smallV 26)).length : Int) == 0) = true) (f12 : isGoodV smallV 21474836489 25 = true) {wa wb : World} (H : Hid (Hp [] wa wb [rS none 0 4 (([] : List PairV).map rowOf)])) (ac0 : Act) (hz : ac0.tmps.size = 118)  {QR : Exit → Act → World → Prop} (hfin : ∀ (ac1 : Act) (wz : World), ac1.tmps.size = 118 → ac1.defers = ac0.defers → (∀ t, ([0] : List Nat).contains t = false → ac1.eval (.tmp t) = ac0.eval (.tmp t)) → ac1.eval (.tmp 0) = .bool false →  Hid (Hp [] wa wz [rS none 0 4 (([] : List PairV).map rowOf)]) → QR .normal ac1 wz) : (regAt Try.f44 0).wp Try.prog QR ac0 wb := by
  refine wp_region_sq (by kernel_rfl) 118 hz (by kernel_rfl) (fun (xx : Unit) jx => nth [.bool false] jx) (fun (LL : Nat → Bool) (xx : Unit) ww => Hp [] wa ww [rS none 0 4 (([] : List PairV).map rowOf)]) () H.out ?_ (steps_al ?_) ?_ ?_
  · exact fun _ _ _ _ _ h => h
  · refine al_cons ?_ (al_nil)
    · intro LL xx ac wc sg hst hwant QQ hgo
      exact op_val hwant hgo hst _ (exec_assign rfl rfl) rfl
  · exact skips [] (by kernel_rfl) (fun _ h => by cases h)
  · intro xx ac1 wz hfr hsl hst
    exact hfin ac1 wz (hfr.size.trans hz) hfr.defers (fr_keep hfr [0] (by kernel_rfl)) (hsl 0 (by decide)) (Lib.hid hst)
set_option maxRecDepth 20000 in
theorem awake10_r1 (hk0 : 0 ≤ (21474836489 : Int)) (hk1 : (21474836489 : Int) ≤ 18446744073709551615) (f0 : (checkV smallV != 0) = false) (hroom : (if smallV.keys < 1 ∨ 65536 < smallV.keys then 0 else smallV.keys) = smallV.keys) (f1 : ((lookV smallV ([] : List PairV) 4 1 21474836489 (⟨#[98]⟩ : ByteArray)).2 == 4) = true) (f2 : ((lookV smallV ([] : List PairV) 5 1 21474836489 (⟨#[98]⟩ : ByteArray)).2 == 1) = true) (f3 : ((lookV smallV ([] : List PairV) 25 1 21474836489 (⟨#[98]⟩ : ByteArray)).2 != 1) = false) (f4 : (((lookV smallV w1V 25 1 21474836489 (⟨#[98]⟩ : ByteArray)).1).toList == ([121, 101, 115] : List UInt8)) = true) (f5 : ((lookV smallV w1V 25 1 21474836489 (⟨#[98]⟩ : ByteArray)).2 == 2) = true) (f6 : ((lookV smallV w1V 25 1 21474836489 (⟨#[99]⟩ : ByteArray)).2 == 3) = true) (f7 : ((lookV smallV w1V 26 1 21474836489 (⟨#[98]⟩ : ByteArray)).2 == 4) = true) (f8 : ((lookV smallV w1V 25 2 21474836489 (⟨#[98]⟩ : ByteArray)).2 == 1) = true) (f9 : ((((w1V).filter (keepB smallV 25)).length : Int) == 1) = true) (f10 : ((((w1V).filter (keepB smallV 26)).length : Int) == 0) = true) (f12 : isGoodV smallV 21474836489 25 = true) {wa wb : World} (H : Hid (Hp [] wa wb [rS none 0 4 (([] : List PairV).map rowOf)])) (ac0 : Act) (hz : ac0.tmps.size = 118)  {QR : Exit → Act → World → Prop} (hfin : ∀ (b1 : Nat) (ac1 : Act) (wz : World), ac1.tmps.size = 118 → ac1.defers = ac0.defers → (∀ t, ([1, 18] : List Nat).contains t = false → ac1.eval (.tmp t) = ac0.eval (.tmp t)) → ac1.eval (.tmp 1) = .pointer (some ⟨b1, 0, none⟩) →  Hid (Hp [] wa wz [rB b1 24 (cL smallV), rS none 0 4 (([] : List PairV).map rowOf)]) → QR .normal ac1 wz) : (regAt Try.f44 1).wp Try.prog QR ac0 wb := by
  refine wp_region_sq (by kernel_rfl) 118 hz (by kernel_rfl) (fun (xx : Nat) jx => match xx with | b1 => nth [.agg (cA smallV), .pointer (some ⟨b1, 0, none⟩), undef] jx) (fun (LL : Nat → Bool) (xx : Nat) ww => match xx with | b1 => Hp [] wa ww (bif LL 2 then [rB b1 24 (cL smallV), rS none 0 4 (([] : List PairV).map rowOf)] else (bif LL 1 then [rB b1 24 [.int .i64 0, .int .i64 0, .int .i64 0, .int .i64 0, .int .i64 0, .int .i64 0, .int .i64 0, .int .i64 0, .int .i64 0, .int .i64 0, .int .i64 0, .int .i64 0, .int .i64 0, .int .i64 0, .int .i64 0, .int .i64 0, .int .i64 0, .int .u32 0], rS none 0 4 (([] : List PairV).map rowOf)] else [rS none 0 4 (([] : List PairV).map rowOf)]))) default H.out ?_ (steps_al ?_) ?_ ?_
  · intro L1 L2 xx ww hL sg
    have lh1 := hL 1 (by decide)
    have lh2 := hL 2 (by decide)
    simp only [lh1, lh2] at sg
    exact sg
  · refine al_cons ?_ (al_cons ?_ (al_cons ?_ (al_nil)))
    · intro LL xx ac wc sg hst hwant QQ hgo
      revert sg hst hgo; revert xx; intro b1 sg hst hgo
      refine op_call hwant hgo 59 _ (by simp only [execOp]; go_simp) (smallC wc) ?_
      rintro er wd ⟨rfl, hof⟩
      exact ⟨_, b1, rfl, fun _ _ => rfl, rfl, Hp.quiet hst hof⟩
    · intro LL xx ac wc sg hst hwant QQ hgo
      revert sg hst hgo; revert xx; intro xold sg hst hgo
      have H := Lib.hid hst
      simp only [sg.self, sg.des 2 rfl, cond_true, cond_false] at H
      refine hpA_alloc tyapi_Config H rfl rfl ?_
      intro wd b1 H2
      exact hgo _ b1 _ (sg.agree (x' := b1) (n := 3) rfl (by (iterate 3 (refine ix_cons (by first | exact fun _ => rfl | exact no sg.self | exact no (sg.des _ rfl)) ?_)); exact ix_nil)) rfl (by simp only [(show upd LL 1 1 = true from rfl), (show upd LL 1 2 = LL 2 from rfl), sg.des 2 rfl, cond_true, cond_false]; exact H2.out)
    · intro LL xx ac wc sg hst hwant QQ hgo
      revert sg hst hgo; revert xx; intro b1 sg hst hgo
      have H := Lib.hid hst
      simp only [sg.anc 1 rfl, sg.self, cond_true, cond_false] at H
      refine hpA_store tyapi_Config H rfl rfl (sg.slot 1 (sg.anc 1 rfl)) (sg.slot 0 (sg.anc 0 rfl)) rfl (by repeat (first | apply Put.head | apply Put.tail)) (by simp [kA, kL, rkA, rkL, cA, cL]) (by simp [kA, kL, rkA, rkL, cA, cL, Value.oneCell']) (by first | rfl | (simp only [spl]; rfl)) rfl ?_
      intro wd H2
      exact hgo _ b1 _ (sg.agree (x' := b1) (n := 3) rfl (by (iterate 3 (refine ix_cons (by first | exact fun _ => rfl | exact no sg.self | exact no (sg.des _ rfl)) ?_)); exact ix_nil)) rfl (by simp only [(show upd LL 2 1 = LL 1 from rfl), sg.anc 1 rfl, (show upd LL 2 2 = true from rfl), cond_true, cond_false]; exact H2.out)
  · exact skips [] (by kernel_rfl) (fun _ h => by cases h)
  · intro xx ac1 wz hfr hsl hst
    revert hsl hst; revert xx; intro b1 hsl hst
    exact hfin b1 ac1 wz (hfr.size.trans hz) hfr.defers (fr_keep hfr [1, 18] (by kernel_rfl)) (hsl 1 (by decide)) (Lib.hid hst)
set_option maxRecDepth 20000 in
theorem awake10_r2 (hk0 : 0 ≤ (21474836489 : Int)) (hk1 : (21474836489 : Int) ≤ 18446744073709551615) (f0 : (checkV smallV != 0) = false) (hroom : (if smallV.keys < 1 ∨ 65536 < smallV.keys then 0 else smallV.keys) = smallV.keys) (f1 : ((lookV smallV ([] : List PairV) 4 1 21474836489 (⟨#[98]⟩ : ByteArray)).2 == 4) = true) (f2 : ((lookV smallV ([] : List PairV) 5 1 21474836489 (⟨#[98]⟩ : ByteArray)).2 == 1) = true) (f3 : ((lookV smallV ([] : List PairV) 25 1 21474836489 (⟨#[98]⟩ : ByteArray)).2 != 1) = false) (f4 : (((lookV smallV w1V 25 1 21474836489 (⟨#[98]⟩ : ByteArray)).1).toList == ([121, 101, 115] : List UInt8)) = true) (f5 : ((lookV smallV w1V 25 1 21474836489 (⟨#[98]⟩ : ByteArray)).2 == 2) = true) (f6 : ((lookV smallV w1V 25 1 21474836489 (⟨#[99]⟩ : ByteArray)).2 == 3) = true) (f7 : ((lookV smallV w1V 26 1 21474836489 (⟨#[98]⟩ : ByteArray)).2 == 4) = true) (f8 : ((lookV smallV w1V 25 2 21474836489 (⟨#[98]⟩ : ByteArray)).2 == 1) = true) (f9 : ((((w1V).filter (keepB smallV 25)).length : Int) == 1) = true) (f10 : ((((w1V).filter (keepB smallV 26)).length : Int) == 0) = true) (f12 : isGoodV smallV 21474836489 25 = true) (b1 : Nat) {wa wb : World} (H : Hid (Hp [] wa wb [rB b1 24 (cL smallV), rS none 0 4 (([] : List PairV).map rowOf)])) (ac0 : Act) (hz : ac0.tmps.size = 118) (so1 : ac0.eval (.tmp 1) = .pointer (some ⟨b1, 0, none⟩)) {QR : Exit → Act → World → Prop} (hfin : ∀ (b2 : Nat) (ac1 : Act) (wz : World), ac1.tmps.size = 118 → ac1.defers = ac0.defers → (∀ t, ([2, 19, 20] : List Nat).contains t = false → ac1.eval (.tmp t) = ac0.eval (.tmp t)) → ac1.eval (.tmp 2) = .pointer (some ⟨b2, 0, none⟩) →  Hid (Hp [] wa wz [rB b2 84 (kL smallV smallV.keys (.slice none (([] : List PairV).length) 0)), rB b1 24 (cL smallV), rS none 0 4 (([] : List PairV).map rowOf)]) → QR .normal ac1 wz) : (regAt Try.f44 2).wp Try.prog QR ac0 wb := by
  refine wp_region_sq (by kernel_rfl) 118 hz (by kernel_rfl) (fun (xx : Nat) jx => match xx with | b2 => nth [.agg (cA smallV), .agg (kA smallV smallV.keys (.slice none (([] : List PairV).length) 0)), .pointer (some ⟨b2, 0, none⟩), undef] jx) (fun (LL : Nat → Bool) (xx : Nat) ww => match xx with | b2 => Hp [] wa ww (bif LL 3 then [rB b2 84 (kL smallV smallV.keys (.slice none (([] : List PairV).length) 0)), rB b1 24 (cL smallV), rS none 0 4 (([] : List PairV).map rowOf)] else (bif LL 2 then [rB b2 84 [.int .i64 0, .int .i64 0, .int .i64 0, .int .i64 0, .int .i64 0, .int .i64 0, .int .i64 0, .int .i64 0, .int .i64 0, .int .i64 0, .int .i64 0, .int .i64 0, .int .i64 0, .int .i64 0, .int .i64 0, .int .i64 0, .int .i64 0, .int .u32 0, .int .i64 0, .slice none 0 0], rB b1 24 (cL smallV), rS none 0 4 (([] : List PairV).map rowOf)] else [rB b1 24 (cL smallV), rS none 0 4 (([] : List PairV).map rowOf)]))) default H.out ?_ (steps_al ?_) ?_ ?_
  · intro L1 L2 xx ww hL sg
    have lh2 := hL 2 (by decide)
    have lh3 := hL 3 (by decide)
    simp only [lh2, lh3] at sg
    exact sg
  · refine al_cons ?_ (al_cons ?_ (al_cons ?_ (al_cons ?_ (al_nil))))
    · intro LL xx ac wc sg hst hwant QQ hgo
      revert sg hst hgo; revert xx; intro b2 sg hst hgo
      have H := Lib.hid hst
      simp only [sg.des 2 rfl, sg.des 3 rfl, cond_true, cond_false] at H
      refine hpA_load tyapi_Config H rfl ((sg.free 1 (by kernel_rfl)).trans so1) hwant (by (repeat (first | exact List.Mem.head _ | apply List.Mem.tail))) (by rfl) rfl ?_
      exact hgo _ b2 _ (fun _ _ => rfl) rfl hst
    · intro LL xx ac wc sg hst hwant QQ hgo
      revert sg hst hgo; revert xx; intro b2 sg hst hgo
      have se19 : ac.eval (.tmp 19) = _ := (sg.slot 0 (sg.anc 0 rfl))
      have sg19 := gt_of se19
      (try simp only [nth] at se19 sg19)
      refine op_call hwant hgo 47 _ (by simp only [execOp]; go_simp) (makeYes smallV wc f0 hroom) ?_
      rintro er wd ⟨rfl, hof⟩
      exact ⟨_, b2, rfl, fun _ _ => rfl, rfl, Hp.quiet hst hof⟩
    · intro LL xx ac wc sg hst hwant QQ hgo
      revert sg hst hgo; revert xx; intro xold sg hst hgo
      have H := Lib.hid hst
      simp only [sg.self, sg.des 3 rfl, cond_true, cond_false] at H
      refine hpA_alloc tykeys_Keys H rfl rfl ?_
      intro wd b2 H2
      exact hgo _ b2 _ (sg.agree (x' := b2) (n := 4) rfl (by (iterate 4 (refine ix_cons (by first | exact fun _ => rfl | exact no sg.self | exact no (sg.des _ rfl)) ?_)); exact ix_nil)) rfl (by simp only [(show upd LL 2 2 = true from rfl), (show upd LL 2 3 = LL 3 from rfl), sg.des 3 rfl, cond_true, cond_false]; exact H2.out)
    · intro LL xx ac wc sg hst hwant QQ hgo
      revert sg hst hgo; revert xx; intro b2 sg hst hgo
      have H := Lib.hid hst
      simp only [sg.anc 2 rfl, sg.self, cond_true, cond_false] at H
      refine hpA_store tykeys_Keys H rfl rfl (sg.slot 2 (sg.anc 2 rfl)) (sg.slot 1 (sg.anc 1 rfl)) rfl (by repeat (first | apply Put.head | apply Put.tail)) (by simp [kA, kL, rkA, rkL, cA, cL]) (by simp [kA, kL, rkA, rkL, cA, cL, Value.oneCell']) (by first | rfl | (simp only [spl]; rfl)) rfl ?_
      intro wd H2
      exact hgo _ b2 _ (sg.agree (x' := b2) (n := 4) rfl (by (iterate 4 (refine ix_cons (by first | exact fun _ => rfl | exact no sg.self | exact no (sg.des _ rfl)) ?_)); exact ix_nil)) rfl (by simp only [(show upd LL 3 2 = LL 2 from rfl), sg.anc 2 rfl, (show upd LL 3 3 = true from rfl), cond_true, cond_false]; exact H2.out)
  · exact skips [] (by kernel_rfl) (fun _ h => by cases h)
  · intro xx ac1 wz hfr hsl hst
    revert hsl hst; revert xx; intro b2 hsl hst
    exact hfin b2 ac1 wz (hfr.size.trans hz) hfr.defers (fr_keep hfr [2, 19, 20] (by kernel_rfl)) (hsl 2 (by decide)) (Lib.hid hst)
set_option maxRecDepth 20000 in
theorem awake10_r3 (hk0 : 0 ≤ (21474836489 : Int)) (hk1 : (21474836489 : Int) ≤ 18446744073709551615) (f0 : (checkV smallV != 0) = false) (hroom : (if smallV.keys < 1 ∨ 65536 < smallV.keys then 0 else smallV.keys) = smallV.keys) (f1 : ((lookV smallV ([] : List PairV) 4 1 21474836489 (⟨#[98]⟩ : ByteArray)).2 == 4) = true) (f2 : ((lookV smallV ([] : List PairV) 5 1 21474836489 (⟨#[98]⟩ : ByteArray)).2 == 1) = true) (f3 : ((lookV smallV ([] : List PairV) 25 1 21474836489 (⟨#[98]⟩ : ByteArray)).2 != 1) = false) (f4 : (((lookV smallV w1V 25 1 21474836489 (⟨#[98]⟩ : ByteArray)).1).toList == ([121, 101, 115] : List UInt8)) = true) (f5 : ((lookV smallV w1V 25 1 21474836489 (⟨#[98]⟩ : ByteArray)).2 == 2) = true) (f6 : ((lookV smallV w1V 25 1 21474836489 (⟨#[99]⟩ : ByteArray)).2 == 3) = true) (f7 : ((lookV smallV w1V 26 1 21474836489 (⟨#[98]⟩ : ByteArray)).2 == 4) = true) (f8 : ((lookV smallV w1V 25 2 21474836489 (⟨#[98]⟩ : ByteArray)).2 == 1) = true) (f9 : ((((w1V).filter (keepB smallV 25)).length : Int) == 1) = true) (f10 : ((((w1V).filter (keepB smallV 26)).length : Int) == 0) = true) (f12 : isGoodV smallV 21474836489 25 = true) (b1 : Nat) (b2 : Nat) {wa wb : World} (H : Hid (Hp [] wa wb [rB b2 84 (kL smallV smallV.keys (.slice none (([] : List PairV).length) 0)), rB b1 24 (cL smallV), rS none 0 4 (([] : List PairV).map rowOf)])) (ac0 : Act) (hz : ac0.tmps.size = 118)  {QR : Exit → Act → World → Prop} (hfin : ∀ (ac1 : Act) (wz : World), ac1.tmps.size = 118 → ac1.defers = ac0.defers → (∀ t, ([3, 21] : List Nat).contains t = false → ac1.eval (.tmp t) = ac0.eval (.tmp t)) → ac1.eval (.tmp 3) = .int .u64 21474836489 →  Hid (Hp [] wa wz [rB b2 84 (kL smallV smallV.keys (.slice none (([] : List PairV).length) 0)), rB b1 24 (cL smallV), rS none 0 4 (([] : List PairV).map rowOf)]) → QR .normal ac1 wz) : (regAt Try.f44 3).wp Try.prog QR ac0 wb := by
  refine wp_region_sq (by kernel_rfl) 118 hz (by kernel_rfl) (fun (xx : Unit) jx => nth [.int .u64 21474836489, .int .u64 21474836489] jx) (fun (LL : Nat → Bool) (xx : Unit) ww => Hp [] wa ww [rB b2 84 (kL smallV smallV.keys (.slice none (([] : List PairV).length) 0)), rB b1 24 (cL smallV), rS none 0 4 (([] : List PairV).map rowOf)]) () H.out ?_ (steps_al ?_) ?_ ?_
  · exact fun _ _ _ _ _ h => h
  · refine al_cons ?_ (al_cons ?_ (al_nil))
    · intro LL xx ac wc sg hst hwant QQ hgo
      refine op_call hwant hgo 45 _ (by simp only [execOp]; go_simp) (key59 wc) ?_
      rintro er wd ⟨rfl, hof⟩
      exact ⟨_, (), rfl, fun _ _ => rfl, rfl, Hp.quiet hst hof⟩
    · intro LL xx ac wc sg hst hwant QQ hgo
      exact op_val hwant hgo hst _ (exec_assign rfl (sg.slot 0 (sg.anc 0 rfl))) rfl
  · exact skips [] (by kernel_rfl) (fun _ h => by cases h)
  · intro xx ac1 wz hfr hsl hst
    exact hfin ac1 wz (hfr.size.trans hz) hfr.defers (fr_keep hfr [3, 21] (by kernel_rfl)) (hsl 1 (by decide)) (Lib.hid hst)
set_option maxRecDepth 20000 in
theorem awake10_r4 (hk0 : 0 ≤ (21474836489 : Int)) (hk1 : (21474836489 : Int) ≤ 18446744073709551615) (f0 : (checkV smallV != 0) = false) (hroom : (if smallV.keys < 1 ∨ 65536 < smallV.keys then 0 else smallV.keys) = smallV.keys) (f1 : ((lookV smallV ([] : List PairV) 4 1 21474836489 (⟨#[98]⟩ : ByteArray)).2 == 4) = true) (f2 : ((lookV smallV ([] : List PairV) 5 1 21474836489 (⟨#[98]⟩ : ByteArray)).2 == 1) = true) (f3 : ((lookV smallV ([] : List PairV) 25 1 21474836489 (⟨#[98]⟩ : ByteArray)).2 != 1) = false) (f4 : (((lookV smallV w1V 25 1 21474836489 (⟨#[98]⟩ : ByteArray)).1).toList == ([121, 101, 115] : List UInt8)) = true) (f5 : ((lookV smallV w1V 25 1 21474836489 (⟨#[98]⟩ : ByteArray)).2 == 2) = true) (f6 : ((lookV smallV w1V 25 1 21474836489 (⟨#[99]⟩ : ByteArray)).2 == 3) = true) (f7 : ((lookV smallV w1V 26 1 21474836489 (⟨#[98]⟩ : ByteArray)).2 == 4) = true) (f8 : ((lookV smallV w1V 25 2 21474836489 (⟨#[98]⟩ : ByteArray)).2 == 1) = true) (f9 : ((((w1V).filter (keepB smallV 25)).length : Int) == 1) = true) (f10 : ((((w1V).filter (keepB smallV 26)).length : Int) == 0) = true) (f12 : isGoodV smallV 21474836489 25 = true) (b1 : Nat) (b2 : Nat) {wa wb : World} (H : Hid (Hp [] wa wb [rB b2 84 (kL smallV smallV.keys (.slice none (([] : List PairV).length) 0)), rB b1 24 (cL smallV), rS none 0 4 (([] : List PairV).map rowOf)])) (ac0 : Act) (hz : ac0.tmps.size = 118) (so2 : ac0.eval (.tmp 2) = .pointer (some ⟨b2, 0, none⟩)) (so3 : ac0.eval (.tmp 3) = .int .u64 21474836489) {QR : Exit → Act → World → Prop} (hfin : ∀ (ac1 : Act) (wz : World), ac1.tmps.size = 118 → ac1.defers = ac0.defers → (∀ t, ([4, 5, 22, 23, 24, 25, 26, 27] : List Nat).contains t = false → ac1.eval (.tmp t) = ac0.eval (.tmp t)) → ac1.eval (.tmp 5) = .int .i64 ((lookV smallV ([] : List PairV) 4 1 21474836489 (⟨#[98]⟩ : ByteArray)).2) →  Hid (Hp [] wa wz [rB b2 84 (kL smallV smallV.keys (.slice none (([] : List PairV).length) 0)), rB b1 24 (cL smallV), rS none 0 4 (([] : List PairV).map rowOf)]) → QR .normal ac1 wz) : (regAt Try.f44 4).wp Try.prog QR ac0 wb := by
  refine wp_region_sq (by kernel_rfl) 118 hz (by kernel_rfl) (fun (xx : Unit) jx => nth [.agg (kA smallV smallV.keys (.slice none (([] : List PairV).length) 0)), .int .u64 21474836489, .tuple #[.string ((lookV smallV ([] : List PairV) 4 1 21474836489 (⟨#[98]⟩ : ByteArray)).1), .int .i64 ((lookV smallV ([] : List PairV) 4 1 21474836489 (⟨#[98]⟩ : ByteArray)).2)], .tuple #[.string ((lookV smallV ([] : List PairV) 4 1 21474836489 (⟨#[98]⟩ : ByteArray)).1), .int .i64 ((lookV smallV ([] : List PairV) 4 1 21474836489 (⟨#[98]⟩ : ByteArray)).2)], .string ((lookV smallV ([] : List PairV) 4 1 21474836489 (⟨#[98]⟩ : ByteArray)).1), .int .i64 ((lookV smallV ([] : List PairV) 4 1 21474836489 (⟨#[98]⟩ : ByteArray)).2), .string ((lookV smallV ([] : List PairV) 4 1 21474836489 (⟨#[98]⟩ : ByteArray)).1), .int .i64 ((lookV smallV ([] : List PairV) 4 1 21474836489 (⟨#[98]⟩ : ByteArray)).2)] jx) (fun (LL : Nat → Bool) (xx : Unit) ww => Hp [] wa ww [rB b2 84 (kL smallV smallV.keys (.slice none (([] : List PairV).length) 0)), rB b1 24 (cL smallV), rS none 0 4 (([] : List PairV).map rowOf)]) () H.out ?_ (steps_al ?_) ?_ ?_
  · exact fun _ _ _ _ _ h => h
  · refine al_cons ?_ (al_cons ?_ (al_cons ?_ (al_cons ?_ (al_cons ?_ (al_cons ?_ (al_cons ?_ (al_cons ?_ (al_nil))))))))
    · intro LL xx ac wc sg hst hwant QQ hgo
      have H := Lib.hid hst
      refine hpA_load tykeys_Keys H rfl ((sg.free 2 (by kernel_rfl)).trans so2) hwant (by (repeat (first | exact List.Mem.head _ | apply List.Mem.tail))) (by rfl) rfl ?_
      exact hgo _ () _ (fun _ _ => rfl) rfl hst
    · intro LL xx ac wc sg hst hwant QQ hgo
      exact op_val hwant hgo hst _ (exec_move rfl ((sg.free 3 (by kernel_rfl)).trans so3)) rfl
    · intro LL xx ac wc sg hst hwant QQ hgo
      have se23 : ac.eval (.tmp 23) = _ := (sg.slot 0 (sg.anc 0 rfl))
      have sg23 := gt_of se23
      have se24 : ac.eval (.tmp 24) = _ := (sg.slot 1 (sg.anc 1 rfl))
      have sg24 := gt_of se24
      (try simp only [nth] at se23 sg23 se24 sg24)
      have H := Lib.hid hst
      refine op_call hwant hgo 48 _ (by simp only [execOp]; go_simp) (lookC smallV smallV.keys none 0 ([] : List PairV) 4 1 21474836489 (⟨#[98]⟩ : ByteArray) wc (hp_held H (by (repeat (first | exact List.Mem.head _ | apply List.Mem.tail)))) hk0 hk1 (Lib.hid List.Pairwise.nil) (by decide +kernel)) ?_
      rintro er wd ⟨rfl, hof⟩
      exact ⟨_, (), rfl, fun _ _ => rfl, rfl, Hp.quiet hst hof⟩
    · intro LL xx ac wc sg hst hwant QQ hgo
      exact op_val hwant hgo hst _ (exec_move rfl (sg.slot 2 (sg.anc 2 rfl))) rfl
    · intro LL xx ac wc sg hst hwant QQ hgo
      have se22 : ac.eval (.tmp 22) = _ := (sg.slot 3 (sg.anc 3 rfl))
      have sg22 := gt_of se22
      (try simp only [nth] at se22 sg22)
      exact op_val hwant hgo hst _ (by simp only [execOp, nth]; go_simp <;> omega) rfl
    · intro LL xx ac wc sg hst hwant QQ hgo
      have se22 : ac.eval (.tmp 22) = _ := (sg.slot 3 (sg.anc 3 rfl))
      have sg22 := gt_of se22
      (try simp only [nth] at se22 sg22)
      exact op_val hwant hgo hst _ (by simp only [execOp, nth]; go_simp <;> omega) rfl
    · intro LL xx ac wc sg hst hwant QQ hgo
      exact op_val hwant hgo hst _ (exec_assign rfl (sg.slot 4 (sg.anc 4 rfl))) rfl
    · intro LL xx ac wc sg hst hwant QQ hgo
      exact op_val hwant hgo hst _ (exec_assign rfl (sg.slot 5 (sg.anc 5 rfl))) rfl
  · exact skips [] (by kernel_rfl) (fun _ h => by cases h)
  · intro xx ac1 wz hfr hsl hst
    exact hfin ac1 wz (hfr.size.trans hz) hfr.defers (fr_keep hfr [4, 5, 22, 23, 24, 25, 26, 27] (by kernel_rfl)) (hsl 7 (by decide)) (Lib.hid hst)
set_option maxRecDepth 20000 in
theorem awake10_r5 (hk0 : 0 ≤ (21474836489 : Int)) (hk1 : (21474836489 : Int) ≤ 18446744073709551615) (f0 : (checkV smallV != 0) = false) (hroom : (if smallV.keys < 1 ∨ 65536 < smallV.keys then 0 else smallV.keys) = smallV.keys) (f1 : ((lookV smallV ([] : List PairV) 4 1 21474836489 (⟨#[98]⟩ : ByteArray)).2 == 4) = true) (f2 : ((lookV smallV ([] : List PairV) 5 1 21474836489 (⟨#[98]⟩ : ByteArray)).2 == 1) = true) (f3 : ((lookV smallV ([] : List PairV) 25 1 21474836489 (⟨#[98]⟩ : ByteArray)).2 != 1) = false) (f4 : (((lookV smallV w1V 25 1 21474836489 (⟨#[98]⟩ : ByteArray)).1).toList == ([121, 101, 115] : List UInt8)) = true) (f5 : ((lookV smallV w1V 25 1 21474836489 (⟨#[98]⟩ : ByteArray)).2 == 2) = true) (f6 : ((lookV smallV w1V 25 1 21474836489 (⟨#[99]⟩ : ByteArray)).2 == 3) = true) (f7 : ((lookV smallV w1V 26 1 21474836489 (⟨#[98]⟩ : ByteArray)).2 == 4) = true) (f8 : ((lookV smallV w1V 25 2 21474836489 (⟨#[98]⟩ : ByteArray)).2 == 1) = true) (f9 : ((((w1V).filter (keepB smallV 25)).length : Int) == 1) = true) (f10 : ((((w1V).filter (keepB smallV 26)).length : Int) == 0) = true) (f12 : isGoodV smallV 21474836489 25 = true) (b1 : Nat) (b2 : Nat) {wa wb : World} (H : Hid (Hp [] wa wb [rB b2 84 (kL smallV smallV.keys (.slice none (([] : List PairV).length) 0)), rB b1 24 (cL smallV), rS none 0 4 (([] : List PairV).map rowOf)])) (ac0 : Act) (hz : ac0.tmps.size = 118) (so2 : ac0.eval (.tmp 2) = .pointer (some ⟨b2, 0, none⟩)) (so3 : ac0.eval (.tmp 3) = .int .u64 21474836489) {QR : Exit → Act → World → Prop} (hfin : ∀ (ac1 : Act) (wz : World), ac1.tmps.size = 118 → ac1.defers = ac0.defers → (∀ t, ([6, 7, 28, 29, 30, 31, 32, 33] : List Nat).contains t = false → ac1.eval (.tmp t) = ac0.eval (.tmp t)) → ac1.eval (.tmp 7) = .int .i64 ((lookV smallV ([] : List PairV) 5 1 21474836489 (⟨#[98]⟩ : ByteArray)).2) →  Hid (Hp [] wa wz [rB b2 84 (kL smallV smallV.keys (.slice none (([] : List PairV).length) 0)), rB b1 24 (cL smallV), rS none 0 4 (([] : List PairV).map rowOf)]) → QR .normal ac1 wz) : (regAt Try.f44 5).wp Try.prog QR ac0 wb := by
  refine wp_region_sq (by kernel_rfl) 118 hz (by kernel_rfl) (fun (xx : Unit) jx => nth [.agg (kA smallV smallV.keys (.slice none (([] : List PairV).length) 0)), .int .u64 21474836489, .tuple #[.string ((lookV smallV ([] : List PairV) 5 1 21474836489 (⟨#[98]⟩ : ByteArray)).1), .int .i64 ((lookV smallV ([] : List PairV) 5 1 21474836489 (⟨#[98]⟩ : ByteArray)).2)], .tuple #[.string ((lookV smallV ([] : List PairV) 5 1 21474836489 (⟨#[98]⟩ : ByteArray)).1), .int .i64 ((lookV smallV ([] : List PairV) 5 1 21474836489 (⟨#[98]⟩ : ByteArray)).2)], .string ((lookV smallV ([] : List PairV) 5 1 21474836489 (⟨#[98]⟩ : ByteArray)).1), .int .i64 ((lookV smallV ([] : List PairV) 5 1 21474836489 (⟨#[98]⟩ : ByteArray)).2), .string ((lookV smallV ([] : List PairV) 5 1 21474836489 (⟨#[98]⟩ : ByteArray)).1), .int .i64 ((lookV smallV ([] : List PairV) 5 1 21474836489 (⟨#[98]⟩ : ByteArray)).2)] jx) (fun (LL : Nat → Bool) (xx : Unit) ww => Hp [] wa ww [rB b2 84 (kL smallV smallV.keys (.slice none (([] : List PairV).length) 0)), rB b1 24 (cL smallV), rS none 0 4 (([] : List PairV).map rowOf)]) () H.out ?_ (steps_al ?_) ?_ ?_
  · exact fun _ _ _ _ _ h => h
  · refine al_cons ?_ (al_cons ?_ (al_cons ?_ (al_cons ?_ (al_cons ?_ (al_cons ?_ (al_cons ?_ (al_cons ?_ (al_nil))))))))
    · intro LL xx ac wc sg hst hwant QQ hgo
      have H := Lib.hid hst
      refine hpA_load tykeys_Keys H rfl ((sg.free 2 (by kernel_rfl)).trans so2) hwant (by (repeat (first | exact List.Mem.head _ | apply List.Mem.tail))) (by rfl) rfl ?_
      exact hgo _ () _ (fun _ _ => rfl) rfl hst
    · intro LL xx ac wc sg hst hwant QQ hgo
      exact op_val hwant hgo hst _ (exec_move rfl ((sg.free 3 (by kernel_rfl)).trans so3)) rfl
    · intro LL xx ac wc sg hst hwant QQ hgo
      have se29 : ac.eval (.tmp 29) = _ := (sg.slot 0 (sg.anc 0 rfl))
      have sg29 := gt_of se29
      have se30 : ac.eval (.tmp 30) = _ := (sg.slot 1 (sg.anc 1 rfl))
      have sg30 := gt_of se30
      (try simp only [nth] at se29 sg29 se30 sg30)
      have H := Lib.hid hst
      refine op_call hwant hgo 48 _ (by simp only [execOp]; go_simp) (lookC smallV smallV.keys none 0 ([] : List PairV) 5 1 21474836489 (⟨#[98]⟩ : ByteArray) wc (hp_held H (by (repeat (first | exact List.Mem.head _ | apply List.Mem.tail)))) hk0 hk1 (Lib.hid List.Pairwise.nil) (by decide +kernel)) ?_
      rintro er wd ⟨rfl, hof⟩
      exact ⟨_, (), rfl, fun _ _ => rfl, rfl, Hp.quiet hst hof⟩
    · intro LL xx ac wc sg hst hwant QQ hgo
      exact op_val hwant hgo hst _ (exec_move rfl (sg.slot 2 (sg.anc 2 rfl))) rfl
    · intro LL xx ac wc sg hst hwant QQ hgo
      have se28 : ac.eval (.tmp 28) = _ := (sg.slot 3 (sg.anc 3 rfl))
      have sg28 := gt_of se28
      (try simp only [nth] at se28 sg28)
      exact op_val hwant hgo hst _ (by simp only [execOp, nth]; go_simp <;> omega) rfl
    · intro LL xx ac wc sg hst hwant QQ hgo
      have se28 : ac.eval (.tmp 28) = _ := (sg.slot 3 (sg.anc 3 rfl))
      have sg28 := gt_of se28
      (try simp only [nth] at se28 sg28)
      exact op_val hwant hgo hst _ (by simp only [execOp, nth]; go_simp <;> omega) rfl
    · intro LL xx ac wc sg hst hwant QQ hgo
      exact op_val hwant hgo hst _ (exec_assign rfl (sg.slot 4 (sg.anc 4 rfl))) rfl
    · intro LL xx ac wc sg hst hwant QQ hgo
      exact op_val hwant hgo hst _ (exec_assign rfl (sg.slot 5 (sg.anc 5 rfl))) rfl
  · exact skips [] (by kernel_rfl) (fun _ h => by cases h)
  · intro xx ac1 wz hfr hsl hst
    exact hfin ac1 wz (hfr.size.trans hz) hfr.defers (fr_keep hfr [6, 7, 28, 29, 30, 31, 32, 33] (by kernel_rfl)) (hsl 7 (by decide)) (Lib.hid hst)
set_option maxRecDepth 20000 in
theorem awake10_r6 (hk0 : 0 ≤ (21474836489 : Int)) (hk1 : (21474836489 : Int) ≤ 18446744073709551615) (f0 : (checkV smallV != 0) = false) (hroom : (if smallV.keys < 1 ∨ 65536 < smallV.keys then 0 else smallV.keys) = smallV.keys) (f1 : ((lookV smallV ([] : List PairV) 4 1 21474836489 (⟨#[98]⟩ : ByteArray)).2 == 4) = true) (f2 : ((lookV smallV ([] : List PairV) 5 1 21474836489 (⟨#[98]⟩ : ByteArray)).2 == 1) = true) (f3 : ((lookV smallV ([] : List PairV) 25 1 21474836489 (⟨#[98]⟩ : ByteArray)).2 != 1) = false) (f4 : (((lookV smallV w1V 25 1 21474836489 (⟨#[98]⟩ : ByteArray)).1).toList == ([121, 101, 115] : List UInt8)) = true) (f5 : ((lookV smallV w1V 25 1 21474836489 (⟨#[98]⟩ : ByteArray)).2 == 2) = true) (f6 : ((lookV smallV w1V 25 1 21474836489 (⟨#[99]⟩ : ByteArray)).2 == 3) = true) (f7 : ((lookV smallV w1V 26 1 21474836489 (⟨#[98]⟩ : ByteArray)).2 == 4) = true) (f8 : ((lookV smallV w1V 25 2 21474836489 (⟨#[98]⟩ : ByteArray)).2 == 1) = true) (f9 : ((((w1V).filter (keepB smallV 25)).length : Int) == 1) = true) (f10 : ((((w1V).filter (keepB smallV 26)).length : Int) == 0) = true) (f12 : isGoodV smallV 21474836489 25 = true) (b1 : Nat) (b2 : Nat) {wa wb : World} (H : Hid (Hp [] wa wb [rB b2 84 (kL smallV smallV.keys (.slice none (([] : List PairV).length) 0)), rB b1 24 (cL smallV), rS none 0 4 (([] : List PairV).map rowOf)])) (ac0 : Act) (hz : ac0.tmps.size = 118) (so2 : ac0.eval (.tmp 2) = .pointer (some ⟨b2, 0, none⟩)) (so3 : ac0.eval (.tmp 3) = .int .u64 21474836489) {QR : Exit → Act → World → Prop} (hfin : ∀ (a6_2 : Option Addr) (c6_2 : Nat) (b8 : Nat) (ac1 : Act) (wz : World), ac1.tmps.size = 118 → ac1.defers = ac0.defers → (∀ t, ([8, 9, 34, 35, 36, 37, 38, 39] : List Nat).contains t = false → ac1.eval (.tmp t) = ac0.eval (.tmp t)) → ac1.eval (.tmp 8) = .pointer (some ⟨b8, 0, none⟩) → ac1.eval (.tmp 9) = .int .i64 0 →  Hid (Hp [] wa wz [rB b8 84 (kL smallV smallV.keys (.slice a6_2 w1V.length c6_2)), rS a6_2 c6_2 4 (w1V.map rowOf), rB b2 84 (kL smallV smallV.keys (.slice none (([] : List PairV).length) 0)), rB b1 24 (cL smallV), rS none 0 4 (([] : List PairV).map rowOf)]) → QR .normal ac1 wz) : (regAt Try.f44 6).wp Try.prog QR ac0 wb := by
  refine wp_region_sq (by kernel_rfl) 118 hz (by kernel_rfl) (fun (xx : Option Addr × Nat × Nat) jx => match xx with | (a6_2, c6_2, b8) => nth [.agg (kA smallV smallV.keys (.slice none (([] : List PairV).length) 0)), .int .u64 21474836489, .tuple #[.agg (kA smallV smallV.keys (.slice a6_2 w1V.length c6_2)), .int .i64 0], .tuple #[.agg (kA smallV smallV.keys (.slice a6_2 w1V.length c6_2)), .int .i64 0], .agg (kA smallV smallV.keys (.slice a6_2 w1V.length c6_2)), .int .i64 0, .pointer (some ⟨b8, 0, none⟩), undef, .int .i64 0] jx) (fun (LL : Nat → Bool) (xx : Option Addr × Nat × Nat) ww => match xx with | (a6_2, c6_2, b8) => Hp [] wa ww (bif LL 7 then [rB b8 84 (kL smallV smallV.keys (.slice a6_2 w1V.length c6_2)), rS a6_2 c6_2 4 (w1V.map rowOf), rB b2 84 (kL smallV smallV.keys (.slice none (([] : List PairV).length) 0)), rB b1 24 (cL smallV), rS none 0 4 (([] : List PairV).map rowOf)] else (bif LL 6 then [rB b8 84 [.int .i64 0, .int .i64 0, .int .i64 0, .int .i64 0, .int .i64 0, .int .i64 0, .int .i64 0, .int .i64 0, .int .i64 0, .int .i64 0, .int .i64 0, .int .i64 0, .int .i64 0, .int .i64 0, .int .i64 0, .int .i64 0, .int .i64 0, .int .u32 0, .int .i64 0, .slice none 0 0], rS a6_2 c6_2 4 (w1V.map rowOf), rB b2 84 (kL smallV smallV.keys (.slice none (([] : List PairV).length) 0)), rB b1 24 (cL smallV), rS none 0 4 (([] : List PairV).map rowOf)] else (bif LL 2 then [rS a6_2 c6_2 4 (w1V.map rowOf), rB b2 84 (kL smallV smallV.keys (.slice none (([] : List PairV).length) 0)), rB b1 24 (cL smallV), rS none 0 4 (([] : List PairV).map rowOf)] else [rB b2 84 (kL smallV smallV.keys (.slice none (([] : List PairV).length) 0)), rB b1 24 (cL smallV), rS none 0 4 (([] : List PairV).map rowOf)])))) (default, default, default) H.out ?_ (steps_al ?_) ?_ ?_
  · intro L1 L2 xx ww hL sg
    have lh2 := hL 2 (by decide)
    have lh6 := hL 6 (by decide)
    have lh7 := hL 7 (by decide)
    simp only [lh2, lh6, lh7] at sg
    exact sg
  · refine al_cons ?_ (al_cons ?_ (al_cons ?_ (al_cons ?_ (al_cons ?_ (al_cons ?_ (al_cons ?_ (al_cons ?_ (al_cons ?_ (al_nil)))))))))
    · intro LL xx ac wc sg hst hwant QQ hgo
      obtain ⟨a6_2, c6_2, b8⟩ := xx
      have H := Lib.hid hst
      simp only [sg.des 2 rfl, sg.des 6 rfl, sg.des 7 rfl, cond_true, cond_false] at H
      refine hpA_load tykeys_Keys H rfl ((sg.free 2 (by kernel_rfl)).trans so2) hwant (by (repeat (first | exact List.Mem.head _ | apply List.Mem.tail))) (by rfl) rfl ?_
      exact hgo _ (a6_2, c6_2, b8) _ (fun _ _ => rfl) rfl hst
    · intro LL xx ac wc sg hst hwant QQ hgo
      obtain ⟨a6_2, c6_2, b8⟩ := xx
      exact op_val hwant hgo hst _ (exec_move rfl ((sg.free 3 (by kernel_rfl)).trans so3)) rfl
    · intro LL xx ac wc sg hst hwant QQ hgo
      obtain ⟨_, _, b8⟩ := xx
      have se35 : ac.eval (.tmp 35) = _ := (sg.slot 0 (sg.anc 0 rfl))
      have sg35 := gt_of se35
      have se36 : ac.eval (.tmp 36) = _ := (sg.slot 1 (sg.anc 1 rfl))
      have sg36 := gt_of se36
      (try simp only [nth] at se35 sg35 se36 sg36)
      have H := Lib.hid hst
      simp only [sg.self, sg.des 6 rfl, sg.des 7 rfl, cond_true, cond_false] at H
      refine op_call hwant hgo 50 _ (by simp only [execOp]; go_simp) (withYes smallV smallV.keys none 0 ([] : List PairV) 25 1 21474836489 (⟨#[98]⟩ : ByteArray) (⟨#[121, 101, 115]⟩ : ByteArray) wc (hp_held H (by (repeat (first | exact List.Mem.head _ | apply List.Mem.tail)))) hk0 hk1 (Lib.hid List.Pairwise.nil) (by decide +kernel) f3) ?_
      rintro er wd ⟨a6_2, c6_2, rfl, hgv⟩
      have H2 := hp_got H hgv.2.2 hgv.1 (by decide) hgv.2.1 (by simp)
      exact ⟨_, (a6_2, c6_2, b8), rfl, (sg.agree (x' := (a6_2, c6_2, b8)) (n := 9) rfl (by (iterate 9 (refine ix_cons (by first | exact fun _ => rfl | exact no sg.self | exact no (sg.des _ rfl)) ?_)); exact ix_nil)), rfl, (by simp only [(show upd LL 2 2 = true from rfl), (show upd LL 2 6 = LL 6 from rfl), sg.des 6 rfl, (show upd LL 2 7 = LL 7 from rfl), sg.des 7 rfl, cond_true, cond_false]; exact H2.out)⟩
    · intro LL xx ac wc sg hst hwant QQ hgo
      obtain ⟨a6_2, c6_2, b8⟩ := xx
      exact op_val hwant hgo hst _ (exec_move rfl (sg.slot 2 (sg.anc 2 rfl))) rfl
    · intro LL xx ac wc sg hst hwant QQ hgo
      obtain ⟨a6_2, c6_2, b8⟩ := xx
      have se34 : ac.eval (.tmp 34) = _ := (sg.slot 3 (sg.anc 3 rfl))
      have sg34 := gt_of se34
      (try simp only [nth] at se34 sg34)
      exact op_val hwant hgo hst _ (by simp only [execOp, nth]; go_simp <;> omega) rfl
    · intro LL xx ac wc sg hst hwant QQ hgo
      obtain ⟨a6_2, c6_2, b8⟩ := xx
      have se34 : ac.eval (.tmp 34) = _ := (sg.slot 3 (sg.anc 3 rfl))
      have sg34 := gt_of se34
      (try simp only [nth] at se34 sg34)
      exact op_val hwant hgo hst _ (by simp only [execOp, nth]; go_simp <;> omega) rfl
    · intro LL xx ac wc sg hst hwant QQ hgo
      obtain ⟨a6_2, c6_2, _⟩ := xx
      have H := Lib.hid hst
      simp only [sg.anc 2 rfl, sg.self, sg.des 7 rfl, cond_true, cond_false] at H
      refine hpA_alloc tykeys_Keys H rfl rfl ?_
      intro wd b8 H2
      exact hgo _ (a6_2, c6_2, b8) _ (sg.agree (x' := (a6_2, c6_2, b8)) (n := 9) rfl (by (iterate 9 (refine ix_cons (by first | exact fun _ => rfl | exact no sg.self | exact no (sg.des _ rfl)) ?_)); exact ix_nil)) rfl (by simp only [(show upd LL 6 2 = LL 2 from rfl), sg.anc 2 rfl, (show upd LL 6 6 = true from rfl), (show upd LL 6 7 = LL 7 from rfl), sg.des 7 rfl, cond_true, cond_false]; exact H2.out)
    · intro LL xx ac wc sg hst hwant QQ hgo
      obtain ⟨a6_2, c6_2, b8⟩ := xx
      have H := Lib.hid hst
      simp only [sg.anc 2 rfl, sg.anc 6 rfl, sg.self, cond_true, cond_false] at H
      refine hpA_store tykeys_Keys H rfl rfl (sg.slot 6 (sg.anc 6 rfl)) (sg.slot 4 (sg.anc 4 rfl)) rfl (by repeat (first | apply Put.head | apply Put.tail)) (by simp [kA, kL, rkA, rkL, cA, cL]) (by simp [kA, kL, rkA, rkL, cA, cL, Value.oneCell']) (by first | rfl | (simp only [spl]; rfl)) rfl ?_
      intro wd H2
      exact hgo _ (a6_2, c6_2, b8) _ (sg.agree (x' := (a6_2, c6_2, b8)) (n := 9) rfl (by (iterate 9 (refine ix_cons (by first | exact fun _ => rfl | exact no sg.self | exact no (sg.des _ rfl)) ?_)); exact ix_nil)) rfl (by simp only [(show upd LL 7 2 = LL 2 from rfl), sg.anc 2 rfl, (show upd LL 7 6 = LL 6 from rfl), sg.anc 6 rfl, (show upd LL 7 7 = true from rfl), cond_true, cond_false]; exact H2.out)
    · intro LL xx ac wc sg hst hwant QQ hgo
      obtain ⟨a6_2, c6_2, b8⟩ := xx
      exact op_val hwant hgo hst _ (exec_assign rfl (sg.slot 5 (sg.anc 5 rfl))) rfl
  · exact skips [] (by kernel_rfl) (fun _ h => by cases h)
  · intro xx ac1 wz hfr hsl hst
    obtain ⟨a6_2, c6_2, b8⟩ := xx
    exact hfin a6_2 c6_2 b8 ac1 wz (hfr.size.trans hz) hfr.defers (fr_keep hfr [8, 9, 34, 35, 36, 37, 38, 39] (by kernel_rfl)) (hsl 6 (by decide)) (hsl 8 (by decide)) (Lib.hid hst)
set_option maxRecDepth 20000 in
theorem awake10_r7 (hk0 : 0 ≤ (21474836489 : Int)) (hk1 : (21474836489 : Int) ≤ 18446744073709551615) (f0 : (checkV smallV != 0) = false) (hroom : (if smallV.keys < 1 ∨ 65536 < smallV.keys then 0 else smallV.keys) = smallV.keys) (f1 : ((lookV smallV ([] : List PairV) 4 1 21474836489 (⟨#[98]⟩ : ByteArray)).2 == 4) = true) (f2 : ((lookV smallV ([] : List PairV) 5 1 21474836489 (⟨#[98]⟩ : ByteArray)).2 == 1) = true) (f3 : ((lookV smallV ([] : List PairV) 25 1 21474836489 (⟨#[98]⟩ : ByteArray)).2 != 1) = false) (f4 : (((lookV smallV w1V 25 1 21474836489 (⟨#[98]⟩ : ByteArray)).1).toList == ([121, 101, 115] : List UInt8)) = true) (f5 : ((lookV smallV w1V 25 1 21474836489 (⟨#[98]⟩ : ByteArray)).2 == 2) = true) (f6 : ((lookV smallV w1V 25 1 21474836489 (⟨#[99]⟩ : ByteArray)).2 == 3) = true) (f7 : ((lookV smallV w1V 26 1 21474836489 (⟨#[98]⟩ : ByteArray)).2 == 4) = true) (f8 : ((lookV smallV w1V 25 2 21474836489 (⟨#[98]⟩ : ByteArray)).2 == 1) = true) (f9 : ((((w1V).filter (keepB smallV 25)).length : Int) == 1) = true) (f10 : ((((w1V).filter (keepB smallV 26)).length : Int) == 0) = true) (f12 : isGoodV smallV 21474836489 25 = true) (b1 : Nat) (b2 : Nat) (a6_2 : Option Addr) (c6_2 : Nat) (b8 : Nat) {wa wb : World} (H : Hid (Hp [] wa wb [rB b8 84 (kL smallV smallV.keys (.slice a6_2 w1V.length c6_2)), rS a6_2 c6_2 4 (w1V.map rowOf), rB b2 84 (kL smallV smallV.keys (.slice none (([] : List PairV).length) 0)), rB b1 24 (cL smallV), rS none 0 4 (([] : List PairV).map rowOf)])) (ac0 : Act) (hz : ac0.tmps.size = 118) (so3 : ac0.eval (.tmp 3) = .int .u64 21474836489) (so8 : ac0.eval (.tmp 8) = .pointer (some ⟨b8, 0, none⟩)) {QR : Exit → Act → World → Prop} (hfin : ∀ (ac1 : Act) (wz : World), ac1.tmps.size = 118 → ac1.defers = ac0.defers → (∀ t, ([10, 11, 40, 41, 42, 43, 44, 45] : List Nat).contains t = false → ac1.eval (.tmp t) = ac0.eval (.tmp t)) → ac1.eval (.tmp 10) = .string ((lookV smallV w1V 25 1 21474836489 (⟨#[98]⟩ : ByteArray)).1) → ac1.eval (.tmp 11) = .int .i64 ((lookV smallV w1V 25 1 21474836489 (⟨#[98]⟩ : ByteArray)).2) →  Hid (Hp [] wa wz [rB b8 84 (kL smallV smallV.keys (.slice a6_2 w1V.length c6_2)), rS a6_2 c6_2 4 (w1V.map rowOf), rB b2 84 (kL smallV smallV.keys (.slice none (([] : List PairV).length) 0)), rB b1 24 (cL smallV), rS none 0 4 (([] : List PairV).map rowOf)]) → QR .normal ac1 wz) : (regAt Try.f44 7).wp Try.prog QR ac0 wb := by
  refine wp_region_sq (by kernel_rfl) 118 hz (by kernel_rfl) (fun (xx : Unit) jx => nth [.agg (kA smallV smallV.keys (.slice a6_2 w1V.length c6_2)), .int .u64 21474836489, .tuple #[.string ((lookV smallV w1V 25 1 21474836489 (⟨#[98]⟩ : ByteArray)).1), .int .i64 ((lookV smallV w1V 25 1 21474836489 (⟨#[98]⟩ : ByteArray)).2)], .tuple #[.string ((lookV smallV w1V 25 1 21474836489 (⟨#[98]⟩ : ByteArray)).1), .int .i64 ((lookV smallV w1V 25 1 21474836489 (⟨#[98]⟩ : ByteArray)).2)], .string ((lookV smallV w1V 25 1 21474836489 (⟨#[98]⟩ : ByteArray)).1), .int .i64 ((lookV smallV w1V 25 1 21474836489 (⟨#[98]⟩ : ByteArray)).2), .string ((lookV smallV w1V 25 1 21474836489 (⟨#[98]⟩ : ByteArray)).1), .int .i64 ((lookV smallV w1V 25 1 21474836489 (⟨#[98]⟩ : ByteArray)).2)] jx) (fun (LL : Nat → Bool) (xx : Unit) ww => Hp [] wa ww [rB b8 84 (kL smallV smallV.keys (.slice a6_2 w1V.length c6_2)), rS a6_2 c6_2 4 (w1V.map rowOf), rB b2 84 (kL smallV smallV.keys (.slice none (([] : List PairV).length) 0)), rB b1 24 (cL smallV), rS none 0 4 (([] : List PairV).map rowOf)]) () H.out ?_ (steps_al ?_) ?_ ?_
  · exact fun _ _ _ _ _ h => h
  · refine al_cons ?_ (al_cons ?_ (al_cons ?_ (al_cons ?_ (al_cons ?_ (al_cons ?_ (al_cons ?_ (al_cons ?_ (al_nil))))))))
    · intro LL xx ac wc sg hst hwant QQ hgo
      have H := Lib.hid hst
      refine hpA_load tykeys_Keys H rfl ((sg.free 8 (by kernel_rfl)).trans so8) hwant (by (repeat (first | exact List.Mem.head _ | apply List.Mem.tail))) (by rfl) rfl ?_
      exact hgo _ () _ (fun _ _ => rfl) rfl hst
    · intro LL xx ac wc sg hst hwant QQ hgo
      exact op_val hwant hgo hst _ (exec_move rfl ((sg.free 3 (by kernel_rfl)).trans so3)) rfl
    · intro LL xx ac wc sg hst hwant QQ hgo
      have se41 : ac.eval (.tmp 41) = _ := (sg.slot 0 (sg.anc 0 rfl))
      have sg41 := gt_of se41
      have se42 : ac.eval (.tmp 42) = _ := (sg.slot 1 (sg.anc 1 rfl))
      have sg42 := gt_of se42
      (try simp only [nth] at se41 sg41 se42 sg42)
      have H := Lib.hid hst
      refine op_call hwant hgo 48 _ (by simp only [execOp]; go_simp) (lookC smallV smallV.keys a6_2 c6_2 w1V 25 1 21474836489 (⟨#[98]⟩ : ByteArray) wc (hp_held H (by (repeat (first | exact List.Mem.head _ | apply List.Mem.tail)))) hk0 hk1 (Lib.hid (sorted_with (sorted_keep List.Pairwise.nil _) _ _ _)) (by decide +kernel)) ?_
      rintro er wd ⟨rfl, hof⟩
      exact ⟨_, (), rfl, fun _ _ => rfl, rfl, Hp.quiet hst hof⟩
    · intro LL xx ac wc sg hst hwant QQ hgo
      exact op_val hwant hgo hst _ (exec_move rfl (sg.slot 2 (sg.anc 2 rfl))) rfl
    · intro LL xx ac wc sg hst hwant QQ hgo
      have se40 : ac.eval (.tmp 40) = _ := (sg.slot 3 (sg.anc 3 rfl))
      have sg40 := gt_of se40
      (try simp only [nth] at se40 sg40)
      exact op_val hwant hgo hst _ (by simp only [execOp, nth]; go_simp <;> omega) rfl
    · intro LL xx ac wc sg hst hwant QQ hgo
      have se40 : ac.eval (.tmp 40) = _ := (sg.slot 3 (sg.anc 3 rfl))
      have sg40 := gt_of se40
      (try simp only [nth] at se40 sg40)
      exact op_val hwant hgo hst _ (by simp only [execOp, nth]; go_simp <;> omega) rfl
    · intro LL xx ac wc sg hst hwant QQ hgo
      exact op_val hwant hgo hst _ (exec_assign rfl (sg.slot 4 (sg.anc 4 rfl))) rfl
    · intro LL xx ac wc sg hst hwant QQ hgo
      exact op_val hwant hgo hst _ (exec_assign rfl (sg.slot 5 (sg.anc 5 rfl))) rfl
  · exact skips [] (by kernel_rfl) (fun _ h => by cases h)
  · intro xx ac1 wz hfr hsl hst
    exact hfin ac1 wz (hfr.size.trans hz) hfr.defers (fr_keep hfr [10, 11, 40, 41, 42, 43, 44, 45] (by kernel_rfl)) (hsl 6 (by decide)) (hsl 7 (by decide)) (Lib.hid hst)
set_option maxRecDepth 20000 in
theorem awake10_r8 (hk0 : 0 ≤ (21474836489 : Int)) (hk1 : (21474836489 : Int) ≤ 18446744073709551615) (f0 : (checkV smallV != 0) = false) (hroom : (if smallV.keys < 1 ∨ 65536 < smallV.keys then 0 else smallV.keys) = smallV.keys) (f1 : ((lookV smallV ([] : List PairV) 4 1 21474836489 (⟨#[98]⟩ : ByteArray)).2 == 4) = true) (f2 : ((lookV smallV ([] : List PairV) 5 1 21474836489 (⟨#[98]⟩ : ByteArray)).2 == 1) = true) (f3 : ((lookV smallV ([] : List PairV) 25 1 21474836489 (⟨#[98]⟩ : ByteArray)).2 != 1) = false) (f4 : (((lookV smallV w1V 25 1 21474836489 (⟨#[98]⟩ : ByteArray)).1).toList == ([121, 101, 115] : List UInt8)) = true) (f5 : ((lookV smallV w1V 25 1 21474836489 (⟨#[98]⟩ : ByteArray)).2 == 2) = true) (f6 : ((lookV smallV w1V 25 1 21474836489 (⟨#[99]⟩ : ByteArray)).2 == 3) = true) (f7 : ((lookV smallV w1V 26 1 21474836489 (⟨#[98]⟩ : ByteArray)).2 == 4) = true) (f8 : ((lookV smallV w1V 25 2 21474836489 (⟨#[98]⟩ : ByteArray)).2 == 1) = true) (f9 : ((((w1V).filter (keepB smallV 25)).length : Int) == 1) = true) (f10 : ((((w1V).filter (keepB smallV 26)).length : Int) == 0) = true) (f12 : isGoodV smallV 21474836489 25 = true) (b1 : Nat) (b2 : Nat) (a6_2 : Option Addr) (c6_2 : Nat) (b8 : Nat) {wa wb : World} (H : Hid (Hp [] wa wb [rB b8 84 (kL smallV smallV.keys (.slice a6_2 w1V.length c6_2)), rS a6_2 c6_2 4 (w1V.map rowOf), rB b2 84 (kL smallV smallV.keys (.slice none (([] : List PairV).length) 0)), rB b1 24 (cL smallV), rS none 0 4 (([] : List PairV).map rowOf)])) (ac0 : Act) (hz : ac0.tmps.size = 118) (so3 : ac0.eval (.tmp 3) = .int .u64 21474836489) (so8 : ac0.eval (.tmp 8) = .pointer (some ⟨b8, 0, none⟩)) {QR : Exit → Act → World → Prop} (hfin : ∀ (ac1 : Act) (wz : World), ac1.tmps.size = 118 → ac1.defers = ac0.defers → (∀ t, ([12, 13, 46, 47, 48, 49, 50, 51] : List Nat).contains t = false → ac1.eval (.tmp t) = ac0.eval (.tmp t)) → ac1.eval (.tmp 13) = .int .i64 ((lookV smallV w1V 25 1 21474836489 (⟨#[99]⟩ : ByteArray)).2) →  Hid (Hp [] wa wz [rB b8 84 (kL smallV smallV.keys (.slice a6_2 w1V.length c6_2)), rS a6_2 c6_2 4 (w1V.map rowOf), rB b2 84 (kL smallV smallV.keys (.slice none (([] : List PairV).length) 0)), rB b1 24 (cL smallV), rS none 0 4 (([] : List PairV).map rowOf)]) → QR .normal ac1 wz) : (regAt Try.f44 8).wp Try.prog QR ac0 wb := by
  refine wp_region_sq (by kernel_rfl) 118 hz (by kernel_rfl) (fun (xx : Unit) jx => nth [.agg (kA smallV smallV.keys (.slice a6_2 w1V.length c6_2)), .int .u64 21474836489, .tuple #[.string ((lookV smallV w1V 25 1 21474836489 (⟨#[99]⟩ : ByteArray)).1), .int .i64 ((lookV smallV w1V 25 1 21474836489 (⟨#[99]⟩ : ByteArray)).2)], .tuple #[.string ((lookV smallV w1V 25 1 21474836489 (⟨#[99]⟩ : ByteArray)).1), .int .i64 ((lookV smallV w1V 25 1 21474836489 (⟨#[99]⟩ : ByteArray)).2)], .string ((lookV smallV w1V 25 1 21474836489 (⟨#[99]⟩ : ByteArray)).1), .int .i64 ((lookV smallV w1V 25 1 21474836489 (⟨#[99]⟩ : ByteArray)).2), .string ((lookV smallV w1V 25 1 21474836489 (⟨#[99]⟩ : ByteArray)).1), .int .i64 ((lookV smallV w1V 25 1 21474836489 (⟨#[99]⟩ : ByteArray)).2)] jx) (fun (LL : Nat → Bool) (xx : Unit) ww => Hp [] wa ww [rB b8 84 (kL smallV smallV.keys (.slice a6_2 w1V.length c6_2)), rS a6_2 c6_2 4 (w1V.map rowOf), rB b2 84 (kL smallV smallV.keys (.slice none (([] : List PairV).length) 0)), rB b1 24 (cL smallV), rS none 0 4 (([] : List PairV).map rowOf)]) () H.out ?_ (steps_al ?_) ?_ ?_
  · exact fun _ _ _ _ _ h => h
  · refine al_cons ?_ (al_cons ?_ (al_cons ?_ (al_cons ?_ (al_cons ?_ (al_cons ?_ (al_cons ?_ (al_cons ?_ (al_nil))))))))
    · intro LL xx ac wc sg hst hwant QQ hgo
      have H := Lib.hid hst
      refine hpA_load tykeys_Keys H rfl ((sg.free 8 (by kernel_rfl)).trans so8) hwant (by (repeat (first | exact List.Mem.head _ | apply List.Mem.tail))) (by rfl) rfl ?_
      exact hgo _ () _ (fun _ _ => rfl) rfl hst
    · intro LL xx ac wc sg hst hwant QQ hgo
      exact op_val hwant hgo hst _ (exec_move rfl ((sg.free 3 (by kernel_rfl)).trans so3)) rfl
    · intro LL xx ac wc sg hst hwant QQ hgo
      have se47 : ac.eval (.tmp 47) = _ := (sg.slot 0 (sg.anc 0 rfl))
      have sg47 := gt_of se47
      have se48 : ac.eval (.tmp 48) = _ := (sg.slot 1 (sg.anc 1 rfl))
      have sg48 := gt_of se48
      (try simp only [nth] at se47 sg47 se48 sg48)
      have H := Lib.hid hst
      refine op_call hwant hgo 48 _ (by simp only [execOp]; go_simp) (lookC smallV smallV.keys a6_2 c6_2 w1V 25 1 21474836489 (⟨#[99]⟩ : ByteArray) wc (hp_held H (by (repeat (first | exact List.Mem.head _ | apply List.Mem.tail)))) hk0 hk1 (Lib.hid (sorted_with (sorted_keep List.Pairwise.nil _) _ _ _)) (by decide +kernel)) ?_
      rintro er wd ⟨rfl, hof⟩
      exact ⟨_, (), rfl, fun _ _ => rfl, rfl, Hp.quiet hst hof⟩
    · intro LL xx ac wc sg hst hwant QQ hgo
      exact op_val hwant hgo hst _ (exec_move rfl (sg.slot 2 (sg.anc 2 rfl))) rfl
    · intro LL xx ac wc sg hst hwant QQ hgo
      have se46 : ac.eval (.tmp 46) = _ := (sg.slot 3 (sg.anc 3 rfl))
      have sg46 := gt_of se46
      (try simp only [nth] at se46 sg46)
      exact op_val hwant hgo hst _ (by simp only [execOp, nth]; go_simp <;> omega) rfl
    · intro LL xx ac wc sg hst hwant QQ hgo
      have se46 : ac.eval (.tmp 46) = _ := (sg.slot 3 (sg.anc 3 rfl))
      have sg46 := gt_of se46
      (try simp only [nth] at se46 sg46)
      exact op_val hwant hgo hst _ (by simp only [execOp, nth]; go_simp <;> omega) rfl
    · intro LL xx ac wc sg hst hwant QQ hgo
      exact op_val hwant hgo hst _ (exec_assign rfl (sg.slot 4 (sg.anc 4 rfl))) rfl
    · intro LL xx ac wc sg hst hwant QQ hgo
      exact op_val hwant hgo hst _ (exec_assign rfl (sg.slot 5 (sg.anc 5 rfl))) rfl
  · exact skips [] (by kernel_rfl) (fun _ h => by cases h)
  · intro xx ac1 wz hfr hsl hst
    exact hfin ac1 wz (hfr.size.trans hz) hfr.defers (fr_keep hfr [12, 13, 46, 47, 48, 49, 50, 51] (by kernel_rfl)) (hsl 7 (by decide)) (Lib.hid hst)
set_option maxRecDepth 20000 in
theorem awake10_r9 (hk0 : 0 ≤ (21474836489 : Int)) (hk1 : (21474836489 : Int) ≤ 18446744073709551615) (f0 : (checkV smallV != 0) = false) (hroom : (if smallV.keys < 1 ∨ 65536 < smallV.keys then 0 else smallV.keys) = smallV.keys) (f1 : ((lookV smallV ([] : List PairV) 4 1 21474836489 (⟨#[98]⟩ : ByteArray)).2 == 4) = true) (f2 : ((lookV smallV ([] : List PairV) 5 1 21474836489 (⟨#[98]⟩ : ByteArray)).2 == 1) = true) (f3 : ((lookV smallV ([] : List PairV) 25 1 21474836489 (⟨#[98]⟩ : ByteArray)).2 != 1) = false) (f4 : (((lookV smallV w1V 25 1 21474836489 (⟨#[98]⟩ : ByteArray)).1).toList == ([121, 101, 115] : List UInt8)) = true) (f5 : ((lookV smallV w1V 25 1 21474836489 (⟨#[98]⟩ : ByteArray)).2 == 2) = true) (f6 : ((lookV smallV w1V 25 1 21474836489 (⟨#[99]⟩ : ByteArray)).2 == 3) = true) (f7 : ((lookV smallV w1V 26 1 21474836489 (⟨#[98]⟩ : ByteArray)).2 == 4) = true) (f8 : ((lookV smallV w1V 25 2 21474836489 (⟨#[98]⟩ : ByteArray)).2 == 1) = true) (f9 : ((((w1V).filter (keepB smallV 25)).length : Int) == 1) = true) (f10 : ((((w1V).filter (keepB smallV 26)).length : Int) == 0) = true) (f12 : isGoodV smallV 21474836489 25 = true) (b1 : Nat) (b2 : Nat) (a6_2 : Option Addr) (c6_2 : Nat) (b8 : Nat) {wa wb : World} (H : Hid (Hp [] wa wb [rB b8 84 (kL smallV smallV.keys (.slice a6_2 w1V.length c6_2)), rS a6_2 c6_2 4 (w1V.map rowOf), rB b2 84 (kL smallV smallV.keys (.slice none (([] : List PairV).length) 0)), rB b1 24 (cL smallV), rS none 0 4 (([] : List PairV).map rowOf)])) (ac0 : Act) (hz : ac0.tmps.size = 118) (so3 : ac0.eval (.tmp 3) = .int .u64 21474836489) (so8 : ac0.eval (.tmp 8) = .pointer (some ⟨b8, 0, none⟩)) {QR : Exit → Act → World → Prop} (hfin : ∀ (ac1 : Act) (wz : World), ac1.tmps.size = 118 → ac1.defers = ac0.defers → (∀ t, ([14, 15, 52, 53, 54, 55, 56, 57] : List Nat).contains t = false → ac1.eval (.tmp t) = ac0.eval (.tmp t)) → ac1.eval (.tmp 15) = .int .i64 ((lookV smallV w1V 26 1 21474836489 (⟨#[98]⟩ : ByteArray)).2) →  Hid (Hp [] wa wz [rB b8 84 (kL smallV smallV.keys (.slice a6_2 w1V.length c6_2)), rS a6_2 c6_2 4 (w1V.map rowOf), rB b2 84 (kL smallV smallV.keys (.slice none (([] : List PairV).length) 0)), rB b1 24 (cL smallV), rS none 0 4 (([] : List PairV).map rowOf)]) → QR .normal ac1 wz) : (regAt Try.f44 9).wp Try.prog QR ac0 wb := by
  refine wp_region_sq (by kernel_rfl) 118 hz (by kernel_rfl) (fun (xx : Unit) jx => nth [.agg (kA smallV smallV.keys (.slice a6_2 w1V.length c6_2)), .int .u64 21474836489, .tuple #[.string ((lookV smallV w1V 26 1 21474836489 (⟨#[98]⟩ : ByteArray)).1), .int .i64 ((lookV smallV w1V 26 1 21474836489 (⟨#[98]⟩ : ByteArray)).2)], .tuple #[.string ((lookV smallV w1V 26 1 21474836489 (⟨#[98]⟩ : ByteArray)).1), .int .i64 ((lookV smallV w1V 26 1 21474836489 (⟨#[98]⟩ : ByteArray)).2)], .string ((lookV smallV w1V 26 1 21474836489 (⟨#[98]⟩ : ByteArray)).1), .int .i64 ((lookV smallV w1V 26 1 21474836489 (⟨#[98]⟩ : ByteArray)).2), .string ((lookV smallV w1V 26 1 21474836489 (⟨#[98]⟩ : ByteArray)).1), .int .i64 ((lookV smallV w1V 26 1 21474836489 (⟨#[98]⟩ : ByteArray)).2)] jx) (fun (LL : Nat → Bool) (xx : Unit) ww => Hp [] wa ww [rB b8 84 (kL smallV smallV.keys (.slice a6_2 w1V.length c6_2)), rS a6_2 c6_2 4 (w1V.map rowOf), rB b2 84 (kL smallV smallV.keys (.slice none (([] : List PairV).length) 0)), rB b1 24 (cL smallV), rS none 0 4 (([] : List PairV).map rowOf)]) () H.out ?_ (steps_al ?_) ?_ ?_
  · exact fun _ _ _ _ _ h => h
  · refine al_cons ?_ (al_cons ?_ (al_cons ?_ (al_cons ?_ (al_cons ?_ (al_cons ?_ (al_cons ?_ (al_cons ?_ (al_nil))))))))
    · intro LL xx ac wc sg hst hwant QQ hgo
      have H := Lib.hid hst
      refine hpA_load tykeys_Keys H rfl ((sg.free 8 (by kernel_rfl)).trans so8) hwant (by (repeat (first | exact List.Mem.head _ | apply List.Mem.tail))) (by rfl) rfl ?_
      exact hgo _ () _ (fun _ _ => rfl) rfl hst
    · intro LL xx ac wc sg hst hwant QQ hgo
      exact op_val hwant hgo hst _ (exec_move rfl ((sg.free 3 (by kernel_rfl)).trans so3)) rfl
    · intro LL xx ac wc sg hst hwant QQ hgo
      have se53 : ac.eval (.tmp 53) = _ := (sg.slot 0 (sg.anc 0 rfl))
      have sg53 := gt_of se53
      have se54 : ac.eval (.tmp 54) = _ := (sg.slot 1 (sg.anc 1 rfl))
      have sg54 := gt_of se54
      (try simp only [nth] at se53 sg53 se54 sg54)
      have H := Lib.hid hst
      refine op_call hwant hgo 48 _ (by simp only [execOp]; go_simp) (lookC smallV smallV.keys a6_2 c6_2 w1V 26 1 21474836489 (⟨#[98]⟩ : ByteArray) wc (hp_held H (by (repeat (first | exact List.Mem.head _ | apply List.Mem.tail)))) hk0 hk1 (Lib.hid (sorted_with (sorted_keep List.Pairwise.nil _) _ _ _)) (by decide +kernel)) ?_
      rintro er wd ⟨rfl, hof⟩
      exact ⟨_, (), rfl, fun _ _ => rfl, rfl, Hp.quiet hst hof⟩
    · intro LL xx ac wc sg hst hwant QQ hgo
      exact op_val hwant hgo hst _ (exec_move rfl (sg.slot 2 (sg.anc 2 rfl))) rfl
    · intro LL xx ac wc sg hst hwant QQ hgo
      have se52 : ac.eval (.tmp 52) = _ := (sg.slot 3 (sg.anc 3 rfl))
      have sg52 := gt_of se52
      (try simp only [nth] at se52 sg52)
      exact op_val hwant hgo hst _ (by simp only [execOp, nth]; go_simp <;> omega) rfl
    · intro LL xx ac wc sg hst hwant QQ hgo
      have se52 : ac.eval (.tmp 52) = _ := (sg.slot 3 (sg.anc 3 rfl))
      have sg52 := gt_of se52
      (try simp only [nth] at se52 sg52)
      exact op_val hwant hgo hst _ (by simp only [execOp, nth]; go_simp <;> omega) rfl
    · intro LL xx ac wc sg hst hwant QQ hgo
      exact op_val hwant hgo hst _ (exec_assign rfl (sg.slot 4 (sg.anc 4 rfl))) rfl
    · intro LL xx ac wc sg hst hwant QQ hgo
      exact op_val hwant hgo hst _ (exec_assign rfl (sg.slot 5 (sg.anc 5 rfl))) rfl
  · exact skips [] (by kernel_rfl) (fun _ h => by cases h)
  · intro xx ac1 wz hfr hsl hst
    exact hfin ac1 wz (hfr.size.trans hz) hfr.defers (fr_keep hfr [14, 15, 52, 53, 54, 55, 56, 57] (by kernel_rfl)) (hsl 7 (by decide)) (Lib.hid hst)
set_option maxRecDepth 20000 in
theorem awake10_r10 (hk0 : 0 ≤ (21474836489 : Int)) (hk1 : (21474836489 : Int) ≤ 18446744073709551615) (f0 : (checkV smallV != 0) = false) (hroom : (if smallV.keys < 1 ∨ 65536 < smallV.keys then 0 else smallV.keys) = smallV.keys) (f1 : ((lookV smallV ([] : List PairV) 4 1 21474836489 (⟨#[98]⟩ : ByteArray)).2 == 4) = true) (f2 : ((lookV smallV ([] : List PairV) 5 1 21474836489 (⟨#[98]⟩ : ByteArray)).2 == 1) = true) (f3 : ((lookV smallV ([] : List PairV) 25 1 21474836489 (⟨#[98]⟩ : ByteArray)).2 != 1) = false) (f4 : (((lookV smallV w1V 25 1 21474836489 (⟨#[98]⟩ : ByteArray)).1).toList == ([121, 101, 115] : List UInt8)) = true) (f5 : ((lookV smallV w1V 25 1 21474836489 (⟨#[98]⟩ : ByteArray)).2 == 2) = true) (f6 : ((lookV smallV w1V 25 1 21474836489 (⟨#[99]⟩ : ByteArray)).2 == 3) = true) (f7 : ((lookV smallV w1V 26 1 21474836489 (⟨#[98]⟩ : ByteArray)).2 == 4) = true) (f8 : ((lookV smallV w1V 25 2 21474836489 (⟨#[98]⟩ : ByteArray)).2 == 1) = true) (f9 : ((((w1V).filter (keepB smallV 25)).length : Int) == 1) = true) (f10 : ((((w1V).filter (keepB smallV 26)).length : Int) == 0) = true) (f12 : isGoodV smallV 21474836489 25 = true) (b1 : Nat) (b2 : Nat) (a6_2 : Option Addr) (c6_2 : Nat) (b8 : Nat) {wa wb : World} (H : Hid (Hp [] wa wb [rB b8 84 (kL smallV smallV.keys (.slice a6_2 w1V.length c6_2)), rS a6_2 c6_2 4 (w1V.map rowOf), rB b2 84 (kL smallV smallV.keys (.slice none (([] : List PairV).length) 0)), rB b1 24 (cL smallV), rS none 0 4 (([] : List PairV).map rowOf)])) (ac0 : Act) (hz : ac0.tmps.size = 118) (so3 : ac0.eval (.tmp 3) = .int .u64 21474836489) (so8 : ac0.eval (.tmp 8) = .pointer (some ⟨b8, 0, none⟩)) {QR : Exit → Act → World → Prop} (hfin : ∀ (ac1 : Act) (wz : World), ac1.tmps.size = 118 → ac1.defers = ac0.defers → (∀ t, ([16, 17, 58, 59, 60, 61, 62, 63] : List Nat).contains t = false → ac1.eval (.tmp t) = ac0.eval (.tmp t)) → ac1.eval (.tmp 17) = .int .i64 ((lookV smallV w1V 25 2 21474836489 (⟨#[98]⟩ : ByteArray)).2) →  Hid (Hp [] wa wz [rB b8 84 (kL smallV smallV.keys (.slice a6_2 w1V.length c6_2)), rS a6_2 c6_2 4 (w1V.map rowOf), rB b2 84 (kL smallV smallV.keys (.slice none (([] : List PairV).length) 0)), rB b1 24 (cL smallV), rS none 0 4 (([] : List PairV).map rowOf)]) → QR .normal ac1 wz) : (regAt Try.f44 10).wp Try.prog QR ac0 wb := by
  refine wp_region_sq (by kernel_rfl) 118 hz (by kernel_rfl) (fun (xx : Unit) jx => nth [.agg (kA smallV smallV.keys (.slice a6_2 w1V.length c6_2)), .int .u64 21474836489, .tuple #[.string ((lookV smallV w1V 25 2 21474836489 (⟨#[98]⟩ : ByteArray)).1), .int .i64 ((lookV smallV w1V 25 2 21474836489 (⟨#[98]⟩ : ByteArray)).2)], .tuple #[.string ((lookV smallV w1V 25 2 21474836489 (⟨#[98]⟩ : ByteArray)).1), .int .i64 ((lookV smallV w1V 25 2 21474836489 (⟨#[98]⟩ : ByteArray)).2)], .string ((lookV smallV w1V 25 2 21474836489 (⟨#[98]⟩ : ByteArray)).1), .int .i64 ((lookV smallV w1V 25 2 21474836489 (⟨#[98]⟩ : ByteArray)).2), .string ((lookV smallV w1V 25 2 21474836489 (⟨#[98]⟩ : ByteArray)).1), .int .i64 ((lookV smallV w1V 25 2 21474836489 (⟨#[98]⟩ : ByteArray)).2)] jx) (fun (LL : Nat → Bool) (xx : Unit) ww => Hp [] wa ww [rB b8 84 (kL smallV smallV.keys (.slice a6_2 w1V.length c6_2)), rS a6_2 c6_2 4 (w1V.map rowOf), rB b2 84 (kL smallV smallV.keys (.slice none (([] : List PairV).length) 0)), rB b1 24 (cL smallV), rS none 0 4 (([] : List PairV).map rowOf)]) () H.out ?_ (steps_al ?_) ?_ ?_
  · exact fun _ _ _ _ _ h => h
  · refine al_cons ?_ (al_cons ?_ (al_cons ?_ (al_cons ?_ (al_cons ?_ (al_cons ?_ (al_cons ?_ (al_cons ?_ (al_nil))))))))
    · intro LL xx ac wc sg hst hwant QQ hgo
      have H := Lib.hid hst
      refine hpA_load tykeys_Keys H rfl ((sg.free 8 (by kernel_rfl)).trans so8) hwant (by (repeat (first | exact List.Mem.head _ | apply List.Mem.tail))) (by rfl) rfl ?_
      exact hgo _ () _ (fun _ _ => rfl) rfl hst
    · intro LL xx ac wc sg hst hwant QQ hgo
      exact op_val hwant hgo hst _ (exec_move rfl ((sg.free 3 (by kernel_rfl)).trans so3)) rfl
    · intro LL xx ac wc sg hst hwant QQ hgo
      have se59 : ac.eval (.tmp 59) = _ := (sg.slot 0 (sg.anc 0 rfl))
      have sg59 := gt_of se59
      have se60 : ac.eval (.tmp 60) = _ := (sg.slot 1 (sg.anc 1 rfl))
      have sg60 := gt_of se60
      (try simp only [nth] at se59 sg59 se60 sg60)
      have H := Lib.hid hst
      refine op_call hwant hgo 48 _ (by simp only [execOp]; go_simp) (lookC smallV smallV.keys a6_2 c6_2 w1V 25 2 21474836489 (⟨#[98]⟩ : ByteArray) wc (hp_held H (by (repeat (first | exact List.Mem.head _ | apply List.Mem.tail)))) hk0 hk1 (Lib.hid (sorted_with (sorted_keep List.Pairwise.nil _) _ _ _)) (by decide +kernel)) ?_
      rintro er wd ⟨rfl, hof⟩
      exact ⟨_, (), rfl, fun _ _ => rfl, rfl, Hp.quiet hst hof⟩
    · intro LL xx ac wc sg hst hwant QQ hgo
      exact op_val hwant hgo hst _ (exec_move rfl (sg.slot 2 (sg.anc 2 rfl))) rfl
    · intro LL xx ac wc sg hst hwant QQ hgo
      have se58 : ac.eval (.tmp 58) = _ := (sg.slot 3 (sg.anc 3 rfl))
      have sg58 := gt_of se58
      (try simp only [nth] at se58 sg58)
      exact op_val hwant hgo hst _ (by simp only [execOp, nth]; go_simp <;> omega) rfl
    · intro LL xx ac wc sg hst hwant QQ hgo
      have se58 : ac.eval (.tmp 58) = _ := (sg.slot 3 (sg.anc 3 rfl))
      have sg58 := gt_of se58
      (try simp only [nth] at se58 sg58)
      exact op_val hwant hgo hst _ (by simp only [execOp, nth]; go_simp <;> omega) rfl
    · intro LL xx ac wc sg hst hwant QQ hgo
      exact op_val hwant hgo hst _ (exec_assign rfl (sg.slot 4 (sg.anc 4 rfl))) rfl
    · intro LL xx ac wc sg hst hwant QQ hgo
      exact op_val hwant hgo hst _ (exec_assign rfl (sg.slot 5 (sg.anc 5 rfl))) rfl
  · exact skips [] (by kernel_rfl) (fun _ h => by cases h)
  · intro xx ac1 wz hfr hsl hst
    exact hfin ac1 wz (hfr.size.trans hz) hfr.defers (fr_keep hfr [16, 17, 58, 59, 60, 61, 62, 63] (by kernel_rfl)) (hsl 7 (by decide)) (Lib.hid hst)
set_option maxRecDepth 20000 in
theorem awake10_r11 (hk0 : 0 ≤ (21474836489 : Int)) (hk1 : (21474836489 : Int) ≤ 18446744073709551615) (f0 : (checkV smallV != 0) = false) (hroom : (if smallV.keys < 1 ∨ 65536 < smallV.keys then 0 else smallV.keys) = smallV.keys) (f1 : ((lookV smallV ([] : List PairV) 4 1 21474836489 (⟨#[98]⟩ : ByteArray)).2 == 4) = true) (f2 : ((lookV smallV ([] : List PairV) 5 1 21474836489 (⟨#[98]⟩ : ByteArray)).2 == 1) = true) (f3 : ((lookV smallV ([] : List PairV) 25 1 21474836489 (⟨#[98]⟩ : ByteArray)).2 != 1) = false) (f4 : (((lookV smallV w1V 25 1 21474836489 (⟨#[98]⟩ : ByteArray)).1).toList == ([121, 101, 115] : List UInt8)) = true) (f5 : ((lookV smallV w1V 25 1 21474836489 (⟨#[98]⟩ : ByteArray)).2 == 2) = true) (f6 : ((lookV smallV w1V 25 1 21474836489 (⟨#[99]⟩ : ByteArray)).2 == 3) = true) (f7 : ((lookV smallV w1V 26 1 21474836489 (⟨#[98]⟩ : ByteArray)).2 == 4) = true) (f8 : ((lookV smallV w1V 25 2 21474836489 (⟨#[98]⟩ : ByteArray)).2 == 1) = true) (f9 : ((((w1V).filter (keepB smallV 25)).length : Int) == 1) = true) (f10 : ((((w1V).filter (keepB smallV 26)).length : Int) == 0) = true) (f12 : isGoodV smallV 21474836489 25 = true) (b1 : Nat) (b2 : Nat) (a6_2 : Option Addr) (c6_2 : Nat) (b8 : Nat) {wa wb : World} (H : Hid (Hp [] wa wb [rB b8 84 (kL smallV smallV.keys (.slice a6_2 w1V.length c6_2)), rS a6_2 c6_2 4 (w1V.map rowOf), rB b2 84 (kL smallV smallV.keys (.slice none (([] : List PairV).length) 0)), rB b1 24 (cL smallV), rS none 0 4 (([] : List PairV).map rowOf)])) (ac0 : Act) (hz : ac0.tmps.size = 118) (so1 : ac0.eval (.tmp 1) = .pointer (some ⟨b1, 0, none⟩)) (so3 : ac0.eval (.tmp 3) = .int .u64 21474836489) (so5 : ac0.eval (.tmp 5) = .int .i64 ((lookV smallV ([] : List PairV) 4 1 21474836489 (⟨#[98]⟩ : ByteArray)).2)) (so7 : ac0.eval (.tmp 7) = .int .i64 ((lookV smallV ([] : List PairV) 5 1 21474836489 (⟨#[98]⟩ : ByteArray)).2)) (so8 : ac0.eval (.tmp 8) = .pointer (some ⟨b8, 0, none⟩)) (so9 : ac0.eval (.tmp 9) = .int .i64 0) (so10 : ac0.eval (.tmp 10) = .string ((lookV smallV w1V 25 1 21474836489 (⟨#[98]⟩ : ByteArray)).1)) (so11 : ac0.eval (.tmp 11) = .int .i64 ((lookV smallV w1V 25 1 21474836489 (⟨#[98]⟩ : ByteArray)).2)) (so13 : ac0.eval (.tmp 13) = .int .i64 ((lookV smallV w1V 25 1 21474836489 (⟨#[99]⟩ : ByteArray)).2)) (so15 : ac0.eval (.tmp 15) = .int .i64 ((lookV smallV w1V 26 1 21474836489 (⟨#[98]⟩ : ByteArray)).2)) (so17 : ac0.eval (.tmp 17) = .int .i64 ((lookV smallV w1V 25 2 21474836489 (⟨#[98]⟩ : ByteArray)).2)) {QR : Exit → Act → World → Prop} (hfin : ∀ (ac1 : Act) (wz : World), ac1.tmps.size = 118 → ac1.defers = ac0.defers → (∀ t, ([0, 64, 65, 66, 67, 68, 69, 70, 71, 72, 73, 74, 75, 76, 77, 78, 79, 80, 81, 82, 83, 84, 85, 86, 87, 88, 89, 90, 91, 92, 93, 94, 95, 96, 97, 98, 99, 100, 101, 102, 103, 104, 105, 106, 107, 108, 109, 110, 111, 112, 113, 114, 115, 116, 117] : List Nat).contains t = false → ac1.eval (.tmp t) = ac0.eval (.tmp t)) → ac1.eval (.tmp 0) = .bool (isGoodV smallV 21474836489 25) →  Hid (Hp [] wa wz [rB b8 84 (kL smallV smallV.keys (.slice a6_2 w1V.length c6_2)), rS a6_2 c6_2 4 (w1V.map rowOf), rB b2 84 (kL smallV smallV.keys (.slice none (([] : List PairV).length) 0)), rB b1 24 (cL smallV), rS none 0 4 (([] : List PairV).map rowOf)]) → QR .normal ac1 wz) : (regAt Try.f44 11).wp Try.prog QR ac0 wb := by
  refine wp_region_sq (by kernel_rfl) 118 hz (by kernel_rfl) (fun (xx : Unit) jx => nth [.int .i64 ((lookV smallV ([] : List PairV) 4 1 21474836489 (⟨#[98]⟩ : ByteArray)).2), .bool true, .bool true, .int .i64 ((lookV smallV ([] : List PairV) 5 1 21474836489 (⟨#[98]⟩ : ByteArray)).2), .bool true, .bool true, .bool true, .int .i64 0, .bool true, .bool true, .bool true, .string ((lookV smallV w1V 25 1 21474836489 (⟨#[98]⟩ : ByteArray)).1), .bool true, .bool true, .bool true, .int .i64 ((lookV smallV w1V 25 1 21474836489 (⟨#[98]⟩ : ByteArray)).2), .bool true, .bool true, .bool true, .int .i64 ((lookV smallV w1V 25 1 21474836489 (⟨#[99]⟩ : ByteArray)).2), .bool true, .bool true, .bool true, .int .i64 ((lookV smallV w1V 26 1 21474836489 (⟨#[98]⟩ : ByteArray)).2), .bool true, .bool true, .bool true, .int .i64 ((lookV smallV w1V 25 2 21474836489 (⟨#[98]⟩ : ByteArray)).2), .bool true, .bool true, .bool true, .agg (kA smallV smallV.keys (.slice a6_2 w1V.length c6_2)), .int .i64 ((w1V.filter (keepB smallV 25)).length), .bool true, .bool true, .bool true, .agg (kA smallV smallV.keys (.slice a6_2 w1V.length c6_2)), .int .i64 ((w1V.filter (keepB smallV 26)).length), .bool true, .bool true, .bool true, .int .u64 21474836489, .int .i64 5, .bool true, .bool true, .bool true, .int .u64 21474836489, .bool true, .bool true, .bool true, .agg (cA smallV), .int .u64 21474836489, .bool (isGoodV smallV 21474836489 25), .bool (isGoodV smallV 21474836489 25), .bool (isGoodV smallV 21474836489 25)] jx) (fun (LL : Nat → Bool) (xx : Unit) ww => Hp [] wa ww [rB b8 84 (kL smallV smallV.keys (.slice a6_2 w1V.length c6_2)), rS a6_2 c6_2 4 (w1V.map rowOf), rB b2 84 (kL smallV smallV.keys (.slice none (([] : List PairV).length) 0)), rB b1 24 (cL smallV), rS none 0 4 (([] : List PairV).map rowOf)]) () H.out ?_ (steps_al ?_) ?_ ?_
  · exact fun _ _ _ _ _ h => h
  · refine al_cons ?_ (al_cons ?_ (al_cons ?_ (al_cons ?_ (al_cons ?_ (al_cons ?_ (al_cons ?_ (al_cons ?_ (al_cons ?_ (al_cons ?_ (al_cons ?_ (al_cons ?_ (al_cons ?_ (al_cons ?_ (al_cons ?_ (al_cons ?_ (al_cons ?_ (al_cons ?_ (al_cons ?_ (al_cons ?_ (al_cons ?_ (al_cons ?_ (al_cons ?_ (al_cons ?_ (al_cons ?_ (al_cons ?_ (al_cons ?_ (al_cons ?_ (al_cons ?_ (al_cons ?_ (al_cons ?_ (al_cons ?_ (al_cons ?_ (al_cons ?_ (al_cons ?_ (al_cons ?_ (al_cons ?_ (al_cons ?_ (al_cons ?_ (al_cons ?_ (al_cons ?_ (al_cons ?_ (al_cons ?_ (al_cons ?_ (al_cons ?_ (al_cons ?_ (al_cons ?_ (al_cons ?_ (al_cons ?_ (al_cons ?_ (al_cons ?_ (al_cons ?_ (al_cons ?_ (al_cons ?_ (al_cons ?_ (al_nil)))))))))))))))))))))))))))))))))))))))))))))))))))))))
    · intro LL xx ac wc sg hst hwant QQ hgo
      exact op_val hwant hgo hst _ (exec_move rfl ((sg.free 5 (by kernel_rfl)).trans so5)) rfl
    · intro LL xx ac wc sg hst hwant QQ hgo
      have se64 : ac.eval (.tmp 64) = _ := (sg.slot 0 (sg.anc 0 rfl))
      have sg64 := gt_of se64
      (try simp only [nth] at se64 sg64)
      exact op_val hwant hgo hst _ (by simp only [execOp, nth]; go_simp <;> omega) rfl
    · intro LL xx ac wc sg hst hwant QQ hgo
      exact op_val hwant hgo hst _ (exec_move rfl (sg.slot 1 (sg.anc 1 rfl))) rfl
    · intro LL xx ac wc sg hst hwant QQ hgo
      exact op_val hwant hgo hst _ (exec_move rfl ((sg.free 7 (by kernel_rfl)).trans so7)) rfl
    · intro LL xx ac wc sg hst hwant QQ hgo
      have se67 : ac.eval (.tmp 67) = _ := (sg.slot 3 (sg.anc 3 rfl))
      have sg67 := gt_of se67
      (try simp only [nth] at se67 sg67)
      exact op_val hwant hgo hst _ (by simp only [execOp, nth]; go_simp <;> omega) rfl
    · intro LL xx ac wc sg hst hwant QQ hgo
      exact op_val hwant hgo hst (.bool true) (exec_pick (B := true) (U := .bool true) (V := undef) rfl (sg.slot 2 (sg.anc 2 rfl)) (fun _ => (sg.slot 4 (sg.anc 4 rfl))) (fun h => by cases h)) rfl
    · intro LL xx ac wc sg hst hwant QQ hgo
      exact op_val hwant hgo hst _ (exec_move rfl (sg.slot 5 (sg.anc 5 rfl))) rfl
    · intro LL xx ac wc sg hst hwant QQ hgo
      exact op_val hwant hgo hst _ (exec_move rfl ((sg.free 9 (by kernel_rfl)).trans so9)) rfl
    · intro LL xx ac wc sg hst hwant QQ hgo
      have se71 : ac.eval (.tmp 71) = _ := (sg.slot 7 (sg.anc 7 rfl))
      have sg71 := gt_of se71
      (try simp only [nth] at se71 sg71)
      exact op_val hwant hgo hst _ (by simp only [execOp, nth]; go_simp <;> omega) rfl
    · intro LL xx ac wc sg hst hwant QQ hgo
      exact op_val hwant hgo hst (.bool true) (exec_pick (B := true) (U := .bool true) (V := undef) rfl (sg.slot 6 (sg.anc 6 rfl)) (fun _ => (sg.slot 8 (sg.anc 8 rfl))) (fun h => by cases h)) rfl
    · intro LL xx ac wc sg hst hwant QQ hgo
      exact op_val hwant hgo hst _ (exec_move rfl (sg.slot 9 (sg.anc 9 rfl))) rfl
    · intro LL xx ac wc sg hst hwant QQ hgo
      exact op_val hwant hgo hst _ (exec_move rfl ((sg.free 10 (by kernel_rfl)).trans so10)) rfl
    · intro LL xx ac wc sg hst hwant QQ hgo
      have se75 : ac.eval (.tmp 75) = _ := (sg.slot 11 (sg.anc 11 rfl))
      have sg75 := gt_of se75
      (try simp only [nth] at se75 sg75)
      exact op_val hwant hgo hst _ (by simp only [execOp, nth]; go_simp <;> omega) rfl
    · intro LL xx ac wc sg hst hwant QQ hgo
      exact op_val hwant hgo hst (.bool true) (exec_pick (B := true) (U := .bool true) (V := undef) rfl (sg.slot 10 (sg.anc 10 rfl)) (fun _ => (sg.slot 12 (sg.anc 12 rfl))) (fun h => by cases h)) rfl
    · intro LL xx ac wc sg hst hwant QQ hgo
      exact op_val hwant hgo hst _ (exec_move rfl (sg.slot 13 (sg.anc 13 rfl))) rfl
    · intro LL xx ac wc sg hst hwant QQ hgo
      exact op_val hwant hgo hst _ (exec_move rfl ((sg.free 11 (by kernel_rfl)).trans so11)) rfl
    · intro LL xx ac wc sg hst hwant QQ hgo
      have se79 : ac.eval (.tmp 79) = _ := (sg.slot 15 (sg.anc 15 rfl))
      have sg79 := gt_of se79
      (try simp only [nth] at se79 sg79)
      exact op_val hwant hgo hst _ (by simp only [execOp, nth]; go_simp <;> omega) rfl
    · intro LL xx ac wc sg hst hwant QQ hgo
      exact op_val hwant hgo hst (.bool true) (exec_pick (B := true) (U := .bool true) (V := undef) rfl (sg.slot 14 (sg.anc 14 rfl)) (fun _ => (sg.slot 16 (sg.anc 16 rfl))) (fun h => by cases h)) rfl
    · intro LL xx ac wc sg hst hwant QQ hgo
      exact op_val hwant hgo hst _ (exec_move rfl (sg.slot 17 (sg.anc 17 rfl))) rfl
    · intro LL xx ac wc sg hst hwant QQ hgo
      exact op_val hwant hgo hst _ (exec_move rfl ((sg.free 13 (by kernel_rfl)).trans so13)) rfl
    · intro LL xx ac wc sg hst hwant QQ hgo
      have se83 : ac.eval (.tmp 83) = _ := (sg.slot 19 (sg.anc 19 rfl))
      have sg83 := gt_of se83
      (try simp only [nth] at se83 sg83)
      exact op_val hwant hgo hst _ (by simp only [execOp, nth]; go_simp <;> omega) rfl
    · intro LL xx ac wc sg hst hwant QQ hgo
      exact op_val hwant hgo hst (.bool true) (exec_pick (B := true) (U := .bool true) (V := undef) rfl (sg.slot 18 (sg.anc 18 rfl)) (fun _ => (sg.slot 20 (sg.anc 20 rfl))) (fun h => by cases h)) rfl
    · intro LL xx ac wc sg hst hwant QQ hgo
      exact op_val hwant hgo hst _ (exec_move rfl (sg.slot 21 (sg.anc 21 rfl))) rfl
    · intro LL xx ac wc sg hst hwant QQ hgo
      exact op_val hwant hgo hst _ (exec_move rfl ((sg.free 15 (by kernel_rfl)).trans so15)) rfl
    · intro LL xx ac wc sg hst hwant QQ hgo
      have se87 : ac.eval (.tmp 87) = _ := (sg.slot 23 (sg.anc 23 rfl))
      have sg87 := gt_of se87
      (try simp only [nth] at se87 sg87)
      exact op_val hwant hgo hst _ (by simp only [execOp, nth]; go_simp <;> omega) rfl
    · intro LL xx ac wc sg hst hwant QQ hgo
      exact op_val hwant hgo hst (.bool true) (exec_pick (B := true) (U := .bool true) (V := undef) rfl (sg.slot 22 (sg.anc 22 rfl)) (fun _ => (sg.slot 24 (sg.anc 24 rfl))) (fun h => by cases h)) rfl
    · intro LL xx ac wc sg hst hwant QQ hgo
      exact op_val hwant hgo hst _ (exec_move rfl (sg.slot 25 (sg.anc 25 rfl))) rfl
    · intro LL xx ac wc sg hst hwant QQ hgo
      exact op_val hwant hgo hst _ (exec_move rfl ((sg.free 17 (by kernel_rfl)).trans so17)) rfl
    · intro LL xx ac wc sg hst hwant QQ hgo
      have se91 : ac.eval (.tmp 91) = _ := (sg.slot 27 (sg.anc 27 rfl))
      have sg91 := gt_of se91
      (try simp only [nth] at se91 sg91)
      exact op_val hwant hgo hst _ (by simp only [execOp, nth]; go_simp <;> omega) rfl
    · intro LL xx ac wc sg hst hwant QQ hgo
      exact op_val hwant hgo hst (.bool true) (exec_pick (B := true) (U := .bool true) (V := undef) rfl (sg.slot 26 (sg.anc 26 rfl)) (fun _ => (sg.slot 28 (sg.anc 28 rfl))) (fun h => by cases h)) rfl
    · intro LL xx ac wc sg hst hwant QQ hgo
      exact op_val hwant hgo hst _ (exec_move rfl (sg.slot 29 (sg.anc 29 rfl))) rfl
    · intro LL xx ac wc sg hst hwant QQ hgo
      have H := Lib.hid hst
      refine hpA_load tykeys_Keys H rfl ((sg.free 8 (by kernel_rfl)).trans so8) hwant (by (repeat (first | exact List.Mem.head _ | apply List.Mem.tail))) (by rfl) rfl ?_
      exact hgo _ () _ (fun _ _ => rfl) rfl hst
    · intro LL xx ac wc sg hst hwant QQ hgo
      have se95 : ac.eval (.tmp 95) = _ := (sg.slot 31 (sg.anc 31 rfl))
      have sg95 := gt_of se95
      (try simp only [nth] at se95 sg95)
      have H := Lib.hid hst
      refine op_call hwant hgo 51 _ (by simp only [execOp]; go_simp) (countC smallV smallV.keys a6_2 c6_2 w1V 25 wc (hp_held H (by (repeat (first | exact List.Mem.head _ | apply List.Mem.tail)))) (by decide +kernel)) ?_
      rintro er wd ⟨rfl, hof⟩
      exact ⟨_, (), rfl, fun _ _ => rfl, rfl, Hp.quiet hst hof⟩
    · intro LL xx ac wc sg hst hwant QQ hgo
      have se96 : ac.eval (.tmp 96) = _ := (sg.slot 32 (sg.anc 32 rfl))
      have sg96 := gt_of se96
      (try simp only [nth] at se96 sg96)
      exact op_val hwant hgo hst _ (by simp only [execOp, nth]; go_simp <;> omega) rfl
    · intro LL xx ac wc sg hst hwant QQ hgo
      exact op_val hwant hgo hst (.bool true) (exec_pick (B := true) (U := .bool true) (V := undef) rfl (sg.slot 30 (sg.anc 30 rfl)) (fun _ => (sg.slot 33 (sg.anc 33 rfl))) (fun h => by cases h)) rfl
    · intro LL xx ac wc sg hst hwant QQ hgo
      exact op_val hwant hgo hst _ (exec_move rfl (sg.slot 34 (sg.anc 34 rfl))) rfl
    · intro LL xx ac wc sg hst hwant QQ hgo
      have H := Lib.hid hst
      refine hpA_load tykeys_Keys H rfl ((sg.free 8 (by kernel_rfl)).trans so8) hwant (by (repeat (first | exact List.Mem.head _ | apply List.Mem.tail))) (by rfl) rfl ?_
      exact hgo _ () _ (fun _ _ => rfl) rfl hst
    · intro LL xx ac wc sg hst hwant QQ hgo
      have se100 : ac.eval (.tmp 100) = _ := (sg.slot 36 (sg.anc 36 rfl))
      have sg100 := gt_of se100
      (try simp only [nth] at se100 sg100)
      have H := Lib.hid hst
      refine op_call hwant hgo 51 _ (by simp only [execOp]; go_simp) (countC smallV smallV.keys a6_2 c6_2 w1V 26 wc (hp_held H (by (repeat (first | exact List.Mem.head _ | apply List.Mem.tail)))) (by decide +kernel)) ?_
      rintro er wd ⟨rfl, hof⟩
      exact ⟨_, (), rfl, fun _ _ => rfl, rfl, Hp.quiet hst hof⟩
    · intro LL xx ac wc sg hst hwant QQ hgo
      have se101 : ac.eval (.tmp 101) = _ := (sg.slot 37 (sg.anc 37 rfl))
      have sg101 := gt_of se101
      (try simp only [nth] at se101 sg101)
      exact op_val hwant hgo hst _ (by simp only [execOp, nth]; go_simp <;> omega) rfl
    · intro LL xx ac wc sg hst hwant QQ hgo
      exact op_val hwant hgo hst (.bool true) (exec_pick (B := true) (U := .bool true) (V := undef) rfl (sg.slot 35 (sg.anc 35 rfl)) (fun _ => (sg.slot 38 (sg.anc 38 rfl))) (fun h => by cases h)) rfl
    · intro LL xx ac wc sg hst hwant QQ hgo
      exact op_val hwant hgo hst _ (exec_move rfl (sg.slot 39 (sg.anc 39 rfl))) rfl
    · intro LL xx ac wc sg hst hwant QQ hgo
      exact op_val hwant hgo hst _ (exec_move rfl ((sg.free 3 (by kernel_rfl)).trans so3)) rfl
    · intro LL xx ac wc sg hst hwant QQ hgo
      have se105 : ac.eval (.tmp 105) = _ := (sg.slot 41 (sg.anc 41 rfl))
      have sg105 := gt_of se105
      (try simp only [nth] at se105 sg105)
      refine op_call hwant hgo 46 _ (by simp only [execOp]; go_simp) (stampC 21474836489 wc hk0 hk1) ?_
      rintro er wd ⟨rfl, hof⟩
      exact ⟨_, (), rfl, fun _ _ => rfl, rfl, Hp.quiet hst hof⟩
    · intro LL xx ac wc sg hst hwant QQ hgo
      have se106 : ac.eval (.tmp 106) = _ := (sg.slot 42 (sg.anc 42 rfl))
      have sg106 := gt_of se106
      (try simp only [nth] at se106 sg106)
      exact op_val hwant hgo hst _ (by simp only [execOp, nth]; go_simp <;> omega) rfl
    · intro LL xx ac wc sg hst hwant QQ hgo
      exact op_val hwant hgo hst (.bool true) (exec_pick (B := true) (U := .bool true) (V := undef) rfl (sg.slot 40 (sg.anc 40 rfl)) (fun _ => (sg.slot 43 (sg.anc 43 rfl))) (fun h => by cases h)) rfl
    · intro LL xx ac wc sg hst hwant QQ hgo
      exact op_val hwant hgo hst _ (exec_move rfl (sg.slot 44 (sg.anc 44 rfl))) rfl
    · intro LL xx ac wc sg hst hwant QQ hgo
      exact op_val hwant hgo hst _ (exec_move rfl ((sg.free 3 (by kernel_rfl)).trans so3)) rfl
    · intro LL xx ac wc sg hst hwant QQ hgo
      have se110 : ac.eval (.tmp 110) = _ := (sg.slot 46 (sg.anc 46 rfl))
      have sg110 := gt_of se110
      (try simp only [nth] at se110 sg110)
      exact op_val hwant hgo hst _ (by simp only [execOp, nth]; go_simp <;> omega) rfl
    · intro LL xx ac wc sg hst hwant QQ hgo
      exact op_val hwant hgo hst (.bool true) (exec_pick (B := true) (U := .bool true) (V := undef) rfl (sg.slot 45 (sg.anc 45 rfl)) (fun _ => (sg.slot 47 (sg.anc 47 rfl))) (fun h => by cases h)) rfl
    · intro LL xx ac wc sg hst hwant QQ hgo
      exact op_val hwant hgo hst _ (exec_move rfl (sg.slot 48 (sg.anc 48 rfl))) rfl
    · intro LL xx ac wc sg hst hwant QQ hgo
      have H := Lib.hid hst
      refine hpA_load tyapi_Config H rfl ((sg.free 1 (by kernel_rfl)).trans so1) hwant (by (repeat (first | exact List.Mem.head _ | apply List.Mem.tail))) (by rfl) rfl ?_
      exact hgo _ () _ (fun _ _ => rfl) rfl hst
    · intro LL xx ac wc sg hst hwant QQ hgo
      exact op_val hwant hgo hst _ (exec_move rfl ((sg.free 3 (by kernel_rfl)).trans so3)) rfl
    · intro LL xx ac wc sg hst hwant QQ hgo
      have se114 : ac.eval (.tmp 114) = _ := (sg.slot 50 (sg.anc 50 rfl))
      have sg114 := gt_of se114
      have se115 : ac.eval (.tmp 115) = _ := (sg.slot 51 (sg.anc 51 rfl))
      have sg115 := gt_of se115
      (try simp only [nth] at se114 sg114 se115 sg115)
      refine op_call hwant hgo 49 _ (by simp only [execOp]; go_simp) (isGoodC smallV 21474836489 25 wc hk0 hk1) ?_
      rintro er wd ⟨rfl, hof⟩
      exact ⟨_, (), rfl, fun _ _ => rfl, rfl, Hp.quiet hst hof⟩
    · intro LL xx ac wc sg hst hwant QQ hgo
      exact op_val hwant hgo hst (.bool (isGoodV smallV 21474836489 25)) (exec_pick (B := true) (U := .bool (isGoodV smallV 21474836489 25)) (V := undef) rfl (sg.slot 49 (sg.anc 49 rfl)) (fun _ => (sg.slot 52 (sg.anc 52 rfl))) (fun h => by cases h)) rfl
    · intro LL xx ac wc sg hst hwant QQ hgo
      exact op_val hwant hgo hst _ (exec_assign rfl (sg.slot 53 (sg.anc 53 rfl))) rfl
  · refine skips [3, 4, 7, 8, 11, 12, 15, 16, 19, 20, 23, 24, 27, 28, 31, 32, 33, 36, 37, 38, 41, 42, 43, 46, 47, 50, 51, 52] (by kernel_rfl) ?_
    refine List.forall_mem_cons.2 ⟨?_, List.forall_mem_cons.2 ⟨?_, List.forall_mem_cons.2 ⟨?_, List.forall_mem_cons.2 ⟨?_, List.forall_mem_cons.2 ⟨?_, List.forall_mem_cons.2 ⟨?_, List.forall_mem_cons.2 ⟨?_, List.forall_mem_cons.2 ⟨?_, List.forall_mem_cons.2 ⟨?_, List.forall_mem_cons.2 ⟨?_, List.forall_mem_cons.2 ⟨?_, List.forall_mem_cons.2 ⟨?_, List.forall_mem_cons.2 ⟨?_, List.forall_mem_cons.2 ⟨?_, List.forall_mem_cons.2 ⟨?_, List.forall_mem_cons.2 ⟨?_, List.forall_mem_cons.2 ⟨?_, List.forall_mem_cons.2 ⟨?_, List.forall_mem_cons.2 ⟨?_, List.forall_mem_cons.2 ⟨?_, List.forall_mem_cons.2 ⟨?_, List.forall_mem_cons.2 ⟨?_, List.forall_mem_cons.2 ⟨?_, List.forall_mem_cons.2 ⟨?_, List.forall_mem_cons.2 ⟨?_, List.forall_mem_cons.2 ⟨?_, List.forall_mem_cons.2 ⟨?_, List.forall_mem_cons.2 ⟨?_, fun _ h => by cases h⟩⟩⟩⟩⟩⟩⟩⟩⟩⟩⟩⟩⟩⟩⟩⟩⟩⟩⟩⟩⟩⟩⟩⟩⟩⟩⟩⟩
    · intro oo hop LL xx ac sg hwant
      cases Option.some.inj hop
      exact absurd ((want_t rfl rfl (sg.slot 2 (sg.anc 2 rfl))).symm.trans hwant) (by decide)
    · intro oo hop LL xx ac sg hwant
      cases Option.some.inj hop
      exact absurd ((want_t rfl rfl (sg.slot 2 (sg.anc 2 rfl))).symm.trans hwant) (by decide)
    · intro oo hop LL xx ac sg hwant
      cases Option.some.inj hop
      exact absurd ((want_t rfl rfl (sg.slot 6 (sg.anc 6 rfl))).symm.trans hwant) (by decide)
    · intro oo hop LL xx ac sg hwant
      cases Option.some.inj hop
      exact absurd ((want_t rfl rfl (sg.slot 6 (sg.anc 6 rfl))).symm.trans hwant) (by decide)
    · intro oo hop LL xx ac sg hwant
      cases Option.some.inj hop
      exact absurd ((want_t rfl rfl (sg.slot 10 (sg.anc 10 rfl))).symm.trans hwant) (by decide)
    · intro oo hop LL xx ac sg hwant
      cases Option.some.inj hop
      exact absurd ((want_t rfl rfl (sg.slot 10 (sg.anc 10 rfl))).symm.trans hwant) (by decide)
    · intro oo hop LL xx ac sg hwant
      cases Option.some.inj hop
      exact absurd ((want_t rfl rfl (sg.slot 14 (sg.anc 14 rfl))).symm.trans hwant) (by decide)
    · intro oo hop LL xx ac sg hwant
      cases Option.some.inj hop
      exact absurd ((want_t rfl rfl (sg.slot 14 (sg.anc 14 rfl))).symm.trans hwant) (by decide)
    · intro oo hop LL xx ac sg hwant
      cases Option.some.inj hop
      exact absurd ((want_t rfl rfl (sg.slot 18 (sg.anc 18 rfl))).symm.trans hwant) (by decide)
    · intro oo hop LL xx ac sg hwant
      cases Option.some.inj hop
      exact absurd ((want_t rfl rfl (sg.slot 18 (sg.anc 18 rfl))).symm.trans hwant) (by decide)
    · intro oo hop LL xx ac sg hwant
      cases Option.some.inj hop
      exact absurd ((want_t rfl rfl (sg.slot 22 (sg.anc 22 rfl))).symm.trans hwant) (by decide)
    · intro oo hop LL xx ac sg hwant
      cases Option.some.inj hop
      exact absurd ((want_t rfl rfl (sg.slot 22 (sg.anc 22 rfl))).symm.trans hwant) (by decide)
    · intro oo hop LL xx ac sg hwant
      cases Option.some.inj hop
      exact absurd ((want_t rfl rfl (sg.slot 26 (sg.anc 26 rfl))).symm.trans hwant) (by decide)
    · intro oo hop LL xx ac sg hwant
      cases Option.some.inj hop
      exact absurd ((want_t rfl rfl (sg.slot 26 (sg.anc 26 rfl))).symm.trans hwant) (by decide)
    · intro oo hop LL xx ac sg hwant
      cases Option.some.inj hop
      exact absurd ((want_t rfl rfl (sg.slot 30 (sg.anc 30 rfl))).symm.trans hwant) (by decide)
    · intro oo hop LL xx ac sg hwant
      cases Option.some.inj hop
      exact absurd ((want_t rfl rfl (sg.slot 30 (sg.anc 30 rfl))).symm.trans hwant) (by decide)
    · intro oo hop LL xx ac sg hwant
      cases Option.some.inj hop
      exact absurd ((want_t rfl rfl (sg.slot 30 (sg.anc 30 rfl))).symm.trans hwant) (by decide)
    · intro oo hop LL xx ac sg hwant
      cases Option.some.inj hop
      exact absurd ((want_t rfl rfl (sg.slot 35 (sg.anc 35 rfl))).symm.trans hwant) (by decide)
    · intro oo hop LL xx ac sg hwant
      cases Option.some.inj hop
      exact absurd ((want_t rfl rfl (sg.slot 35 (sg.anc 35 rfl))).symm.trans hwant) (by decide)
    · intro oo hop LL xx ac sg hwant
      cases Option.some.inj hop
      exact absurd ((want_t rfl rfl (sg.slot 35 (sg.anc 35 rfl))).symm.trans hwant) (by decide)
    · intro oo hop LL xx ac sg hwant
      cases Option.some.inj hop
      exact absurd ((want_t rfl rfl (sg.slot 40 (sg.anc 40 rfl))).symm.trans hwant) (by decide)
    · intro oo hop LL xx ac sg hwant
      cases Option.some.inj hop
      exact absurd ((want_t rfl rfl (sg.slot 40 (sg.anc 40 rfl))).symm.trans hwant) (by decide)
    · intro oo hop LL xx ac sg hwant
      cases Option.some.inj hop
      exact absurd ((want_t rfl rfl (sg.slot 40 (sg.anc 40 rfl))).symm.trans hwant) (by decide)
    · intro oo hop LL xx ac sg hwant
      cases Option.some.inj hop
      exact absurd ((want_t rfl rfl (sg.slot 45 (sg.anc 45 rfl))).symm.trans hwant) (by decide)
    · intro oo hop LL xx ac sg hwant
      cases Option.some.inj hop
      exact absurd ((want_t rfl rfl (sg.slot 45 (sg.anc 45 rfl))).symm.trans hwant) (by decide)
    · intro oo hop LL xx ac sg hwant
      cases Option.some.inj hop
      exact absurd ((want_t rfl rfl (sg.slot 49 (sg.anc 49 rfl))).symm.trans hwant) (by decide)
    · intro oo hop LL xx ac sg hwant
      cases Option.some.inj hop
      exact absurd ((want_t rfl rfl (sg.slot 49 (sg.anc 49 rfl))).symm.trans hwant) (by decide)
    · intro oo hop LL xx ac sg hwant
      cases Option.some.inj hop
      exact absurd ((want_t rfl rfl (sg.slot 49 (sg.anc 49 rfl))).symm.trans hwant) (by decide)
  · intro xx ac1 wz hfr hsl hst
    exact hfin ac1 wz (hfr.size.trans hz) hfr.defers (fr_keep hfr [0, 64, 65, 66, 67, 68, 69, 70, 71, 72, 73, 74, 75, 76, 77, 78, 79, 80, 81, 82, 83, 84, 85, 86, 87, 88, 89, 90, 91, 92, 93, 94, 95, 96, 97, 98, 99, 100, 101, 102, 103, 104, 105, 106, 107, 108, 109, 110, 111, 112, 113, 114, 115, 116, 117] (by kernel_rfl)) (hsl 54 (by decide)) (Lib.hid hst)
set_option maxHeartbeats 64000000 in
set_option maxRecDepth 20000 in
theorem awake10  (w : World) : Calls Try.prog 44 #[] w fun e w' => e = .returned (.bool true) ∧ Off [] w w' := by
  have H := Lib.hid (Hp.start [] w)
  replace H := hp_old H (rS_nil w 4) (by decide)
  refine calls_start Try.func44 rfl 118 rfl (by simp) (fun aa nn dd sl => ?_)
  clear sl
  have hk0 : 0 ≤ (21474836489 : Int) := by decide +kernel
  have hk1 : (21474836489 : Int) ≤ 18446744073709551615 := by decide +kernel
  have f0 : (checkV smallV != 0) = false := by decide +kernel
  have hroom : (if smallV.keys < 1 ∨ 65536 < smallV.keys then 0 else smallV.keys) = smallV.keys := by decide +kernel
  have f1 : ((lookV smallV ([] : List PairV) 4 1 21474836489 (⟨#[98]⟩ : ByteArray)).2 == 4) = true := by decide +kernel
  have f2 : ((lookV smallV ([] : List PairV) 5 1 21474836489 (⟨#[98]⟩ : ByteArray)).2 == 1) = true := by decide +kernel
  have f3 : ((lookV smallV ([] : List PairV) 25 1 21474836489 (⟨#[98]⟩ : ByteArray)).2 != 1) = false := by decide +kernel
  have f4 : (((lookV smallV w1V 25 1 21474836489 (⟨#[98]⟩ : ByteArray)).1).toList == ([121, 101, 115] : List UInt8)) = true := by decide +kernel
  have f5 : ((lookV smallV w1V 25 1 21474836489 (⟨#[98]⟩ : ByteArray)).2 == 2) = true := by decide +kernel
  have f6 : ((lookV smallV w1V 25 1 21474836489 (⟨#[99]⟩ : ByteArray)).2 == 3) = true := by decide +kernel
  have f7 : ((lookV smallV w1V 26 1 21474836489 (⟨#[98]⟩ : ByteArray)).2 == 4) = true := by decide +kernel
  have f8 : ((lookV smallV w1V 25 2 21474836489 (⟨#[98]⟩ : ByteArray)).2 == 1) = true := by decide +kernel
  have f9 : ((((w1V).filter (keepB smallV 25)).length : Int) == 1) = true := by decide +kernel
  have f10 : ((((w1V).filter (keepB smallV 26)).length : Int) == 0) = true := by decide +kernel
  have f12 : isGoodV smallV 21474836489 25 = true := by decide +kernel
  refine wp_seq_k fun KK1 hK1 => ?_
  refine awake10_r0 hk0 hk1 f0 hroom f1 f2 f3 f4 f5 f6 f7 f8 f9 f10 f12 H aa nn  ?_
  clear H nn
  intro aa ww nn dd1 kp ss0 H
  replace dd := dd1.trans dd
  clear dd1 kp
  refine then_normal ?_
  refine hK1 _ _ ?_
  refine wp_seq_k fun KK2 hK2 => ?_
  refine awake10_r1 hk0 hk1 f0 hroom f1 f2 f3 f4 f5 f6 f7 f8 f9 f10 f12 H aa nn  ?_
  clear H nn
  intro b1 aa ww nn dd1 kp ss1 H
  replace ss0 := (kp 0 rfl).trans ss0
  replace dd := dd1.trans dd
  clear dd1 kp
  refine then_normal ?_
  refine hK2 _ _ ?_
  refine wp_seq_k fun KK3 hK3 => ?_
  refine awake10_r2 hk0 hk1 f0 hroom f1 f2 f3 f4 f5 f6 f7 f8 f9 f10 f12 b1 H aa nn ss1 ?_
  clear H nn
  intro b2 aa ww nn dd1 kp ss2 H
  replace ss0 := (kp 0 rfl).trans ss0
  replace ss1 := (kp 1 rfl).trans ss1
  replace dd := dd1.trans dd
  clear dd1 kp
  refine then_normal ?_
  refine hK3 _ _ ?_
  refine wp_seq_k fun KK4 hK4 => ?_
  refine awake10_r3 hk0 hk1 f0 hroom f1 f2 f3 f4 f5 f6 f7 f8 f9 f10 f12 b1 b2 H aa nn  ?_
  clear H nn
  intro aa ww nn dd1 kp ss3 H
  replace ss0 := (kp 0 rfl).trans ss0
  replace ss1 := (kp 1 rfl).trans ss1
  replace ss2 := (kp 2 rfl).trans ss2
  replace dd := dd1.trans dd
  clear dd1 kp
  refine then_normal ?_
  refine hK4 _ _ ?_
  refine wp_seq_k fun KK5 hK5 => ?_
  refine awake10_r4 hk0 hk1 f0 hroom f1 f2 f3 f4 f5 f6 f7 f8 f9 f10 f12 b1 b2 H aa nn ss2 ss3 ?_
  clear H nn
  intro aa ww nn dd1 kp ss5 H
  replace ss0 := (kp 0 rfl).trans ss0
  replace ss1 := (kp 1 rfl).trans ss1
  replace ss2 := (kp 2 rfl).trans ss2
  replace ss3 := (kp 3 rfl).trans ss3
  replace dd := dd1.trans dd
  clear dd1 kp
  refine then_normal ?_
  refine hK5 _ _ ?_
  refine wp_seq_k fun KK6 hK6 => ?_
  refine awake10_r5 hk0 hk1 f0 hroom f1 f2 f3 f4 f5 f6 f7 f8 f9 f10 f12 b1 b2 H aa nn ss2 ss3 ?_
  clear H nn
  intro aa ww nn dd1 kp ss7 H
  replace ss0 := (kp 0 rfl).trans ss0
  replace ss1 := (kp 1 rfl).trans ss1
  replace ss2 := (kp 2 rfl).trans ss2
  replace ss3 := (kp 3 rfl).trans ss3
  replace ss5 := (kp 5 rfl).trans ss5
  replace dd := dd1.trans dd
  clear dd1 kp
  refine then_normal ?_
  refine hK6 _ _ ?_
  refine wp_seq_k fun KK7 hK7 => ?_
  refine awake10_r6 hk0 hk1 f0 hroom f1 f2 f3 f4 f5 f6 f7 f8 f9 f10 f12 b1 b2 H aa nn ss2 ss3 ?_
  clear H nn
  intro a6_2 c6_2 b8 aa ww nn dd1 kp ss8 ss9 H
  replace ss0 := (kp 0 rfl).trans ss0
  replace ss1 := (kp 1 rfl).trans ss1
  replace ss2 := (kp 2 rfl).trans ss2
  replace ss3 := (kp 3 rfl).trans ss3
  replace ss5 := (kp 5 rfl).trans ss5
  replace ss7 := (kp 7 rfl).trans ss7
  replace dd := dd1.trans dd
  clear dd1 kp
  refine then_normal ?_
  refine hK7 _ _ ?_
  refine wp_seq_k fun KK8 hK8 => ?_
  refine awake10_r7 hk0 hk1 f0 hroom f1 f2 f3 f4 f5 f6 f7 f8 f9 f10 f12 b1 b2 a6_2 c6_2 b8 H aa nn ss3 ss8 ?_
  clear H nn
  intro aa ww nn dd1 kp ss10 ss11 H
  replace ss0 := (kp 0 rfl).trans ss0
  replace ss1 := (kp 1 rfl).trans ss1
  replace ss2 := (kp 2 rfl).trans ss2
  replace ss3 := (kp 3 rfl).trans ss3
  replace ss5 := (kp 5 rfl).trans ss5
  replace ss7 := (kp 7 rfl).trans ss7
  replace ss8 := (kp 8 rfl).trans ss8
  replace ss9 := (kp 9 rfl).trans ss9
  replace dd := dd1.trans dd
  clear dd1 kp
  refine then_normal ?_
  refine hK8 _ _ ?_
  refine wp_seq_k fun KK9 hK9 => ?_
  refine awake10_r8 hk0 hk1 f0 hroom f1 f2 f3 f4 f5 f6 f7 f8 f9 f10 f12 b1 b2 a6_2 c6_2 b8 H aa nn ss3 ss8 ?_
  clear H nn
  intro aa ww nn dd1 kp ss13 H
  replace ss0 := (kp 0 rfl).trans ss0
  replace ss1 := (kp 1 rfl).trans ss1
  replace ss2 := (kp 2 rfl).trans ss2
  replace ss3 := (kp 3 rfl).trans ss3
  replace ss5 := (kp 5 rfl).trans ss5
  replace ss7 := (kp 7 rfl).trans ss7
  replace ss8 := (kp 8 rfl).trans ss8
  replace ss9 := (kp 9 rfl).trans ss9
  replace ss10 := (kp 10 rfl).trans ss10
  replace ss11 := (kp 11 rfl).trans ss11
  replace dd := dd1.trans dd
  clear dd1 kp
  refine then_normal ?_
  refine hK9 _ _ ?_
  refine wp_seq_k fun KK10 hK10 => ?_
  refine awake10_r9 hk0 hk1 f0 hroom f1 f2 f3 f4 f5 f6 f7 f8 f9 f10 f12 b1 b2 a6_2 c6_2 b8 H aa nn ss3 ss8 ?_
  clear H nn
  intro aa ww nn dd1 kp ss15 H
  replace ss0 := (kp 0 rfl).trans ss0
  replace ss1 := (kp 1 rfl).trans ss1
  replace ss2 := (kp 2 rfl).trans ss2
  replace ss3 := (kp 3 rfl).trans ss3
  replace ss5 := (kp 5 rfl).trans ss5
  replace ss7 := (kp 7 rfl).trans ss7
  replace ss8 := (kp 8 rfl).trans ss8
  replace ss9 := (kp 9 rfl).trans ss9
  replace ss10 := (kp 10 rfl).trans ss10
  replace ss11 := (kp 11 rfl).trans ss11
  replace ss13 := (kp 13 rfl).trans ss13
  replace dd := dd1.trans dd
  clear dd1 kp
  refine then_normal ?_
  refine hK10 _ _ ?_
  refine wp_seq_k fun KK11 hK11 => ?_
  refine awake10_r10 hk0 hk1 f0 hroom f1 f2 f3 f4 f5 f6 f7 f8 f9 f10 f12 b1 b2 a6_2 c6_2 b8 H aa nn ss3 ss8 ?_
  clear H nn
  intro aa ww nn dd1 kp ss17 H
  replace ss0 := (kp 0 rfl).trans ss0
  replace ss1 := (kp 1 rfl).trans ss1
  replace ss2 := (kp 2 rfl).trans ss2
  replace ss3 := (kp 3 rfl).trans ss3
  replace ss5 := (kp 5 rfl).trans ss5
  replace ss7 := (kp 7 rfl).trans ss7
  replace ss8 := (kp 8 rfl).trans ss8
  replace ss9 := (kp 9 rfl).trans ss9
  replace ss10 := (kp 10 rfl).trans ss10
  replace ss11 := (kp 11 rfl).trans ss11
  replace ss13 := (kp 13 rfl).trans ss13
  replace ss15 := (kp 15 rfl).trans ss15
  replace dd := dd1.trans dd
  clear dd1 kp
  refine then_normal ?_
  refine hK11 _ _ ?_
  refine wp_seq_k fun KK12 hK12 => ?_
  refine awake10_r11 hk0 hk1 f0 hroom f1 f2 f3 f4 f5 f6 f7 f8 f9 f10 f12 b1 b2 a6_2 c6_2 b8 H aa nn ss1 ss3 ss5 ss7 ss8 ss9 ss10 ss11 ss13 ss15 ss17 ?_
  clear H nn ss0
  intro aa ww nn dd1 kp ss0 H
  replace ss1 := (kp 1 rfl).trans ss1
  replace ss2 := (kp 2 rfl).trans ss2
  replace ss3 := (kp 3 rfl).trans ss3
  replace ss5 := (kp 5 rfl).trans ss5
  replace ss7 := (kp 7 rfl).trans ss7
  replace ss8 := (kp 8 rfl).trans ss8
  replace ss9 := (kp 9 rfl).trans ss9
  replace ss10 := (kp 10 rfl).trans ss10
  replace ss11 := (kp 11 rfl).trans ss11
  replace ss13 := (kp 13 rfl).trans ss13
  replace ss15 := (kp 15 rfl).trans ss15
  replace ss17 := (kp 17 rfl).trans ss17
  replace dd := dd1.trans dd
  clear dd1 kp
  refine then_normal ?_
  refine hK12 _ _ ?_
  refine wp_ret ?_
  exact ret1 rfl dd ss0 ⟨rfl, H.out.off⟩
end Go.Proofs.Ytfhhfmkfkoemjaa.Se6
