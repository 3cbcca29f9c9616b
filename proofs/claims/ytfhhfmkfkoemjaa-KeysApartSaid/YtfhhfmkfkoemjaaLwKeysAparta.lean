/- What somebody else asks changes nothing of mine: the walk. -/
import Derived.Test.YtfhhfmkfkoemjaaProg
import Derived.Below
import Derived.WalkKit
import Derived.KernelRfl
import Derived.RowKit3
import Derived.Deep.LoopGhost
import Derived.Deep.QuietTactic
import Derived.BigQuiet
import Derived.WideLaws
import Derived.Deep.DeepCutAuto
import Derived.Deep.CutBlock
import Derived.Lib.Hide
import Derived.Laws.BitsLemmas
import Derived.Laws.Bits64
import Derived.Laws.BitsAllLaws
import Derived.IntWalk
import Derived.Outline
import Derived.WalkSpells
import Derived.Test.YtfhhfmkfkoemjaaMem
import Derived.Test.YtfhhfmkfkoemjaaKyO
namespace Go.Proofs.Ytfhhfmkfkoemjaa.Se6
open Go.RowKit Go.Proofs.Ytfhhfmkfkoemjaa.Mem Go.Proofs.Ytfhhfmkfkoemjaa.Reg Go.Proofs.Ytfhhfmkfkoemjaa.Pk Go.Proofs.Ytfhhfmkfkoemjaa.Si
set_option linter.unusedVariables false
set_option linter.unusedSimpArgs false

set_option maxRecDepth 20000 in
theorem apart_w_r0 (c : Cfg) (ra : Option Addr) (rc : Nat) (acts : List ActK) (u : ActK) (v : ActK) (hu0 : 0 ≤ u.key) (hu1 : u.key ≤ 18446744073709551615) (hv0 : 0 ≤ v.key) (hv1 : v.key ≤ 18446744073709551615) {wa wb : World} (H : Hid (Hp [] wa wb [rS none 0 4 (([] : List PairV).map rowOf), rS ra rc 5 (acts.map actRow)])) (ac0 : Act) (hz : ac0.tmps.size = 157) (so0 : ac0.eval (.tmp 0) = .agg (cA c)) (so2 : ac0.eval (.tmp 2) = .agg #[.int .i64 u.kind, .int .i64 u.now, .int .i64 u.who, .int .u64 u.key, .string u.body]) (so3 : ac0.eval (.tmp 3) = .agg #[.int .i64 v.kind, .int .i64 v.now, .int .i64 v.who, .int .u64 v.key, .string v.body]) {QR : Exit → Act → World → Prop} (hfin : ∀ (b4 : Nat) (b6 : Nat) (b7 : Nat) (ac1 : Act) (wz : World), ac1.tmps.size = 157 → ac1.defers = ac0.defers → (∀ t, ([4, 6, 7, 8] : List Nat).contains t = false → ac1.eval (.tmp t) = ac0.eval (.tmp t)) → ac1.eval (.tmp 4) = .pointer (some ⟨b4, 0, none⟩) → ac1.eval (.tmp 6) = .pointer (some ⟨b6, 0, none⟩) → ac1.eval (.tmp 7) = .pointer (some ⟨b7, 0, none⟩) → ac1.eval (.tmp 8) = .bool false →  Hid (Hp [] wa wz [rB b7 87 [.int .i64 v.kind, .int .i64 v.now, .int .i64 v.who, .int .u64 v.key, .string v.body], rB b6 87 [.int .i64 u.kind, .int .i64 u.now, .int .i64 u.who, .int .u64 u.key, .string u.body], rB b4 24 (cL c), rS none 0 4 (([] : List PairV).map rowOf), rS ra rc 5 (acts.map actRow)]) → QR .normal ac1 wz) : (regAt Try.f11 0).wp Try.prog QR ac0 wb := by
  refine wp_region_sq (by kernel_rfl) 157 hz (by kernel_rfl) (fun (xx : Nat × Nat × Nat) jx => match xx with | (b4, b6, b7) => nth [.pointer (some ⟨b4, 0, none⟩), .pointer (some ⟨b6, 0, none⟩), .pointer (some ⟨b7, 0, none⟩), .bool false] jx) (fun (LL : Nat → Bool) (xx : Nat × Nat × Nat) ww => match xx with | (b4, b6, b7) => Hp [] wa ww (bif LL 2 then [rB b7 87 [.int .i64 v.kind, .int .i64 v.now, .int .i64 v.who, .int .u64 v.key, .string v.body], rB b6 87 [.int .i64 u.kind, .int .i64 u.now, .int .i64 u.who, .int .u64 u.key, .string u.body], rB b4 24 (cL c), rS none 0 4 (([] : List PairV).map rowOf), rS ra rc 5 (acts.map actRow)] else (bif LL 1 then [rB b6 87 [.int .i64 u.kind, .int .i64 u.now, .int .i64 u.who, .int .u64 u.key, .string u.body], rB b4 24 (cL c), rS none 0 4 (([] : List PairV).map rowOf), rS ra rc 5 (acts.map actRow)] else (bif LL 0 then [rB b4 24 (cL c), rS none 0 4 (([] : List PairV).map rowOf), rS ra rc 5 (acts.map actRow)] else [rS none 0 4 (([] : List PairV).map rowOf), rS ra rc 5 (acts.map actRow)])))) (default, default, default) H.out ?_ (steps_al ?_) ?_ ?_
  · intro L1 L2 xx ww hL sg
    have lh0 := hL 0 (by decide)
    have lh1 := hL 1 (by decide)
    have lh2 := hL 2 (by decide)
    simp only [lh0, lh1, lh2] at sg
    exact sg
  · refine al_cons ?_ (al_cons ?_ (al_cons ?_ (al_cons ?_ (al_nil))))
    · intro LL xx ac wc sg hst hwant QQ hgo
      obtain ⟨_, b6, b7⟩ := xx
      have H := Lib.hid hst
      simp only [sg.self, sg.des 1 rfl, sg.des 2 rfl, cond_true, cond_false] at H
      refine hp_box rfl 24 _ rfl _ ((sg.free 0 (by kernel_rfl)).trans so0) _ (by rfl) H ?_
      intro wd b4 H2
      exact hgo _ (b4, b6, b7) _ (sg.agree (x' := (b4, b6, b7)) (n := 4) rfl (by (iterate 4 (refine ix_cons (by first | exact fun _ => rfl | exact no sg.self | exact no (sg.des _ rfl)) ?_)); exact ix_nil)) rfl (by simp only [(show upd LL 0 0 = true from rfl), (show upd LL 0 1 = LL 1 from rfl), sg.des 1 rfl, (show upd LL 0 2 = LL 2 from rfl), sg.des 2 rfl, cond_true, cond_false]; exact H2.out)
    · intro LL xx ac wc sg hst hwant QQ hgo
      obtain ⟨b4, _, b7⟩ := xx
      have H := Lib.hid hst
      simp only [sg.anc 0 rfl, sg.self, sg.des 2 rfl, cond_true, cond_false] at H
      refine hp_box rfl 87 _ rfl _ ((sg.free 2 (by kernel_rfl)).trans so2) _ (by rfl) H ?_
      intro wd b6 H2
      exact hgo _ (b4, b6, b7) _ (sg.agree (x' := (b4, b6, b7)) (n := 4) rfl (by (iterate 4 (refine ix_cons (by first | exact fun _ => rfl | exact no sg.self | exact no (sg.des _ rfl)) ?_)); exact ix_nil)) rfl (by simp only [(show upd LL 1 0 = LL 0 from rfl), sg.anc 0 rfl, (show upd LL 1 1 = true from rfl), (show upd LL 1 2 = LL 2 from rfl), sg.des 2 rfl, cond_true, cond_false]; exact H2.out)
    · intro LL xx ac wc sg hst hwant QQ hgo
      obtain ⟨b4, b6, _⟩ := xx
      have H := Lib.hid hst
      simp only [sg.anc 0 rfl, sg.anc 1 rfl, sg.self, cond_true, cond_false] at H
      refine hp_box rfl 87 _ rfl _ ((sg.free 3 (by kernel_rfl)).trans so3) _ (by rfl) H ?_
      intro wd b7 H2
      exact hgo _ (b4, b6, b7) _ (sg.agree (x' := (b4, b6, b7)) (n := 4) rfl (by (iterate 4 (refine ix_cons (by first | exact fun _ => rfl | exact no sg.self | exact no (sg.des _ rfl)) ?_)); exact ix_nil)) rfl (by simp only [(show upd LL 2 0 = LL 0 from rfl), sg.anc 0 rfl, (show upd LL 2 1 = LL 1 from rfl), sg.anc 1 rfl, (show upd LL 2 2 = true from rfl), cond_true, cond_false]; exact H2.out)
    · intro LL xx ac wc sg hst hwant QQ hgo
      obtain ⟨b4, b6, b7⟩ := xx
      exact op_val hwant hgo hst _ (exec_assign rfl rfl) rfl
  · exact skips [] (by kernel_rfl) (fun _ h => by cases h)
  · intro xx ac1 wz hfr hsl hst
    obtain ⟨b4, b6, b7⟩ := xx
    exact hfin b4 b6 b7 ac1 wz (hfr.size.trans hz) hfr.defers (fr_keep hfr [4, 6, 7, 8] (by kernel_rfl)) (hsl 0 (by decide)) (hsl 1 (by decide)) (hsl 2 (by decide)) (hsl 3 (by decide)) (Lib.hid hst)
set_option maxRecDepth 20000 in
theorem apart_w_r1 (c : Cfg) (ra : Option Addr) (rc : Nat) (acts : List ActK) (u : ActK) (v : ActK) (hu0 : 0 ≤ u.key) (hu1 : u.key ≤ 18446744073709551615) (hv0 : 0 ≤ v.key) (hv1 : v.key ≤ 18446744073709551615) (b4 : Nat) (b6 : Nat) (b7 : Nat) {wa wb : World} (H : Hid (Hp [] wa wb [rB b7 87 [.int .i64 v.kind, .int .i64 v.now, .int .i64 v.who, .int .u64 v.key, .string v.body], rB b6 87 [.int .i64 u.kind, .int .i64 u.now, .int .i64 u.who, .int .u64 u.key, .string u.body], rB b4 24 (cL c), rS none 0 4 (([] : List PairV).map rowOf), rS ra rc 5 (acts.map actRow)])) (ac0 : Act) (hz : ac0.tmps.size = 157)  {QR : Exit → Act → World → Prop} (hfin : ∀ (ac1 : Act) (wz : World), ac1.tmps.size = 157 → ac1.defers = ac0.defers → (∀ t, ([20, 21] : List Nat).contains t = false → ac1.eval (.tmp t) = ac0.eval (.tmp t)) → ac1.eval (.tmp 21) = .bool false →  Hid (Hp [] wa wz [rB b7 87 [.int .i64 v.kind, .int .i64 v.now, .int .i64 v.who, .int .u64 v.key, .string v.body], rB b6 87 [.int .i64 u.kind, .int .i64 u.now, .int .i64 u.who, .int .u64 u.key, .string u.body], rB b4 24 (cL c), rS none 0 4 (([] : List PairV).map rowOf), rS ra rc 5 (acts.map actRow)]) → QR .normal ac1 wz) : (regAt Try.f11 1).wp Try.prog QR ac0 wb := by
  refine wp_region_sq (by kernel_rfl) 157 hz (by kernel_rfl) (fun (xx : Unit) jx => nth [.bool true, .bool false] jx) (fun (LL : Nat → Bool) (xx : Unit) ww => Hp [] wa ww [rB b7 87 [.int .i64 v.kind, .int .i64 v.now, .int .i64 v.who, .int .u64 v.key, .string v.body], rB b6 87 [.int .i64 u.kind, .int .i64 u.now, .int .i64 u.who, .int .u64 u.key, .string u.body], rB b4 24 (cL c), rS none 0 4 (([] : List PairV).map rowOf), rS ra rc 5 (acts.map actRow)]) () H.out ?_ (steps_al ?_) ?_ ?_
  · exact fun _ _ _ _ _ h => h
  · refine al_cons ?_ (al_cons ?_ (al_nil))
    · intro LL xx ac wc sg hst hwant QQ hgo
      refine op_call hwant hgo 44 _ (by simp only [execOp]; go_simp) (awake10 wc) ?_
      rintro er wd ⟨rfl, hof⟩
      exact ⟨_, (), rfl, fun _ _ => rfl, rfl, Hp.quiet hst hof⟩
    · intro LL xx ac wc sg hst hwant QQ hgo
      have se20 : ac.eval (.tmp 20) = _ := (sg.slot 0 (sg.anc 0 rfl))
      have sg20 := gt_of se20
      (try simp only [nth] at se20 sg20)
      exact op_val hwant hgo hst _ (by simp only [execOp, nth]; go_simp <;> omega) rfl
  · exact skips [] (by kernel_rfl) (fun _ h => by cases h)
  · intro xx ac1 wz hfr hsl hst
    exact hfin ac1 wz (hfr.size.trans hz) hfr.defers (fr_keep hfr [20, 21] (by kernel_rfl)) (hsl 1 (by decide)) (Lib.hid hst)
set_option maxRecDepth 20000 in
theorem apart_w_r3 (c : Cfg) (ra : Option Addr) (rc : Nat) (acts : List ActK) (u : ActK) (v : ActK) (hu0 : 0 ≤ u.key) (hu1 : u.key ≤ 18446744073709551615) (hv0 : 0 ≤ v.key) (hv1 : v.key ≤ 18446744073709551615) (b4 : Nat) (b6 : Nat) (b7 : Nat) {wa wb : World} (H : Hid (Hp [] wa wb [rB b7 87 [.int .i64 v.kind, .int .i64 v.now, .int .i64 v.who, .int .u64 v.key, .string v.body], rB b6 87 [.int .i64 u.kind, .int .i64 u.now, .int .i64 u.who, .int .u64 u.key, .string u.body], rB b4 24 (cL c), rS none 0 4 (([] : List PairV).map rowOf), rS ra rc 5 (acts.map actRow)])) (ac0 : Act) (hz : ac0.tmps.size = 157) (so1 : ac0.eval (.tmp 1) = .slice ra acts.length rc) {QR : Exit → Act → World → Prop} (hfin : ∀ (ac1 : Act) (wz : World), ac1.tmps.size = 157 → ac1.defers = ac0.defers → (∀ t, ([22, 23, 24] : List Nat).contains t = false → ac1.eval (.tmp t) = ac0.eval (.tmp t)) → ac1.eval (.tmp 24) = .bool (decide (60 < (acts.length : Int))) →  Hid (Hp [] wa wz [rB b7 87 [.int .i64 v.kind, .int .i64 v.now, .int .i64 v.who, .int .u64 v.key, .string v.body], rB b6 87 [.int .i64 u.kind, .int .i64 u.now, .int .i64 u.who, .int .u64 u.key, .string u.body], rB b4 24 (cL c), rS none 0 4 (([] : List PairV).map rowOf), rS ra rc 5 (acts.map actRow)]) → QR .normal ac1 wz) : (regAt Try.f11 3).wp Try.prog QR ac0 wb := by
  refine wp_region_sq (by kernel_rfl) 157 hz (by kernel_rfl) (fun (xx : Unit) jx => nth [.slice ra acts.length rc, .int .i64 acts.length, .bool (decide (60 < (acts.length : Int)))] jx) (fun (LL : Nat → Bool) (xx : Unit) ww => Hp [] wa ww [rB b7 87 [.int .i64 v.kind, .int .i64 v.now, .int .i64 v.who, .int .u64 v.key, .string v.body], rB b6 87 [.int .i64 u.kind, .int .i64 u.now, .int .i64 u.who, .int .u64 u.key, .string u.body], rB b4 24 (cL c), rS none 0 4 (([] : List PairV).map rowOf), rS ra rc 5 (acts.map actRow)]) () H.out ?_ (steps_al ?_) ?_ ?_
  · exact fun _ _ _ _ _ h => h
  · refine al_cons ?_ (al_cons ?_ (al_cons ?_ (al_nil)))
    · intro LL xx ac wc sg hst hwant QQ hgo
      exact op_val hwant hgo hst _ (exec_move rfl ((sg.free 1 (by kernel_rfl)).trans so1)) rfl
    · intro LL xx ac wc sg hst hwant QQ hgo
      have se22 : ac.eval (.tmp 22) = _ := (sg.slot 0 (sg.anc 0 rfl))
      have sg22 := gt_of se22
      (try simp only [nth] at se22 sg22)
      exact op_val hwant hgo hst _ (by simp only [execOp, nth]; go_simp <;> omega) rfl
    · intro LL xx ac wc sg hst hwant QQ hgo
      have se23 : ac.eval (.tmp 23) = _ := (sg.slot 1 (sg.anc 1 rfl))
      have sg23 := gt_of se23
      (try simp only [nth] at se23 sg23)
      exact op_val hwant hgo hst _ (by simp only [execOp, nth]; go_simp <;> omega) rfl
  · exact skips [] (by kernel_rfl) (fun _ h => by cases h)
  · intro xx ac1 wz hfr hsl hst
    exact hfin ac1 wz (hfr.size.trans hz) hfr.defers (fr_keep hfr [22, 23, 24] (by kernel_rfl)) (hsl 2 (by decide)) (Lib.hid hst)
set_option maxRecDepth 20000 in
theorem apart_w_r4 (c : Cfg) (ra : Option Addr) (rc : Nat) (acts : List ActK) (u : ActK) (v : ActK) (hu0 : 0 ≤ u.key) (hu1 : u.key ≤ 18446744073709551615) (hv0 : 0 ≤ v.key) (hv1 : v.key ≤ 18446744073709551615) (b4 : Nat) (b6 : Nat) (b7 : Nat) (z1d : 60 < (acts.length : Int)) {wa wb : World} (H : Hid (Hp [] wa wb [rB b7 87 [.int .i64 v.kind, .int .i64 v.now, .int .i64 v.who, .int .u64 v.key, .string v.body], rB b6 87 [.int .i64 u.kind, .int .i64 u.now, .int .i64 u.who, .int .u64 u.key, .string u.body], rB b4 24 (cL c), rS none 0 4 (([] : List PairV).map rowOf), rS ra rc 5 (acts.map actRow)])) (ac0 : Act) (hz : ac0.tmps.size = 157)  {QR : Exit → Act → World → Prop} (hfin : ∀ (ac1 : Act) (wz : World), ac1.tmps.size = 157 → ac1.defers = ac0.defers → (∀ t, ([8] : List Nat).contains t = false → ac1.eval (.tmp t) = ac0.eval (.tmp t)) → ac1.eval (.tmp 8) = .bool true →  Hid (Hp [] wa wz [rB b7 87 [.int .i64 v.kind, .int .i64 v.now, .int .i64 v.who, .int .u64 v.key, .string v.body], rB b6 87 [.int .i64 u.kind, .int .i64 u.now, .int .i64 u.who, .int .u64 u.key, .string u.body], rB b4 24 (cL c), rS none 0 4 (([] : List PairV).map rowOf), rS ra rc 5 (acts.map actRow)]) → QR .normal ac1 wz) : (regAt Try.f11 4).wp Try.prog QR ac0 wb := by
  refine wp_region_sq (by kernel_rfl) 157 hz (by kernel_rfl) (fun (xx : Unit) jx => nth [.bool true] jx) (fun (LL : Nat → Bool) (xx : Unit) ww => Hp [] wa ww [rB b7 87 [.int .i64 v.kind, .int .i64 v.now, .int .i64 v.who, .int .u64 v.key, .string v.body], rB b6 87 [.int .i64 u.kind, .int .i64 u.now, .int .i64 u.who, .int .u64 u.key, .string u.body], rB b4 24 (cL c), rS none 0 4 (([] : List PairV).map rowOf), rS ra rc 5 (acts.map actRow)]) () H.out ?_ (steps_al ?_) ?_ ?_
  · exact fun _ _ _ _ _ h => h
  · refine al_cons ?_ (al_nil)
    · intro LL xx ac wc sg hst hwant QQ hgo
      exact op_val hwant hgo hst _ (exec_assign rfl rfl) rfl
  · exact skips [] (by kernel_rfl) (fun _ h => by cases h)
  · intro xx ac1 wz hfr hsl hst
    exact hfin ac1 wz (hfr.size.trans hz) hfr.defers (fr_keep hfr [8] (by kernel_rfl)) (hsl 0 (by decide)) (Lib.hid hst)
set_option maxRecDepth 20000 in
theorem apart_w_r5 (c : Cfg) (ra : Option Addr) (rc : Nat) (acts : List ActK) (u : ActK) (v : ActK) (hu0 : 0 ≤ u.key) (hu1 : u.key ≤ 18446744073709551615) (hv0 : 0 ≤ v.key) (hv1 : v.key ≤ 18446744073709551615) (b4 : Nat) (b6 : Nat) (b7 : Nat) (z1d : ¬ (60 < (acts.length : Int))) {wa wb : World} (H : Hid (Hp [] wa wb [rB b7 87 [.int .i64 v.kind, .int .i64 v.now, .int .i64 v.who, .int .u64 v.key, .string v.body], rB b6 87 [.int .i64 u.kind, .int .i64 u.now, .int .i64 u.who, .int .u64 u.key, .string u.body], rB b4 24 (cL c), rS none 0 4 (([] : List PairV).map rowOf), rS ra rc 5 (acts.map actRow)])) (ac0 : Act) (hz : ac0.tmps.size = 157) (so4 : ac0.eval (.tmp 4) = .pointer (some ⟨b4, 0, none⟩)) {QR : Exit → Act → World → Prop} (hfin : ∀ (b9 : Nat) (ac1 : Act) (wz : World), ac1.tmps.size = 157 → ac1.defers = ac0.defers → (∀ t, ([9, 25, 26] : List Nat).contains t = false → ac1.eval (.tmp t) = ac0.eval (.tmp t)) → ac1.eval (.tmp 9) = .pointer (some ⟨b9, 0, none⟩) →  Hid (Hp [] wa wz [rB b9 84 (kL (mkC c) (mkR c) (.slice none (([] : List PairV).length) 0)), rB b7 87 [.int .i64 v.kind, .int .i64 v.now, .int .i64 v.who, .int .u64 v.key, .string v.body], rB b6 87 [.int .i64 u.kind, .int .i64 u.now, .int .i64 u.who, .int .u64 u.key, .string u.body], rB b4 24 (cL c), rS none 0 4 (([] : List PairV).map rowOf), rS ra rc 5 (acts.map actRow)]) → QR .normal ac1 wz) : (regAt Try.f11 5).wp Try.prog QR ac0 wb := by
  refine wp_region_sq (by kernel_rfl) 157 hz (by kernel_rfl) (fun (xx : Nat) jx => match xx with | b9 => nth [.agg (cA c), .agg (kA (mkC c) (mkR c) (.slice none (([] : List PairV).length) 0)), .pointer (some ⟨b9, 0, none⟩), undef] jx) (fun (LL : Nat → Bool) (xx : Nat) ww => match xx with | b9 => Hp [] wa ww (bif LL 3 then [rB b9 84 (kL (mkC c) (mkR c) (.slice none (([] : List PairV).length) 0)), rB b7 87 [.int .i64 v.kind, .int .i64 v.now, .int .i64 v.who, .int .u64 v.key, .string v.body], rB b6 87 [.int .i64 u.kind, .int .i64 u.now, .int .i64 u.who, .int .u64 u.key, .string u.body], rB b4 24 (cL c), rS none 0 4 (([] : List PairV).map rowOf), rS ra rc 5 (acts.map actRow)] else (bif LL 2 then [rB b9 84 [.int .i64 0, .int .i64 0, .int .i64 0, .int .i64 0, .int .i64 0, .int .i64 0, .int .i64 0, .int .i64 0, .int .i64 0, .int .i64 0, .int .i64 0, .int .i64 0, .int .i64 0, .int .i64 0, .int .i64 0, .int .i64 0, .int .i64 0, .int .u32 0, .int .i64 0, .slice none 0 0], rB b7 87 [.int .i64 v.kind, .int .i64 v.now, .int .i64 v.who, .int .u64 v.key, .string v.body], rB b6 87 [.int .i64 u.kind, .int .i64 u.now, .int .i64 u.who, .int .u64 u.key, .string u.body], rB b4 24 (cL c), rS none 0 4 (([] : List PairV).map rowOf), rS ra rc 5 (acts.map actRow)] else [rB b7 87 [.int .i64 v.kind, .int .i64 v.now, .int .i64 v.who, .int .u64 v.key, .string v.body], rB b6 87 [.int .i64 u.kind, .int .i64 u.now, .int .i64 u.who, .int .u64 u.key, .string u.body], rB b4 24 (cL c), rS none 0 4 (([] : List PairV).map rowOf), rS ra rc 5 (acts.map actRow)]))) default H.out ?_ (steps_al ?_) ?_ ?_
  · intro L1 L2 xx ww hL sg
    have lh2 := hL 2 (by decide)
    have lh3 := hL 3 (by decide)
    simp only [lh2, lh3] at sg
    exact sg
  · refine al_cons ?_ (al_cons ?_ (al_cons ?_ (al_cons ?_ (al_nil))))
    · intro LL xx ac wc sg hst hwant QQ hgo
      revert sg hst hgo; revert xx; intro b9 sg hst hgo
      have H := Lib.hid hst
      simp only [sg.des 2 rfl, sg.des 3 rfl, cond_true, cond_false] at H
      refine hpA_load tyapi_Config H rfl ((sg.free 4 (by kernel_rfl)).trans so4) hwant (by (repeat (first | exact List.Mem.head _ | apply List.Mem.tail))) (by rfl) rfl ?_
      exact hgo _ b9 _ (fun _ _ => rfl) rfl hst
    · intro LL xx ac wc sg hst hwant QQ hgo
      revert sg hst hgo; revert xx; intro b9 sg hst hgo
      have se25 : ac.eval (.tmp 25) = _ := (sg.slot 0 (sg.anc 0 rfl))
      have sg25 := gt_of se25
      (try simp only [nth] at se25 sg25)
      refine op_call hwant hgo 47 _ (by simp only [execOp]; go_simp) (makeC c wc) ?_
      rintro er wd ⟨rfl, hof⟩
      exact ⟨_, b9, rfl, fun _ _ => rfl, rfl, Hp.quiet hst hof⟩
    · intro LL xx ac wc sg hst hwant QQ hgo
      revert sg hst hgo; revert xx; intro xold sg hst hgo
      have H := Lib.hid hst
      simp only [sg.self, sg.des 3 rfl, cond_true, cond_false] at H
      refine hpA_alloc tykeys_Keys H rfl rfl ?_
      intro wd b9 H2
      exact hgo _ b9 _ (sg.agree (x' := b9) (n := 4) rfl (by (iterate 4 (refine ix_cons (by first | exact fun _ => rfl | exact no sg.self | exact no (sg.des _ rfl)) ?_)); exact ix_nil)) rfl (by simp only [(show upd LL 2 2 = true from rfl), (show upd LL 2 3 = LL 3 from rfl), sg.des 3 rfl, cond_true, cond_false]; exact H2.out)
    · intro LL xx ac wc sg hst hwant QQ hgo
      revert sg hst hgo; revert xx; intro b9 sg hst hgo
      have H := Lib.hid hst
      simp only [sg.anc 2 rfl, sg.self, cond_true, cond_false] at H
      refine hpA_store tykeys_Keys H rfl rfl (sg.slot 2 (sg.anc 2 rfl)) (sg.slot 1 (sg.anc 1 rfl)) rfl (by repeat (first | apply Put.head | apply Put.tail)) (by simp [kA, kL, rkA, rkL, cA, cL]) (by simp [kA, kL, rkA, rkL, cA, cL, Value.oneCell']) (by first | rfl | (simp only [spl]; rfl)) rfl ?_
      intro wd H2
      exact hgo _ b9 _ (sg.agree (x' := b9) (n := 4) rfl (by (iterate 4 (refine ix_cons (by first | exact fun _ => rfl | exact no sg.self | exact no (sg.des _ rfl)) ?_)); exact ix_nil)) rfl (by simp only [(show upd LL 3 2 = LL 2 from rfl), sg.anc 2 rfl, (show upd LL 3 3 = true from rfl), cond_true, cond_false]; exact H2.out)
  · exact skips [] (by kernel_rfl) (fun _ h => by cases h)
  · intro xx ac1 wz hfr hsl hst
    revert hsl hst; revert xx; intro b9 hsl hst
    exact hfin b9 ac1 wz (hfr.size.trans hz) hfr.defers (fr_keep hfr [9, 25, 26] (by kernel_rfl)) (hsl 2 (by decide)) (Lib.hid hst)
set_option maxRecDepth 20000 in
theorem apart_w_r6 (c : Cfg) (ra : Option Addr) (rc : Nat) (acts : List ActK) (u : ActK) (v : ActK) (hu0 : 0 ≤ u.key) (hu1 : u.key ≤ 18446744073709551615) (hv0 : 0 ≤ v.key) (hv1 : v.key ≤ 18446744073709551615) (b4 : Nat) (b6 : Nat) (b7 : Nat) (z1d : ¬ (60 < (acts.length : Int))) (b9 : Nat) {wa wb : World} (H : Hid (Hp [] wa wb [rB b9 84 (kL (mkC c) (mkR c) (.slice none (([] : List PairV).length) 0)), rB b7 87 [.int .i64 v.kind, .int .i64 v.now, .int .i64 v.who, .int .u64 v.key, .string v.body], rB b6 87 [.int .i64 u.kind, .int .i64 u.now, .int .i64 u.who, .int .u64 u.key, .string u.body], rB b4 24 (cL c), rS none 0 4 (([] : List PairV).map rowOf), rS ra rc 5 (acts.map actRow)])) (ac0 : Act) (hz : ac0.tmps.size = 157)  {QR : Exit → Act → World → Prop} (hfin : ∀ (ac1 : Act) (wz : World), ac1.tmps.size = 157 → ac1.defers = ac0.defers → (∀ t, ([10] : List Nat).contains t = false → ac1.eval (.tmp t) = ac0.eval (.tmp t)) → ac1.eval (.tmp 10) = .int .i64 0 →  Hid (Hp [] wa wz [rB b9 84 (kL (mkC c) (mkR c) (.slice none (([] : List PairV).length) 0)), rB b7 87 [.int .i64 v.kind, .int .i64 v.now, .int .i64 v.who, .int .u64 v.key, .string v.body], rB b6 87 [.int .i64 u.kind, .int .i64 u.now, .int .i64 u.who, .int .u64 u.key, .string u.body], rB b4 24 (cL c), rS none 0 4 (([] : List PairV).map rowOf), rS ra rc 5 (acts.map actRow)]) → QR .normal ac1 wz) : (regAt Try.f11 6).wp Try.prog QR ac0 wb := by
  refine wp_region_sq (by kernel_rfl) 157 hz (by kernel_rfl) (fun (xx : Unit) jx => nth [.int .i64 0] jx) (fun (LL : Nat → Bool) (xx : Unit) ww => Hp [] wa ww [rB b9 84 (kL (mkC c) (mkR c) (.slice none (([] : List PairV).length) 0)), rB b7 87 [.int .i64 v.kind, .int .i64 v.now, .int .i64 v.who, .int .u64 v.key, .string v.body], rB b6 87 [.int .i64 u.kind, .int .i64 u.now, .int .i64 u.who, .int .u64 u.key, .string u.body], rB b4 24 (cL c), rS none 0 4 (([] : List PairV).map rowOf), rS ra rc 5 (acts.map actRow)]) () H.out ?_ (steps_al ?_) ?_ ?_
  · exact fun _ _ _ _ _ h => h
  · refine al_cons ?_ (al_nil)
    · intro LL xx ac wc sg hst hwant QQ hgo
      exact op_val hwant hgo hst _ (exec_assign rfl rfl) rfl
  · exact skips [] (by kernel_rfl) (fun _ h => by cases h)
  · intro xx ac1 wz hfr hsl hst
    exact hfin ac1 wz (hfr.size.trans hz) hfr.defers (fr_keep hfr [10] (by kernel_rfl)) (hsl 0 (by decide)) (Lib.hid hst)
set_option maxRecDepth 20000 in
theorem apart_w_r7 (c : Cfg) (ra : Option Addr) (rc : Nat) (acts : List ActK) (u : ActK) (v : ActK) (hu0 : 0 ≤ u.key) (hu1 : u.key ≤ 18446744073709551615) (hv0 : 0 ≤ v.key) (hv1 : v.key ≤ 18446744073709551615) (b4 : Nat) (b6 : Nat) (b7 : Nat) (z1d : ¬ (60 < (acts.length : Int))) (b9 : Nat) {wa wb : World} (H : Hid (Hp [] wa wb [rB b9 84 (kL (mkC c) (mkR c) (.slice none (([] : List PairV).length) 0)), rB b7 87 [.int .i64 v.kind, .int .i64 v.now, .int .i64 v.who, .int .u64 v.key, .string v.body], rB b6 87 [.int .i64 u.kind, .int .i64 u.now, .int .i64 u.who, .int .u64 u.key, .string u.body], rB b4 24 (cL c), rS none 0 4 (([] : List PairV).map rowOf), rS ra rc 5 (acts.map actRow)])) (ac0 : Act) (hz : ac0.tmps.size = 157)  {QR : Exit → Act → World → Prop} (hfin : ∀ (ac1 : Act) (wz : World), ac1.tmps.size = 157 → ac1.defers = ac0.defers → (∀ t, ([11] : List Nat).contains t = false → ac1.eval (.tmp t) = ac0.eval (.tmp t)) → ac1.eval (.tmp 11) = .int .i64 0 →  Hid (Hp [] wa wz [rB b9 84 (kL (mkC c) (mkR c) (.slice none (([] : List PairV).length) 0)), rB b7 87 [.int .i64 v.kind, .int .i64 v.now, .int .i64 v.who, .int .u64 v.key, .string v.body], rB b6 87 [.int .i64 u.kind, .int .i64 u.now, .int .i64 u.who, .int .u64 u.key, .string u.body], rB b4 24 (cL c), rS none 0 4 (([] : List PairV).map rowOf), rS ra rc 5 (acts.map actRow)]) → QR .normal ac1 wz) : (regAt Try.f11 7).wp Try.prog QR ac0 wb := by
  refine wp_region_sq (by kernel_rfl) 157 hz (by kernel_rfl) (fun (xx : Unit) jx => nth [.int .i64 0] jx) (fun (LL : Nat → Bool) (xx : Unit) ww => Hp [] wa ww [rB b9 84 (kL (mkC c) (mkR c) (.slice none (([] : List PairV).length) 0)), rB b7 87 [.int .i64 v.kind, .int .i64 v.now, .int .i64 v.who, .int .u64 v.key, .string v.body], rB b6 87 [.int .i64 u.kind, .int .i64 u.now, .int .i64 u.who, .int .u64 u.key, .string u.body], rB b4 24 (cL c), rS none 0 4 (([] : List PairV).map rowOf), rS ra rc 5 (acts.map actRow)]) () H.out ?_ (steps_al ?_) ?_ ?_
  · exact fun _ _ _ _ _ h => h
  · refine al_cons ?_ (al_nil)
    · intro LL xx ac wc sg hst hwant QQ hgo
      exact op_val hwant hgo hst _ (exec_assign rfl rfl) rfl
  · exact skips [] (by kernel_rfl) (fun _ h => by cases h)
  · intro xx ac1 wz hfr hsl hst
    exact hfin ac1 wz (hfr.size.trans hz) hfr.defers (fr_keep hfr [11] (by kernel_rfl)) (hsl 0 (by decide)) (Lib.hid hst)
set_option maxRecDepth 20000 in
theorem apart_w_r8 (c : Cfg) (ra : Option Addr) (rc : Nat) (acts : List ActK) (u : ActK) (v : ActK) (hu0 : 0 ≤ u.key) (hu1 : u.key ≤ 18446744073709551615) (hv0 : 0 ≤ v.key) (hv1 : v.key ≤ 18446744073709551615) (b4 : Nat) (b6 : Nat) (b7 : Nat) (z1d : ¬ (60 < (acts.length : Int))) (b9 : Nat) (i : Nat) (a : Option Addr) (cc : Nat) (ps : List PairV) (now : Int) (hi : i ≤ acts.length) (hl : ps.length ≤ i) (hn0 : 0 ≤ now) (hn1 : now ≤ 2 * i) {wa wb : World} (H : Hid (Hp [] wa wb [rB b9 84 (kL (mkC c) (mkR c) (.slice a ps.length cc)), rB b7 87 [.int .i64 v.kind, .int .i64 v.now, .int .i64 v.who, .int .u64 v.key, .string v.body], rB b6 87 [.int .i64 u.kind, .int .i64 u.now, .int .i64 u.who, .int .u64 u.key, .string u.body], rB b4 24 (cL c), rS a cc 4 (ps.map rowOf), rS ra rc 5 (acts.map actRow)])) (ac0 : Act) (hz : ac0.tmps.size = 157) (so1 : ac0.eval (.tmp 1) = .slice ra acts.length rc) (so11 : ac0.eval (.tmp 11) = .int .i64 i) {QR : Exit → Act → World → Prop} (hfin : ∀ (ac1 : Act) (wz : World), ac1.tmps.size = 157 → ac1.defers = ac0.defers → (∀ t, ([27, 28, 29, 30] : List Nat).contains t = false → ac1.eval (.tmp t) = ac0.eval (.tmp t)) → ac1.eval (.tmp 30) = .bool (decide (i < acts.length)) →  Hid (Hp [] wa wz [rB b9 84 (kL (mkC c) (mkR c) (.slice a ps.length cc)), rB b7 87 [.int .i64 v.kind, .int .i64 v.now, .int .i64 v.who, .int .u64 v.key, .string v.body], rB b6 87 [.int .i64 u.kind, .int .i64 u.now, .int .i64 u.who, .int .u64 u.key, .string u.body], rB b4 24 (cL c), rS a cc 4 (ps.map rowOf), rS ra rc 5 (acts.map actRow)]) → QR .normal ac1 wz) : (regAt Try.f11 8).wp Try.prog QR ac0 wb := by
  refine wp_region_sq (by kernel_rfl) 157 hz (by kernel_rfl) (fun (xx : Unit) jx => nth [.int .i64 i, .slice ra acts.length rc, .int .i64 acts.length, .bool (decide (i < acts.length))] jx) (fun (LL : Nat → Bool) (xx : Unit) ww => Hp [] wa ww [rB b9 84 (kL (mkC c) (mkR c) (.slice a ps.length cc)), rB b7 87 [.int .i64 v.kind, .int .i64 v.now, .int .i64 v.who, .int .u64 v.key, .string v.body], rB b6 87 [.int .i64 u.kind, .int .i64 u.now, .int .i64 u.who, .int .u64 u.key, .string u.body], rB b4 24 (cL c), rS a cc 4 (ps.map rowOf), rS ra rc 5 (acts.map actRow)]) () H.out ?_ (steps_al ?_) ?_ ?_
  · exact fun _ _ _ _ _ h => h
  · refine al_cons ?_ (al_cons ?_ (al_cons ?_ (al_cons ?_ (al_nil))))
    · intro LL xx ac wc sg hst hwant QQ hgo
      exact op_val hwant hgo hst _ (exec_move rfl ((sg.free 11 (by kernel_rfl)).trans so11)) rfl
    · intro LL xx ac wc sg hst hwant QQ hgo
      exact op_val hwant hgo hst _ (exec_move rfl ((sg.free 1 (by kernel_rfl)).trans so1)) rfl
    · intro LL xx ac wc sg hst hwant QQ hgo
      have se28 : ac.eval (.tmp 28) = _ := (sg.slot 1 (sg.anc 1 rfl))
      have sg28 := gt_of se28
      (try simp only [nth] at se28 sg28)
      exact op_val hwant hgo hst _ (by simp only [execOp, nth]; go_simp <;> omega) rfl
    · intro LL xx ac wc sg hst hwant QQ hgo
      have se27 : ac.eval (.tmp 27) = _ := (sg.slot 0 (sg.anc 0 rfl))
      have sg27 := gt_of se27
      have se29 : ac.eval (.tmp 29) = _ := (sg.slot 2 (sg.anc 2 rfl))
      have sg29 := gt_of se29
      (try simp only [nth] at se27 sg27 se29 sg29)
      exact op_val hwant hgo hst _ (by simp only [execOp, nth]; go_simp <;> omega) rfl
  · exact skips [] (by kernel_rfl) (fun _ h => by cases h)
  · intro xx ac1 wz hfr hsl hst
    exact hfin ac1 wz (hfr.size.trans hz) hfr.defers (fr_keep hfr [27, 28, 29, 30] (by kernel_rfl)) (hsl 3 (by decide)) (Lib.hid hst)
set_option maxRecDepth 20000 in
theorem apart_w_r10 (c : Cfg) (rc : Nat) (acts : List ActK) (u : ActK) (v : ActK) (hu0 : 0 ≤ u.key) (hu1 : u.key ≤ 18446744073709551615) (hv0 : 0 ≤ v.key) (hv1 : v.key ≤ 18446744073709551615) (b4 : Nat) (b6 : Nat) (b7 : Nat) (z1d : ¬ (60 < (acts.length : Int))) (b9 : Nat) (i : Nat) (a : Option Addr) (cc : Nat) (ps : List PairV) (now : Int) (hi : i ≤ acts.length) (hl : ps.length ≤ i) (hn0 : 0 ≤ now) (hn1 : now ≤ 2 * i) (z2d : i < acts.length) (y : Addr) (x : ActK) (HR : Hid ((acts.map actRow)[i]? = some [.int .i64 x.kind, .int .i64 x.now, .int .i64 x.who, .int .u64 x.key, .string x.body])) (hk0 : 0 ≤ x.key) (hk1 : x.key ≤ 18446744073709551615) {wa wb : World} (H : Hid (Hp [] wa wb [rB b9 84 (kL (mkC c) (mkR c) (.slice a ps.length cc)), rB b7 87 [.int .i64 v.kind, .int .i64 v.now, .int .i64 v.who, .int .u64 v.key, .string v.body], rB b6 87 [.int .i64 u.kind, .int .i64 u.now, .int .i64 u.who, .int .u64 u.key, .string u.body], rB b4 24 (cL c), rS a cc 4 (ps.map rowOf), rS (some y) rc 5 (acts.map actRow)])) (ac0 : Act) (hz : ac0.tmps.size = 157) (so1 : ac0.eval (.tmp 1) = .slice (some y) acts.length rc) (so11 : ac0.eval (.tmp 11) = .int .i64 i) {QR : Exit → Act → World → Prop} (hfin : ∀ (ac1 : Act) (wz : World), ac1.tmps.size = 157 → ac1.defers = ac0.defers → (∀ t, ([33, 34, 35, 36, 37, 38, 39] : List Nat).contains t = false → ac1.eval (.tmp t) = ac0.eval (.tmp t)) → ac1.eval (.tmp 39) = .bool (decide (40 < (x.body.size : Int))) →  Hid (Hp [] wa wz [rB b9 84 (kL (mkC c) (mkR c) (.slice a ps.length cc)), rB b7 87 [.int .i64 v.kind, .int .i64 v.now, .int .i64 v.who, .int .u64 v.key, .string v.body], rB b6 87 [.int .i64 u.kind, .int .i64 u.now, .int .i64 u.who, .int .u64 u.key, .string u.body], rB b4 24 (cL c), rS a cc 4 (ps.map rowOf), rS (some y) rc 5 (acts.map actRow)]) → QR .normal ac1 wz) : (regAt Try.f11 10).wp Try.prog QR ac0 wb := by
  refine wp_region_sq (by kernel_rfl) 157 hz (by kernel_rfl) (fun (xx : Unit) jx => nth [.slice (some y) acts.length rc, .int .i64 i, .pointer (some (y.add (i * 5))), .pointer (some ⟨(y.add (i * 5)).block, (y.add (i * 5)).off + 4, none⟩), .string x.body, .int .i64 x.body.size, .bool (decide (40 < (x.body.size : Int)))] jx) (fun (LL : Nat → Bool) (xx : Unit) ww => Hp [] wa ww [rB b9 84 (kL (mkC c) (mkR c) (.slice a ps.length cc)), rB b7 87 [.int .i64 v.kind, .int .i64 v.now, .int .i64 v.who, .int .u64 v.key, .string v.body], rB b6 87 [.int .i64 u.kind, .int .i64 u.now, .int .i64 u.who, .int .u64 u.key, .string u.body], rB b4 24 (cL c), rS a cc 4 (ps.map rowOf), rS (some y) rc 5 (acts.map actRow)]) () H.out ?_ (steps_al ?_) ?_ ?_
  · exact fun _ _ _ _ _ h => h
  · refine al_cons ?_ (al_cons ?_ (al_cons ?_ (al_cons ?_ (al_cons ?_ (al_cons ?_ (al_cons ?_ (al_nil)))))))
    · intro LL xx ac wc sg hst hwant QQ hgo
      exact op_val hwant hgo hst _ (exec_move rfl ((sg.free 1 (by kernel_rfl)).trans so1)) rfl
    · intro LL xx ac wc sg hst hwant QQ hgo
      exact op_val hwant hgo hst _ (exec_move rfl ((sg.free 11 (by kernel_rfl)).trans so11)) rfl
    · intro LL xx ac wc sg hst hwant QQ hgo
      have se33 : ac.eval (.tmp 33) = _ := (sg.slot 0 (sg.anc 0 rfl))
      have sg33 := gt_of se33
      have se34 : ac.eval (.tmp 34) = _ := (sg.slot 1 (sg.anc 1 rfl))
      have sg34 := gt_of se34
      (try simp only [nth] at se33 sg33 se34 sg34)
      exact op_val hwant hgo hst _ (by simp only [execOp, nth]; go_simp <;> omega) rfl
    · intro LL xx ac wc sg hst hwant QQ hgo
      have se35 : ac.eval (.tmp 35) = _ := (sg.slot 2 (sg.anc 2 rfl))
      have sg35 := gt_of se35
      (try simp only [nth] at se35 sg35)
      exact op_val hwant hgo hst _ (by simp only [execOp, nth]; go_simp <;> omega) rfl
    · intro LL xx ac wc sg hst hwant QQ hgo
      have H := Lib.hid hst
      refine hpS_load1 4 tystring H rfl (sg.slot 3 (sg.anc 3 rfl)) hwant (by (repeat (first | exact List.Mem.head _ | apply List.Mem.tail))) HR.out (by rfl) (by simp [Addr.add]) ?_
      exact hgo _ () _ (fun _ _ => rfl) rfl hst
    · intro LL xx ac wc sg hst hwant QQ hgo
      have se37 : ac.eval (.tmp 37) = _ := (sg.slot 4 (sg.anc 4 rfl))
      have sg37 := gt_of se37
      (try simp only [nth] at se37 sg37)
      exact op_val hwant hgo hst _ (by simp only [execOp, nth]; go_simp <;> omega) rfl
    · intro LL xx ac wc sg hst hwant QQ hgo
      have se38 : ac.eval (.tmp 38) = _ := (sg.slot 5 (sg.anc 5 rfl))
      have sg38 := gt_of se38
      (try simp only [nth] at se38 sg38)
      exact op_val hwant hgo hst _ (by simp only [execOp, nth]; go_simp <;> omega) rfl
  · exact skips [] (by kernel_rfl) (fun _ h => by cases h)
  · intro xx ac1 wz hfr hsl hst
    exact hfin ac1 wz (hfr.size.trans hz) hfr.defers (fr_keep hfr [33, 34, 35, 36, 37, 38, 39] (by kernel_rfl)) (hsl 6 (by decide)) (Lib.hid hst)
set_option maxRecDepth 20000 in
theorem apart_w_r11 (c : Cfg) (rc : Nat) (acts : List ActK) (u : ActK) (v : ActK) (hu0 : 0 ≤ u.key) (hu1 : u.key ≤ 18446744073709551615) (hv0 : 0 ≤ v.key) (hv1 : v.key ≤ 18446744073709551615) (b4 : Nat) (b6 : Nat) (b7 : Nat) (z1d : ¬ (60 < (acts.length : Int))) (b9 : Nat) (i : Nat) (a : Option Addr) (cc : Nat) (ps : List PairV) (now : Int) (hi : i ≤ acts.length) (hl : ps.length ≤ i) (hn0 : 0 ≤ now) (hn1 : now ≤ 2 * i) (z2d : i < acts.length) (y : Addr) (x : ActK) (hk0 : 0 ≤ x.key) (hk1 : x.key ≤ 18446744073709551615) (z3d : 40 < (x.body.size : Int)) {wa wb : World} (H : Hid (Hp [] wa wb [rB b9 84 (kL (mkC c) (mkR c) (.slice a ps.length cc)), rB b7 87 [.int .i64 v.kind, .int .i64 v.now, .int .i64 v.who, .int .u64 v.key, .string v.body], rB b6 87 [.int .i64 u.kind, .int .i64 u.now, .int .i64 u.who, .int .u64 u.key, .string u.body], rB b4 24 (cL c), rS a cc 4 (ps.map rowOf), rS (some y) rc 5 (acts.map actRow)])) (ac0 : Act) (hz : ac0.tmps.size = 157)  {QR : Exit → Act → World → Prop} (hfin : ∀ (ac1 : Act) (wz : World), ac1.tmps.size = 157 → ac1.defers = ac0.defers → (∀ t, ([8] : List Nat).contains t = false → ac1.eval (.tmp t) = ac0.eval (.tmp t)) → ac1.eval (.tmp 8) = .bool true →  Hid (Hp [] wa wz [rB b9 84 (kL (mkC c) (mkR c) (.slice a ps.length cc)), rB b7 87 [.int .i64 v.kind, .int .i64 v.now, .int .i64 v.who, .int .u64 v.key, .string v.body], rB b6 87 [.int .i64 u.kind, .int .i64 u.now, .int .i64 u.who, .int .u64 u.key, .string u.body], rB b4 24 (cL c), rS a cc 4 (ps.map rowOf), rS (some y) rc 5 (acts.map actRow)]) → QR .normal ac1 wz) : (regAt Try.f11 11).wp Try.prog QR ac0 wb := by
  refine wp_region_sq (by kernel_rfl) 157 hz (by kernel_rfl) (fun (xx : Unit) jx => nth [.bool true] jx) (fun (LL : Nat → Bool) (xx : Unit) ww => Hp [] wa ww [rB b9 84 (kL (mkC c) (mkR c) (.slice a ps.length cc)), rB b7 87 [.int .i64 v.kind, .int .i64 v.now, .int .i64 v.who, .int .u64 v.key, .string v.body], rB b6 87 [.int .i64 u.kind, .int .i64 u.now, .int .i64 u.who, .int .u64 u.key, .string u.body], rB b4 24 (cL c), rS a cc 4 (ps.map rowOf), rS (some y) rc 5 (acts.map actRow)]) () H.out ?_ (steps_al ?_) ?_ ?_
  · exact fun _ _ _ _ _ h => h
  · refine al_cons ?_ (al_nil)
    · intro LL xx ac wc sg hst hwant QQ hgo
      exact op_val hwant hgo hst _ (exec_assign rfl rfl) rfl
  · exact skips [] (by kernel_rfl) (fun _ h => by cases h)
  · intro xx ac1 wz hfr hsl hst
    exact hfin ac1 wz (hfr.size.trans hz) hfr.defers (fr_keep hfr [8] (by kernel_rfl)) (hsl 0 (by decide)) (Lib.hid hst)
set_option maxRecDepth 20000 in
theorem apart_w_r12 (c : Cfg) (rc : Nat) (acts : List ActK) (u : ActK) (v : ActK) (hu0 : 0 ≤ u.key) (hu1 : u.key ≤ 18446744073709551615) (hv0 : 0 ≤ v.key) (hv1 : v.key ≤ 18446744073709551615) (b4 : Nat) (b6 : Nat) (b7 : Nat) (z1d : ¬ (60 < (acts.length : Int))) (b9 : Nat) (i : Nat) (a : Option Addr) (cc : Nat) (ps : List PairV) (now : Int) (hi : i ≤ acts.length) (hl : ps.length ≤ i) (hn0 : 0 ≤ now) (hn1 : now ≤ 2 * i) (z2d : i < acts.length) (y : Addr) (x : ActK) (HR : Hid ((acts.map actRow)[i]? = some [.int .i64 x.kind, .int .i64 x.now, .int .i64 x.who, .int .u64 x.key, .string x.body])) (hk0 : 0 ≤ x.key) (hk1 : x.key ≤ 18446744073709551615) (z3d : ¬ (40 < (x.body.size : Int))) (m : Nat) (hm1 : m ≤ 2) (hm : IntKind.i64.wrap ((IntKind.u64.wrap x.now).tmod 3) = (m : Int)) {wa wb : World} (H : Hid (Hp [] wa wb [rB b9 84 (kL (mkC c) (mkR c) (.slice a ps.length cc)), rB b7 87 [.int .i64 v.kind, .int .i64 v.now, .int .i64 v.who, .int .u64 v.key, .string v.body], rB b6 87 [.int .i64 u.kind, .int .i64 u.now, .int .i64 u.who, .int .u64 u.key, .string u.body], rB b4 24 (cL c), rS a cc 4 (ps.map rowOf), rS (some y) rc 5 (acts.map actRow)])) (ac0 : Act) (hz : ac0.tmps.size = 157) (so1 : ac0.eval (.tmp 1) = .slice (some y) acts.length rc) (so10 : ac0.eval (.tmp 10) = .int .i64 now) (so11 : ac0.eval (.tmp 11) = .int .i64 i) {QR : Exit → Act → World → Prop} (hfin : ∀ (ac1 : Act) (wz : World), ac1.tmps.size = 157 → ac1.defers = ac0.defers → (∀ t, ([10, 40, 41, 42, 43, 44, 45, 46, 47, 48, 49] : List Nat).contains t = false → ac1.eval (.tmp t) = ac0.eval (.tmp t)) → ac1.eval (.tmp 10) = .int .i64 (now + m) →  Hid (Hp [] wa wz [rB b9 84 (kL (mkC c) (mkR c) (.slice a ps.length cc)), rB b7 87 [.int .i64 v.kind, .int .i64 v.now, .int .i64 v.who, .int .u64 v.key, .string v.body], rB b6 87 [.int .i64 u.kind, .int .i64 u.now, .int .i64 u.who, .int .u64 u.key, .string u.body], rB b4 24 (cL c), rS a cc 4 (ps.map rowOf), rS (some y) rc 5 (acts.map actRow)]) → QR .normal ac1 wz) : (regAt Try.f11 12).wp Try.prog QR ac0 wb := by
  refine wp_region_sq (by kernel_rfl) 157 hz (by kernel_rfl) (fun (xx : Unit) jx => nth [.int .i64 now, .slice (some y) acts.length rc, .int .i64 i, .pointer (some (y.add (i * 5))), .pointer (some ⟨(y.add (i * 5)).block, (y.add (i * 5)).off + 1, none⟩), .int .i64 x.now, .int .u64 (IntKind.u64.wrap x.now), .int .u64 ((IntKind.u64.wrap x.now).tmod 3), .int .i64 m, .int .i64 (now + m), .int .i64 (now + m)] jx) (fun (LL : Nat → Bool) (xx : Unit) ww => Hp [] wa ww [rB b9 84 (kL (mkC c) (mkR c) (.slice a ps.length cc)), rB b7 87 [.int .i64 v.kind, .int .i64 v.now, .int .i64 v.who, .int .u64 v.key, .string v.body], rB b6 87 [.int .i64 u.kind, .int .i64 u.now, .int .i64 u.who, .int .u64 u.key, .string u.body], rB b4 24 (cL c), rS a cc 4 (ps.map rowOf), rS (some y) rc 5 (acts.map actRow)]) () H.out ?_ (steps_al ?_) ?_ ?_
  · exact fun _ _ _ _ _ h => h
  · refine al_cons ?_ (al_cons ?_ (al_cons ?_ (al_cons ?_ (al_cons ?_ (al_cons ?_ (al_cons ?_ (al_cons ?_ (al_cons ?_ (al_cons ?_ (al_cons ?_ (al_nil)))))))))))
    · intro LL xx ac wc sg hst hwant QQ hgo
      exact op_val hwant hgo hst _ (exec_move rfl ((sg.yet 10 10 (sg.des 10 rfl) (by kernel_rfl)).trans so10)) rfl
    · intro LL xx ac wc sg hst hwant QQ hgo
      exact op_val hwant hgo hst _ (exec_move rfl ((sg.free 1 (by kernel_rfl)).trans so1)) rfl
    · intro LL xx ac wc sg hst hwant QQ hgo
      exact op_val hwant hgo hst _ (exec_move rfl ((sg.free 11 (by kernel_rfl)).trans so11)) rfl
    · intro LL xx ac wc sg hst hwant QQ hgo
      have se41 : ac.eval (.tmp 41) = _ := (sg.slot 1 (sg.anc 1 rfl))
      have sg41 := gt_of se41
      have se42 : ac.eval (.tmp 42) = _ := (sg.slot 2 (sg.anc 2 rfl))
      have sg42 := gt_of se42
      (try simp only [nth] at se41 sg41 se42 sg42)
      exact op_val hwant hgo hst _ (by simp only [execOp, nth]; go_simp <;> omega) rfl
    · intro LL xx ac wc sg hst hwant QQ hgo
      have se43 : ac.eval (.tmp 43) = _ := (sg.slot 3 (sg.anc 3 rfl))
      have sg43 := gt_of se43
      (try simp only [nth] at se43 sg43)
      exact op_val hwant hgo hst _ (by simp only [execOp, nth]; go_simp <;> omega) rfl
    · intro LL xx ac wc sg hst hwant QQ hgo
      have H := Lib.hid hst
      refine hpS_load1 1 tyint H rfl (sg.slot 4 (sg.anc 4 rfl)) hwant (by (repeat (first | exact List.Mem.head _ | apply List.Mem.tail))) HR.out (by rfl) (by simp [Addr.add]) ?_
      exact hgo _ () _ (fun _ _ => rfl) rfl hst
    · intro LL xx ac wc sg hst hwant QQ hgo
      have se45 : ac.eval (.tmp 45) = _ := (sg.slot 5 (sg.anc 5 rfl))
      have sg45 := gt_of se45
      (try simp only [nth] at se45 sg45)
      exact op_val hwant hgo hst _ (by simp only [execOp, nth]; go_simp <;> omega) rfl
    · intro LL xx ac wc sg hst hwant QQ hgo
      have se46 : ac.eval (.tmp 46) = _ := (sg.slot 6 (sg.anc 6 rfl))
      have sg46 := gt_of se46
      (try simp only [nth] at se46 sg46)
      exact op_val hwant hgo hst _ (by simp only [execOp, nth]; go_simp <;> omega) rfl
    · intro LL xx ac wc sg hst hwant QQ hgo
      have se47 : ac.eval (.tmp 47) = _ := (sg.slot 7 (sg.anc 7 rfl))
      have sg47 := gt_of se47
      (try simp only [nth] at se47 sg47)
      exact op_val hwant hgo hst _ (by simp only [execOp, nth]; go_simp <;> omega) rfl
    · intro LL xx ac wc sg hst hwant QQ hgo
      have se40 : ac.eval (.tmp 40) = _ := (sg.slot 0 (sg.anc 0 rfl))
      have sg40 := gt_of se40
      have se48 : ac.eval (.tmp 48) = _ := (sg.slot 8 (sg.anc 8 rfl))
      have sg48 := gt_of se48
      (try simp only [nth] at se40 sg40 se48 sg48)
      have hnw : IntKind.i64.wrap (now + m : Int) = now + m := IntWalk.i64_in _ (by omega)
      exact op_val hwant hgo hst _ (by simp only [execOp, nth]; go_simp <;> omega) rfl
    · intro LL xx ac wc sg hst hwant QQ hgo
      exact op_val hwant hgo hst _ (exec_assign rfl (sg.slot 9 (sg.anc 9 rfl))) rfl
  · exact skips [] (by kernel_rfl) (fun _ h => by cases h)
  · intro xx ac1 wz hfr hsl hst
    exact hfin ac1 wz (hfr.size.trans hz) hfr.defers (fr_keep hfr [10, 40, 41, 42, 43, 44, 45, 46, 47, 48, 49] (by kernel_rfl)) (hsl 10 (by decide)) (Lib.hid hst)
set_option maxRecDepth 20000 in
theorem apart_w_r13 (c : Cfg) (rc : Nat) (acts : List ActK) (u : ActK) (v : ActK) (hu0 : 0 ≤ u.key) (hu1 : u.key ≤ 18446744073709551615) (hv0 : 0 ≤ v.key) (hv1 : v.key ≤ 18446744073709551615) (b4 : Nat) (b6 : Nat) (b7 : Nat) (z1d : ¬ (60 < (acts.length : Int))) (b9 : Nat) (i : Nat) (a : Option Addr) (cc : Nat) (ps : List PairV) (now : Int) (hi : i ≤ acts.length) (hl : ps.length ≤ i) (hs : Hid (Sorted ps)) (hn0 : 0 ≤ now) (hn1 : now ≤ 2 * i) (z2d : i < acts.length) (y : Addr) (x : ActK) (HR : Hid ((acts.map actRow)[i]? = some [.int .i64 x.kind, .int .i64 x.now, .int .i64 x.who, .int .u64 x.key, .string x.body])) (hk0 : 0 ≤ x.key) (hk1 : x.key ≤ 18446744073709551615) (z3d : ¬ (40 < (x.body.size : Int))) (m : Nat) (hm1 : m ≤ 2) (hm : IntKind.i64.wrap ((IntKind.u64.wrap x.now).tmod 3) = (m : Int)) (y4 : ((lookV (mkC c) ps (now + m) x.who x.key x.body).2 != 1) = true) {wa wb : World} (H : Hid (Hp [] wa wb [rB b9 84 (kL (mkC c) (mkR c) (.slice a ps.length cc)), rB b7 87 [.int .i64 v.kind, .int .i64 v.now, .int .i64 v.who, .int .u64 v.key, .string v.body], rB b6 87 [.int .i64 u.kind, .int .i64 u.now, .int .i64 u.who, .int .u64 u.key, .string u.body], rB b4 24 (cL c), rS a cc 4 (ps.map rowOf), rS (some y) rc 5 (acts.map actRow)])) (ac0 : Act) (hz : ac0.tmps.size = 157) (so1 : ac0.eval (.tmp 1) = .slice (some y) acts.length rc) (so9 : ac0.eval (.tmp 9) = .pointer (some ⟨b9, 0, none⟩)) (so10 : ac0.eval (.tmp 10) = .int .i64 (now + m)) (so11 : ac0.eval (.tmp 11) = .int .i64 i) {QR : Exit → Act → World → Prop} (hfin : ∀ (b12 : Nat) (ac1 : Act) (wz : World), ac1.tmps.size = 157 → ac1.defers = ac0.defers → (∀ t, ([12, 13, 50, 51, 52, 53, 54, 55, 56, 57, 58, 59, 60, 61, 62, 63, 64, 65, 66, 67, 68, 69, 70, 71, 72, 73, 74, 75] : List Nat).contains t = false → ac1.eval (.tmp t) = ac0.eval (.tmp t)) → ac1.eval (.tmp 12) = .pointer (some ⟨b12, 0, none⟩) → ac1.eval (.tmp 13) = .int .i64 7 →  Hid (Hp [] wa wz [rB b12 84 [.int .i64 0, .int .i64 0, .int .i64 0, .int .i64 0, .int .i64 0, .int .i64 0, .int .i64 0, .int .i64 0, .int .i64 0, .int .i64 0, .int .i64 0, .int .i64 0, .int .i64 0, .int .i64 0, .int .i64 0, .int .i64 0, .int .i64 0, .int .u32 0, .int .i64 0, .slice none 0 0], rB b9 84 (kL (mkC c) (mkR c) (.slice a ps.length cc)), rB b7 87 [.int .i64 v.kind, .int .i64 v.now, .int .i64 v.who, .int .u64 v.key, .string v.body], rB b6 87 [.int .i64 u.kind, .int .i64 u.now, .int .i64 u.who, .int .u64 u.key, .string u.body], rB b4 24 (cL c), rS a cc 4 (ps.map rowOf), rS (some y) rc 5 (acts.map actRow)]) → QR .normal ac1 wz) : (regAt Try.f11 13).wp Try.prog QR ac0 wb := by
  refine wp_region_st mixedP ⟨[0, 0, 0, 0, 1, 2, 3, 0, 0, 1, 2, 3, 0, 0, 1, 2, 3, 0, 0, 1, 2, 3, 4, 5, 6, 6, 0, 7, 8], by kernel_rfl⟩ [[], [], [], [], [2, 3], [2, 3, 4], [2, 3, 4, 5], [], [], [7, 8], [7, 8, 9], [7, 8, 9, 10], [], [], [12, 13], [12, 13, 14], [12, 13, 14, 15], [], [], [17, 18], [17, 18, 19], [17, 18, 19, 20], [0, 1, 2, 3, 4, 5, 6, 7, 8, 9, 10, 11, 12, 13, 14, 15, 16, 17, 18, 19, 20, 21], [0, 1, 2, 3, 4, 5, 6, 7, 8, 9, 10, 11, 12, 13, 14, 15, 16, 17, 18, 19, 20, 21, 22], [0, 1, 2, 3, 4, 5, 6, 7, 8, 9, 10, 11, 12, 13, 14, 15, 16, 17, 18, 19, 20, 21, 22, 23], [0, 1, 2, 3, 4, 5, 6, 7, 8, 9, 10, 11, 12, 13, 14, 15, 16, 17, 18, 19, 20, 21, 22, 23], [], [0, 1, 2, 3, 4, 5, 6, 7, 8, 9, 10, 11, 12, 13, 14, 15, 16, 17, 18, 19, 20, 21, 22, 23, 24, 26], [0, 1, 2, 3, 4, 5, 6, 7, 8, 9, 10, 11, 12, 13, 14, 15, 16, 17, 18, 19, 20, 21, 22, 23, 24, 25, 26, 27]] (by kernel_rfl) (by kernel_rfl) 157 hz (by kernel_rfl) (fun (xx : Nat) jx => match xx with | b12 => nth [.agg (kA (mkC c) (mkR c) (.slice a ps.length cc)), .int .i64 (now + m), .slice (some y) acts.length rc, .int .i64 i, .pointer (some (y.add (i * 5))), .pointer (some ⟨(y.add (i * 5)).block, (y.add (i * 5)).off + 2, none⟩), .int .i64 x.who, .slice (some y) acts.length rc, .int .i64 i, .pointer (some (y.add (i * 5))), .pointer (some ⟨(y.add (i * 5)).block, (y.add (i * 5)).off + 3, none⟩), .int .u64 x.key, .slice (some y) acts.length rc, .int .i64 i, .pointer (some (y.add (i * 5))), .pointer (some ⟨(y.add (i * 5)).block, (y.add (i * 5)).off + 4, none⟩), .string x.body, .slice (some y) acts.length rc, .int .i64 i, .pointer (some (y.add (i * 5))), .pointer (some ⟨(y.add (i * 5)).block, (y.add (i * 5)).off + 4, none⟩), .string x.body, .tuple #[.agg #[.int .i64 0, .int .i64 0, .int .i64 0, .int .i64 0, .int .i64 0, .int .i64 0, .int .i64 0, .int .i64 0, .int .i64 0, .int .i64 0, .int .i64 0, .int .i64 0, .int .i64 0, .int .i64 0, .int .i64 0, .int .i64 0, .int .i64 0, .int .u32 0, .int .i64 0, .slice none 0 0], .int .i64 7], .tuple #[.agg #[.int .i64 0, .int .i64 0, .int .i64 0, .int .i64 0, .int .i64 0, .int .i64 0, .int .i64 0, .int .i64 0, .int .i64 0, .int .i64 0, .int .i64 0, .int .i64 0, .int .i64 0, .int .i64 0, .int .i64 0, .int .i64 0, .int .i64 0, .int .u32 0, .int .i64 0, .slice none 0 0], .int .i64 7], .agg #[.int .i64 0, .int .i64 0, .int .i64 0, .int .i64 0, .int .i64 0, .int .i64 0, .int .i64 0, .int .i64 0, .int .i64 0, .int .i64 0, .int .i64 0, .int .i64 0, .int .i64 0, .int .i64 0, .int .i64 0, .int .i64 0, .int .i64 0, .int .u32 0, .int .i64 0, .slice none 0 0], .int .i64 7, .pointer (some ⟨b12, 0, none⟩), undef, .int .i64 7] jx) (fun (LL : Nat → Bool) (xx : Nat) ww => match xx with | b12 => Hp [] wa ww (bif LL 26 then (bif LL 27 then [rB b12 84 [.int .i64 0, .int .i64 0, .int .i64 0, .int .i64 0, .int .i64 0, .int .i64 0, .int .i64 0, .int .i64 0, .int .i64 0, .int .i64 0, .int .i64 0, .int .i64 0, .int .i64 0, .int .i64 0, .int .i64 0, .int .i64 0, .int .i64 0, .int .u32 0, .int .i64 0, .slice none 0 0], rB b9 84 (kL (mkC c) (mkR c) (.slice a ps.length cc)), rB b7 87 [.int .i64 v.kind, .int .i64 v.now, .int .i64 v.who, .int .u64 v.key, .string v.body], rB b6 87 [.int .i64 u.kind, .int .i64 u.now, .int .i64 u.who, .int .u64 u.key, .string u.body], rB b4 24 (cL c), rS a cc 4 (ps.map rowOf), rS (some y) rc 5 (acts.map actRow)] else [rB b12 84 [.int .i64 0, .int .i64 0, .int .i64 0, .int .i64 0, .int .i64 0, .int .i64 0, .int .i64 0, .int .i64 0, .int .i64 0, .int .i64 0, .int .i64 0, .int .i64 0, .int .i64 0, .int .i64 0, .int .i64 0, .int .i64 0, .int .i64 0, .int .u32 0, .int .i64 0, .slice none 0 0], rB b9 84 (kL (mkC c) (mkR c) (.slice a ps.length cc)), rB b7 87 [.int .i64 v.kind, .int .i64 v.now, .int .i64 v.who, .int .u64 v.key, .string v.body], rB b6 87 [.int .i64 u.kind, .int .i64 u.now, .int .i64 u.who, .int .u64 u.key, .string u.body], rB b4 24 (cL c), rS a cc 4 (ps.map rowOf), rS (some y) rc 5 (acts.map actRow)]) else [rB b9 84 (kL (mkC c) (mkR c) (.slice a ps.length cc)), rB b7 87 [.int .i64 v.kind, .int .i64 v.now, .int .i64 v.who, .int .u64 v.key, .string v.body], rB b6 87 [.int .i64 u.kind, .int .i64 u.now, .int .i64 u.who, .int .u64 u.key, .string u.body], rB b4 24 (cL c), rS a cc 4 (ps.map rowOf), rS (some y) rc 5 (acts.map actRow)])) default H.out.drew ?_ (steps_al ?_) ?_ ?_
  · intro L1 L2 xx ww hL sg
    have lh26 := hL 26 (by decide)
    have lh27 := hL 27 (by decide)
    simp only [lh26, lh27] at sg
    exact sg
  · refine al_cons ?_ (al_cons ?_ (al_cons ?_ (al_cons ?_ (al_cons ?_ (al_cons ?_ (al_cons ?_ (al_cons ?_ (al_cons ?_ (al_cons ?_ (al_cons ?_ (al_cons ?_ (al_cons ?_ (al_cons ?_ (al_cons ?_ (al_cons ?_ (al_cons ?_ (al_cons ?_ (al_cons ?_ (al_cons ?_ (al_cons ?_ (al_cons ?_ (al_cons ?_ (al_cons ?_ (al_cons ?_ (al_cons ?_ (al_cons ?_ (al_cons ?_ (al_cons ?_ (al_nil)))))))))))))))))))))))))))))
    · intro LL xx ac wc sg hst hwant QQ hgo
      revert sg hst hgo; revert xx; intro b12 sg hst hgo
      rcases Bool.eq_false_or_eq_true (LL 26) with lh26 | lh26
      · skip
        have H := Lib.hid hst
        simp only [lh26, sg.des 27 rfl, cond_true, cond_false] at H
        refine hpA_load tykeys_Keys H rfl ((sg.free 9 (by kernel_rfl)).trans so9) hwant (by (repeat (first | exact List.Mem.head _ | apply List.Mem.tail))) (by rfl) rfl ?_
        exact hgo _ b12 _ (fun _ _ => rfl) rfl hst
      · skip
        have H := Lib.hid hst
        simp only [lh26, sg.des 27 rfl, cond_true, cond_false] at H
        refine hpA_load tykeys_Keys H rfl ((sg.free 9 (by kernel_rfl)).trans so9) hwant (by (repeat (first | exact List.Mem.head _ | apply List.Mem.tail))) (by rfl) rfl ?_
        exact hgo _ b12 _ (fun _ _ => rfl) rfl hst
    · intro LL xx ac wc sg hst hwant QQ hgo
      revert sg hst hgo; revert xx; intro b12 sg hst hgo
      exact op_val hwant hgo hst _ (exec_move rfl ((sg.free 10 (by kernel_rfl)).trans so10)) rfl
    · intro LL xx ac wc sg hst hwant QQ hgo
      revert sg hst hgo; revert xx; intro b12 sg hst hgo
      exact op_val hwant hgo hst _ (exec_move rfl ((sg.free 1 (by kernel_rfl)).trans so1)) rfl
    · intro LL xx ac wc sg hst hwant QQ hgo
      revert sg hst hgo; revert xx; intro b12 sg hst hgo
      exact op_val hwant hgo hst _ (exec_move rfl ((sg.free 11 (by kernel_rfl)).trans so11)) rfl
    · intro LL xx ac wc sg hst hwant QQ hgo
      revert sg hst hgo; revert xx; intro b12 sg hst hgo
      have se53 : ac.eval (.tmp 53) = _ := (sg.slot 2 (sg.anc 2 rfl))
      have sg53 := gt_of se53
      have se54 : ac.eval (.tmp 54) = _ := (sg.slot 3 (sg.anc 3 rfl))
      have sg54 := gt_of se54
      (try simp only [nth] at se53 sg53 se54 sg54)
      exact op_val hwant hgo hst _ (by simp only [execOp, nth]; go_simp <;> omega) rfl
    · intro LL xx ac wc sg hst hwant QQ hgo
      revert sg hst hgo; revert xx; intro b12 sg hst hgo
      have se55 : ac.eval (.tmp 55) = _ := (sg.slot 4 (sg.anc 4 rfl))
      have sg55 := gt_of se55
      (try simp only [nth] at se55 sg55)
      exact op_val hwant hgo hst _ (by simp only [execOp, nth]; go_simp <;> omega) rfl
    · intro LL xx ac wc sg hst hwant QQ hgo
      revert sg hst hgo; revert xx; intro b12 sg hst hgo
      rcases Bool.eq_false_or_eq_true (LL 26) with lh26 | lh26
      · skip
        have H := Lib.hid hst
        simp only [lh26, sg.des 27 rfl, cond_true, cond_false] at H
        refine hpS_load1 2 tyint H rfl (sg.slot 5 (sg.anc 5 rfl)) hwant (by (repeat (first | exact List.Mem.head _ | apply List.Mem.tail))) HR.out (by rfl) (by simp [Addr.add]) ?_
        exact hgo _ b12 _ (fun _ _ => rfl) rfl hst
      · skip
        have H := Lib.hid hst
        simp only [lh26, sg.des 27 rfl, cond_true, cond_false] at H
        refine hpS_load1 2 tyint H rfl (sg.slot 5 (sg.anc 5 rfl)) hwant (by (repeat (first | exact List.Mem.head _ | apply List.Mem.tail))) HR.out (by rfl) (by simp [Addr.add]) ?_
        exact hgo _ b12 _ (fun _ _ => rfl) rfl hst
    · intro LL xx ac wc sg hst hwant QQ hgo
      revert sg hst hgo; revert xx; intro b12 sg hst hgo
      exact op_val hwant hgo hst _ (exec_move rfl ((sg.free 1 (by kernel_rfl)).trans so1)) rfl
    · intro LL xx ac wc sg hst hwant QQ hgo
      revert sg hst hgo; revert xx; intro b12 sg hst hgo
      exact op_val hwant hgo hst _ (exec_move rfl ((sg.free 11 (by kernel_rfl)).trans so11)) rfl
    · intro LL xx ac wc sg hst hwant QQ hgo
      revert sg hst hgo; revert xx; intro b12 sg hst hgo
      have se58 : ac.eval (.tmp 58) = _ := (sg.slot 7 (sg.anc 7 rfl))
      have sg58 := gt_of se58
      have se59 : ac.eval (.tmp 59) = _ := (sg.slot 8 (sg.anc 8 rfl))
      have sg59 := gt_of se59
      (try simp only [nth] at se58 sg58 se59 sg59)
      exact op_val hwant hgo hst _ (by simp only [execOp, nth]; go_simp <;> omega) rfl
    · intro LL xx ac wc sg hst hwant QQ hgo
      revert sg hst hgo; revert xx; intro b12 sg hst hgo
      have se60 : ac.eval (.tmp 60) = _ := (sg.slot 9 (sg.anc 9 rfl))
      have sg60 := gt_of se60
      (try simp only [nth] at se60 sg60)
      exact op_val hwant hgo hst _ (by simp only [execOp, nth]; go_simp <;> omega) rfl
    · intro LL xx ac wc sg hst hwant QQ hgo
      revert sg hst hgo; revert xx; intro b12 sg hst hgo
      rcases Bool.eq_false_or_eq_true (LL 26) with lh26 | lh26
      · skip
        have H := Lib.hid hst
        simp only [lh26, sg.des 27 rfl, cond_true, cond_false] at H
        refine hpS_load1 3 tyuint64 H rfl (sg.slot 10 (sg.anc 10 rfl)) hwant (by (repeat (first | exact List.Mem.head _ | apply List.Mem.tail))) HR.out (by rfl) (by simp [Addr.add]) ?_
        exact hgo _ b12 _ (fun _ _ => rfl) rfl hst
      · skip
        have H := Lib.hid hst
        simp only [lh26, sg.des 27 rfl, cond_true, cond_false] at H
        refine hpS_load1 3 tyuint64 H rfl (sg.slot 10 (sg.anc 10 rfl)) hwant (by (repeat (first | exact List.Mem.head _ | apply List.Mem.tail))) HR.out (by rfl) (by simp [Addr.add]) ?_
        exact hgo _ b12 _ (fun _ _ => rfl) rfl hst
    · intro LL xx ac wc sg hst hwant QQ hgo
      revert sg hst hgo; revert xx; intro b12 sg hst hgo
      exact op_val hwant hgo hst _ (exec_move rfl ((sg.free 1 (by kernel_rfl)).trans so1)) rfl
    · intro LL xx ac wc sg hst hwant QQ hgo
      revert sg hst hgo; revert xx; intro b12 sg hst hgo
      exact op_val hwant hgo hst _ (exec_move rfl ((sg.free 11 (by kernel_rfl)).trans so11)) rfl
    · intro LL xx ac wc sg hst hwant QQ hgo
      revert sg hst hgo; revert xx; intro b12 sg hst hgo
      have se63 : ac.eval (.tmp 63) = _ := (sg.slot 12 (sg.anc 12 rfl))
      have sg63 := gt_of se63
      have se64 : ac.eval (.tmp 64) = _ := (sg.slot 13 (sg.anc 13 rfl))
      have sg64 := gt_of se64
      (try simp only [nth] at se63 sg63 se64 sg64)
      exact op_val hwant hgo hst _ (by simp only [execOp, nth]; go_simp <;> omega) rfl
    · intro LL xx ac wc sg hst hwant QQ hgo
      revert sg hst hgo; revert xx; intro b12 sg hst hgo
      have se65 : ac.eval (.tmp 65) = _ := (sg.slot 14 (sg.anc 14 rfl))
      have sg65 := gt_of se65
      (try simp only [nth] at se65 sg65)
      exact op_val hwant hgo hst _ (by simp only [execOp, nth]; go_simp <;> omega) rfl
    · intro LL xx ac wc sg hst hwant QQ hgo
      revert sg hst hgo; revert xx; intro b12 sg hst hgo
      rcases Bool.eq_false_or_eq_true (LL 26) with lh26 | lh26
      · skip
        have H := Lib.hid hst
        simp only [lh26, sg.des 27 rfl, cond_true, cond_false] at H
        refine hpS_load1 4 tystring H rfl (sg.slot 15 (sg.anc 15 rfl)) hwant (by (repeat (first | exact List.Mem.head _ | apply List.Mem.tail))) HR.out (by rfl) (by simp [Addr.add]) ?_
        exact hgo _ b12 _ (fun _ _ => rfl) rfl hst
      · skip
        have H := Lib.hid hst
        simp only [lh26, sg.des 27 rfl, cond_true, cond_false] at H
        refine hpS_load1 4 tystring H rfl (sg.slot 15 (sg.anc 15 rfl)) hwant (by (repeat (first | exact List.Mem.head _ | apply List.Mem.tail))) HR.out (by rfl) (by simp [Addr.add]) ?_
        exact hgo _ b12 _ (fun _ _ => rfl) rfl hst
    · intro LL xx ac wc sg hst hwant QQ hgo
      revert sg hst hgo; revert xx; intro b12 sg hst hgo
      exact op_val hwant hgo hst _ (exec_move rfl ((sg.free 1 (by kernel_rfl)).trans so1)) rfl
    · intro LL xx ac wc sg hst hwant QQ hgo
      revert sg hst hgo; revert xx; intro b12 sg hst hgo
      exact op_val hwant hgo hst _ (exec_move rfl ((sg.free 11 (by kernel_rfl)).trans so11)) rfl
    · intro LL xx ac wc sg hst hwant QQ hgo
      revert sg hst hgo; revert xx; intro b12 sg hst hgo
      have se68 : ac.eval (.tmp 68) = _ := (sg.slot 17 (sg.anc 17 rfl))
      have sg68 := gt_of se68
      have se69 : ac.eval (.tmp 69) = _ := (sg.slot 18 (sg.anc 18 rfl))
      have sg69 := gt_of se69
      (try simp only [nth] at se68 sg68 se69 sg69)
      exact op_val hwant hgo hst _ (by simp only [execOp, nth]; go_simp <;> omega) rfl
    · intro LL xx ac wc sg hst hwant QQ hgo
      revert sg hst hgo; revert xx; intro b12 sg hst hgo
      have se70 : ac.eval (.tmp 70) = _ := (sg.slot 19 (sg.anc 19 rfl))
      have sg70 := gt_of se70
      (try simp only [nth] at se70 sg70)
      exact op_val hwant hgo hst _ (by simp only [execOp, nth]; go_simp <;> omega) rfl
    · intro LL xx ac wc sg hst hwant QQ hgo
      revert sg hst hgo; revert xx; intro b12 sg hst hgo
      rcases Bool.eq_false_or_eq_true (LL 26) with lh26 | lh26
      · skip
        have H := Lib.hid hst
        simp only [lh26, sg.des 27 rfl, cond_true, cond_false] at H
        refine hpS_load1 4 tystring H rfl (sg.slot 20 (sg.anc 20 rfl)) hwant (by (repeat (first | exact List.Mem.head _ | apply List.Mem.tail))) HR.out (by rfl) (by simp [Addr.add]) ?_
        exact hgo _ b12 _ (fun _ _ => rfl) rfl hst
      · skip
        have H := Lib.hid hst
        simp only [lh26, sg.des 27 rfl, cond_true, cond_false] at H
        refine hpS_load1 4 tystring H rfl (sg.slot 20 (sg.anc 20 rfl)) hwant (by (repeat (first | exact List.Mem.head _ | apply List.Mem.tail))) HR.out (by rfl) (by simp [Addr.add]) ?_
        exact hgo _ b12 _ (fun _ _ => rfl) rfl hst
    · intro LL xx ac wc sg hst hwant QQ hgo
      revert sg hst hgo; revert xx; intro b12 sg hst hgo
      have se51 : ac.eval (.tmp 51) = _ := (sg.slot 0 (sg.anc 0 rfl))
      have sg51 := gt_of se51
      have se52 : ac.eval (.tmp 52) = _ := (sg.slot 1 (sg.anc 1 rfl))
      have sg52 := gt_of se52
      have se57 : ac.eval (.tmp 57) = _ := (sg.slot 6 (sg.anc 6 rfl))
      have sg57 := gt_of se57
      have se62 : ac.eval (.tmp 62) = _ := (sg.slot 11 (sg.anc 11 rfl))
      have sg62 := gt_of se62
      have se67 : ac.eval (.tmp 67) = _ := (sg.slot 16 (sg.anc 16 rfl))
      have sg67 := gt_of se67
      have se72 : ac.eval (.tmp 72) = _ := (sg.slot 21 (sg.anc 21 rfl))
      have sg72 := gt_of se72
      (try simp only [nth] at se51 sg51 se52 sg52 se57 sg57 se62 sg62 se67 sg67 se72 sg72)
      rcases Bool.eq_false_or_eq_true (LL 26) with lh26 | lh26
      · skip
        have H := Lib.hid hst
        simp only [lh26, sg.des 27 rfl, cond_true, cond_false] at H
        refine op_call hwant hgo 50 _ (by simp only [execOp]; go_simp) (withNo (mkC c) (mkR c) a cc ps (now + m) x.who x.key x.body x.body wc (hp_held H (by (repeat (first | exact List.Mem.head _ | apply List.Mem.tail)))) hk0 hk1 hs (by omega) y4) ?_
        rintro er wd ⟨rfl, hof⟩
        exact ⟨_, b12, rfl, fun _ _ => rfl, rfl, Hp.quiet hst hof⟩
      · skip
        have H := Lib.hid hst
        simp only [lh26, sg.des 27 rfl, cond_true, cond_false] at H
        refine op_call hwant hgo 50 _ (by simp only [execOp]; go_simp) (withNo (mkC c) (mkR c) a cc ps (now + m) x.who x.key x.body x.body wc (hp_held H (by (repeat (first | exact List.Mem.head _ | apply List.Mem.tail)))) hk0 hk1 hs (by omega) y4) ?_
        rintro er wd ⟨rfl, hof⟩
        exact ⟨_, b12, rfl, fun _ _ => rfl, rfl, Hp.quiet hst hof⟩
    · intro LL xx ac wc sg hst hwant QQ hgo
      revert sg hst hgo; revert xx; intro b12 sg hst hgo
      exact op_val hwant hgo hst _ (exec_move rfl (sg.slot 22 (sg.anc 22 rfl))) rfl
    · intro LL xx ac wc sg hst hwant QQ hgo
      revert sg hst hgo; revert xx; intro b12 sg hst hgo
      have se50 : ac.eval (.tmp 50) = _ := (sg.slot 23 (sg.anc 23 rfl))
      have sg50 := gt_of se50
      (try simp only [nth] at se50 sg50)
      exact op_val hwant hgo hst _ (by simp only [execOp, nth]; go_simp <;> omega) rfl
    · intro LL xx ac wc sg hst hwant QQ hgo
      revert sg hst hgo; revert xx; intro b12 sg hst hgo
      have se50 : ac.eval (.tmp 50) = _ := (sg.slot 23 (sg.anc 23 rfl))
      have sg50 := gt_of se50
      (try simp only [nth] at se50 sg50)
      exact op_val hwant hgo hst _ (by simp only [execOp, nth]; go_simp <;> omega) rfl
    · intro LL xx ac wc sg hst hwant QQ hgo
      revert sg hst hgo; revert xx; intro xold sg hst hgo
      have H := Lib.hid hst
      simp only [sg.self, sg.des 27 rfl, cond_true, cond_false] at H
      refine hpA_alloc tykeys_Keys H rfl rfl ?_
      intro wd b12 H2
      exact hgo _ b12 _ (sg.agree (x' := b12) (n := 29) rfl (by (iterate 29 (refine ix_cons (by first | exact fun _ => rfl | exact no sg.self | exact no (sg.des _ rfl)) ?_)); exact ix_nil)) rfl (by simp only [(show upd LL 26 26 = true from rfl), (show upd LL 26 27 = LL 27 from rfl), sg.des 27 rfl, cond_true, cond_false]; exact H2.out)
    · intro LL xx ac wc sg hst hwant QQ hgo
      revert sg hst hgo; revert xx; intro b12 sg hst hgo
      have H := Lib.hid hst
      simp only [sg.anc 26 rfl, sg.self, cond_true, cond_false] at H
      refine hpA_store tykeys_Keys H rfl rfl (sg.slot 26 (sg.anc 26 rfl)) (sg.slot 24 (sg.anc 24 rfl)) rfl (by repeat (first | apply Put.head | apply Put.tail)) (by simp [kA, kL, rkA, rkL, cA, cL]) (by simp [kA, kL, rkA, rkL, cA, cL, Value.oneCell']) (by first | rfl | (simp only [spl]; rfl)) rfl ?_
      intro wd H2
      exact hgo _ b12 _ (sg.agree (x' := b12) (n := 29) rfl (by (iterate 29 (refine ix_cons (by first | exact fun _ => rfl | exact no sg.self | exact no (sg.des _ rfl)) ?_)); exact ix_nil)) rfl (by simp only [(show upd LL 27 26 = LL 26 from rfl), sg.anc 26 rfl, (show upd LL 27 27 = true from rfl), cond_true, cond_false]; exact H2.out)
    · intro LL xx ac wc sg hst hwant QQ hgo
      revert sg hst hgo; revert xx; intro b12 sg hst hgo
      exact op_val hwant hgo hst _ (exec_assign rfl (sg.slot 25 (sg.anc 25 rfl))) rfl
  · exact skips [] (by kernel_rfl) (fun _ h => by cases h)
  · intro xx ac1 wz hfr hsl hst
    revert hsl hst; revert xx; intro b12 hsl hst
    exact hfin b12 ac1 wz (hfr.size.trans hz) hfr.defers (fr_keep hfr [12, 13, 50, 51, 52, 53, 54, 55, 56, 57, 58, 59, 60, 61, 62, 63, 64, 65, 66, 67, 68, 69, 70, 71, 72, 73, 74, 75] (by kernel_rfl)) (hsl 26 (by decide)) (hsl 28 (by decide)) (Lib.hid hst)
set_option maxRecDepth 20000 in
theorem apart_w_r14 (c : Cfg) (rc : Nat) (acts : List ActK) (u : ActK) (v : ActK) (hu0 : 0 ≤ u.key) (hu1 : u.key ≤ 18446744073709551615) (hv0 : 0 ≤ v.key) (hv1 : v.key ≤ 18446744073709551615) (b4 : Nat) (b6 : Nat) (b7 : Nat) (z1d : ¬ (60 < (acts.length : Int))) (b9 : Nat) (i : Nat) (a : Option Addr) (cc : Nat) (ps : List PairV) (now : Int) (hi : i ≤ acts.length) (hl : ps.length ≤ i) (hn0 : 0 ≤ now) (hn1 : now ≤ 2 * i) (z2d : i < acts.length) (y : Addr) (x : ActK) (hk0 : 0 ≤ x.key) (hk1 : x.key ≤ 18446744073709551615) (z3d : ¬ (40 < (x.body.size : Int))) (m : Nat) (hm1 : m ≤ 2) (hm : IntKind.i64.wrap ((IntKind.u64.wrap x.now).tmod 3) = (m : Int)) (b12 : Nat) {wa wb : World} (H : Hid (Hp [] wa wb [rB b12 84 [.int .i64 0, .int .i64 0, .int .i64 0, .int .i64 0, .int .i64 0, .int .i64 0, .int .i64 0, .int .i64 0, .int .i64 0, .int .i64 0, .int .i64 0, .int .i64 0, .int .i64 0, .int .i64 0, .int .i64 0, .int .i64 0, .int .i64 0, .int .u32 0, .int .i64 0, .slice none 0 0], rB b9 84 (kL (mkC c) (mkR c) (.slice a ps.length cc)), rB b7 87 [.int .i64 v.kind, .int .i64 v.now, .int .i64 v.who, .int .u64 v.key, .string v.body], rB b6 87 [.int .i64 u.kind, .int .i64 u.now, .int .i64 u.who, .int .u64 u.key, .string u.body], rB b4 24 (cL c), rS a cc 4 (ps.map rowOf), rS (some y) rc 5 (acts.map actRow)])) (ac0 : Act) (hz : ac0.tmps.size = 157) (so13 : ac0.eval (.tmp 13) = .int .i64 7) {QR : Exit → Act → World → Prop} (hfin : ∀ (ac1 : Act) (wz : World), ac1.tmps.size = 157 → ac1.defers = ac0.defers → (∀ t, ([76, 77] : List Nat).contains t = false → ac1.eval (.tmp t) = ac0.eval (.tmp t)) → ac1.eval (.tmp 77) = .bool false →  Hid (Hp [] wa wz [rB b12 84 [.int .i64 0, .int .i64 0, .int .i64 0, .int .i64 0, .int .i64 0, .int .i64 0, .int .i64 0, .int .i64 0, .int .i64 0, .int .i64 0, .int .i64 0, .int .i64 0, .int .i64 0, .int .i64 0, .int .i64 0, .int .i64 0, .int .i64 0, .int .u32 0, .int .i64 0, .slice none 0 0], rB b9 84 (kL (mkC c) (mkR c) (.slice a ps.length cc)), rB b7 87 [.int .i64 v.kind, .int .i64 v.now, .int .i64 v.who, .int .u64 v.key, .string v.body], rB b6 87 [.int .i64 u.kind, .int .i64 u.now, .int .i64 u.who, .int .u64 u.key, .string u.body], rB b4 24 (cL c), rS a cc 4 (ps.map rowOf), rS (some y) rc 5 (acts.map actRow)]) → QR .normal ac1 wz) : (regAt Try.f11 14).wp Try.prog QR ac0 wb := by
  refine wp_region_sq (by kernel_rfl) 157 hz (by kernel_rfl) (fun (xx : Unit) jx => nth [.int .i64 7, .bool false] jx) (fun (LL : Nat → Bool) (xx : Unit) ww => Hp [] wa ww [rB b12 84 [.int .i64 0, .int .i64 0, .int .i64 0, .int .i64 0, .int .i64 0, .int .i64 0, .int .i64 0, .int .i64 0, .int .i64 0, .int .i64 0, .int .i64 0, .int .i64 0, .int .i64 0, .int .i64 0, .int .i64 0, .int .i64 0, .int .i64 0, .int .u32 0, .int .i64 0, .slice none 0 0], rB b9 84 (kL (mkC c) (mkR c) (.slice a ps.length cc)), rB b7 87 [.int .i64 v.kind, .int .i64 v.now, .int .i64 v.who, .int .u64 v.key, .string v.body], rB b6 87 [.int .i64 u.kind, .int .i64 u.now, .int .i64 u.who, .int .u64 u.key, .string u.body], rB b4 24 (cL c), rS a cc 4 (ps.map rowOf), rS (some y) rc 5 (acts.map actRow)]) () H.out ?_ (steps_al ?_) ?_ ?_
  · exact fun _ _ _ _ _ h => h
  · refine al_cons ?_ (al_cons ?_ (al_nil))
    · intro LL xx ac wc sg hst hwant QQ hgo
      exact op_val hwant hgo hst _ (exec_move rfl ((sg.free 13 (by kernel_rfl)).trans so13)) rfl
    · intro LL xx ac wc sg hst hwant QQ hgo
      have se76 : ac.eval (.tmp 76) = _ := (sg.slot 0 (sg.anc 0 rfl))
      have sg76 := gt_of se76
      (try simp only [nth] at se76 sg76)
      exact op_val hwant hgo hst _ (by simp only [execOp, nth]; go_simp <;> omega) rfl
  · exact skips [] (by kernel_rfl) (fun _ h => by cases h)
  · intro xx ac1 wz hfr hsl hst
    exact hfin ac1 wz (hfr.size.trans hz) hfr.defers (fr_keep hfr [76, 77] (by kernel_rfl)) (hsl 1 (by decide)) (Lib.hid hst)
set_option maxRecDepth 20000 in
theorem apart_w_r9 (c : Cfg) (rc : Nat) (acts : List ActK) (u : ActK) (v : ActK) (hu0 : 0 ≤ u.key) (hu1 : u.key ≤ 18446744073709551615) (hv0 : 0 ≤ v.key) (hv1 : v.key ≤ 18446744073709551615) (b4 : Nat) (b6 : Nat) (b7 : Nat) (z1d : ¬ (60 < (acts.length : Int))) (b9 : Nat) (i : Nat) (a : Option Addr) (cc : Nat) (ps : List PairV) (now : Int) (hi : i ≤ acts.length) (hl : ps.length ≤ i) (hn0 : 0 ≤ now) (hn1 : now ≤ 2 * i) (z2d : i < acts.length) (y : Addr) (x : ActK) (hk0 : 0 ≤ x.key) (hk1 : x.key ≤ 18446744073709551615) (z3d : ¬ (40 < (x.body.size : Int))) (m : Nat) (hm1 : m ≤ 2) (hm : IntKind.i64.wrap ((IntKind.u64.wrap x.now).tmod 3) = (m : Int)) (b12 : Nat) {wa wb : World} (H : Hid (Hp [] wa wb [rB b12 84 [.int .i64 0, .int .i64 0, .int .i64 0, .int .i64 0, .int .i64 0, .int .i64 0, .int .i64 0, .int .i64 0, .int .i64 0, .int .i64 0, .int .i64 0, .int .i64 0, .int .i64 0, .int .i64 0, .int .i64 0, .int .i64 0, .int .i64 0, .int .u32 0, .int .i64 0, .slice none 0 0], rB b9 84 (kL (mkC c) (mkR c) (.slice a ps.length cc)), rB b7 87 [.int .i64 v.kind, .int .i64 v.now, .int .i64 v.who, .int .u64 v.key, .string v.body], rB b6 87 [.int .i64 u.kind, .int .i64 u.now, .int .i64 u.who, .int .u64 u.key, .string u.body], rB b4 24 (cL c), rS a cc 4 (ps.map rowOf), rS (some y) rc 5 (acts.map actRow)])) (ac0 : Act) (hz : ac0.tmps.size = 157) (so11 : ac0.eval (.tmp 11) = .int .i64 i) {QR : Exit → Act → World → Prop} (hfin : ∀ (ac1 : Act) (wz : World), ac1.tmps.size = 157 → ac1.defers = ac0.defers → (∀ t, ([11, 31, 32] : List Nat).contains t = false → ac1.eval (.tmp t) = ac0.eval (.tmp t)) → ac1.eval (.tmp 11) = .int .i64 (i + 1) →  Hid (Hp [] wa wz [rB b12 84 [.int .i64 0, .int .i64 0, .int .i64 0, .int .i64 0, .int .i64 0, .int .i64 0, .int .i64 0, .int .i64 0, .int .i64 0, .int .i64 0, .int .i64 0, .int .i64 0, .int .i64 0, .int .i64 0, .int .i64 0, .int .i64 0, .int .i64 0, .int .u32 0, .int .i64 0, .slice none 0 0], rB b9 84 (kL (mkC c) (mkR c) (.slice a ps.length cc)), rB b7 87 [.int .i64 v.kind, .int .i64 v.now, .int .i64 v.who, .int .u64 v.key, .string v.body], rB b6 87 [.int .i64 u.kind, .int .i64 u.now, .int .i64 u.who, .int .u64 u.key, .string u.body], rB b4 24 (cL c), rS a cc 4 (ps.map rowOf), rS (some y) rc 5 (acts.map actRow)]) → QR .normal ac1 wz) : (regAt Try.f11 9).wp Try.prog QR ac0 wb := by
  refine wp_region_sq (by kernel_rfl) 157 hz (by kernel_rfl) (fun (xx : Unit) jx => nth [.int .i64 i, .int .i64 (i + 1), .int .i64 (i + 1)] jx) (fun (LL : Nat → Bool) (xx : Unit) ww => Hp [] wa ww [rB b12 84 [.int .i64 0, .int .i64 0, .int .i64 0, .int .i64 0, .int .i64 0, .int .i64 0, .int .i64 0, .int .i64 0, .int .i64 0, .int .i64 0, .int .i64 0, .int .i64 0, .int .i64 0, .int .i64 0, .int .i64 0, .int .i64 0, .int .i64 0, .int .u32 0, .int .i64 0, .slice none 0 0], rB b9 84 (kL (mkC c) (mkR c) (.slice a ps.length cc)), rB b7 87 [.int .i64 v.kind, .int .i64 v.now, .int .i64 v.who, .int .u64 v.key, .string v.body], rB b6 87 [.int .i64 u.kind, .int .i64 u.now, .int .i64 u.who, .int .u64 u.key, .string u.body], rB b4 24 (cL c), rS a cc 4 (ps.map rowOf), rS (some y) rc 5 (acts.map actRow)]) () H.out ?_ (steps_al ?_) ?_ ?_
  · exact fun _ _ _ _ _ h => h
  · refine al_cons ?_ (al_cons ?_ (al_cons ?_ (al_nil)))
    · intro LL xx ac wc sg hst hwant QQ hgo
      exact op_val hwant hgo hst _ (exec_move rfl ((sg.yet 11 2 (sg.des 2 rfl) (by kernel_rfl)).trans so11)) rfl
    · intro LL xx ac wc sg hst hwant QQ hgo
      have se31 : ac.eval (.tmp 31) = _ := (sg.slot 0 (sg.anc 0 rfl))
      have sg31 := gt_of se31
      (try simp only [nth] at se31 sg31)
      have hnw : IntKind.i64.wrap (i + 1 : Int) = i + 1 := IntWalk.i64_in _ (by omega)
      exact op_val hwant hgo hst _ (by simp only [execOp, nth]; go_simp <;> omega) rfl
    · intro LL xx ac wc sg hst hwant QQ hgo
      exact op_val hwant hgo hst _ (exec_assign rfl (sg.slot 1 (sg.anc 1 rfl))) rfl
  · exact skips [] (by kernel_rfl) (fun _ h => by cases h)
  · intro xx ac1 wz hfr hsl hst
    exact hfin ac1 wz (hfr.size.trans hz) hfr.defers (fr_keep hfr [11, 31, 32] (by kernel_rfl)) (hsl 2 (by decide)) (Lib.hid hst)
set_option maxRecDepth 20000 in
theorem apart_w_r13x1 (c : Cfg) (rc : Nat) (acts : List ActK) (u : ActK) (v : ActK) (hu0 : 0 ≤ u.key) (hu1 : u.key ≤ 18446744073709551615) (hv0 : 0 ≤ v.key) (hv1 : v.key ≤ 18446744073709551615) (b4 : Nat) (b6 : Nat) (b7 : Nat) (z1d : ¬ (60 < (acts.length : Int))) (b9 : Nat) (i : Nat) (a : Option Addr) (cc : Nat) (ps : List PairV) (now : Int) (hi : i ≤ acts.length) (hl : ps.length ≤ i) (hs : Hid (Sorted ps)) (hn0 : 0 ≤ now) (hn1 : now ≤ 2 * i) (z2d : i < acts.length) (y : Addr) (x : ActK) (HR : Hid ((acts.map actRow)[i]? = some [.int .i64 x.kind, .int .i64 x.now, .int .i64 x.who, .int .u64 x.key, .string x.body])) (hk0 : 0 ≤ x.key) (hk1 : x.key ≤ 18446744073709551615) (z3d : ¬ (40 < (x.body.size : Int))) (m : Nat) (hm1 : m ≤ 2) (hm : IntKind.i64.wrap ((IntKind.u64.wrap x.now).tmod 3) = (m : Int)) (y4 : ((lookV (mkC c) ps (now + m) x.who x.key x.body).2 != 1) = false) {wa wb : World} (H : Hid (Hp [] wa wb [rB b9 84 (kL (mkC c) (mkR c) (.slice a ps.length cc)), rB b7 87 [.int .i64 v.kind, .int .i64 v.now, .int .i64 v.who, .int .u64 v.key, .string v.body], rB b6 87 [.int .i64 u.kind, .int .i64 u.now, .int .i64 u.who, .int .u64 u.key, .string u.body], rB b4 24 (cL c), rS a cc 4 (ps.map rowOf), rS (some y) rc 5 (acts.map actRow)])) (ac0 : Act) (hz : ac0.tmps.size = 157) (so1 : ac0.eval (.tmp 1) = .slice (some y) acts.length rc) (so9 : ac0.eval (.tmp 9) = .pointer (some ⟨b9, 0, none⟩)) (so10 : ac0.eval (.tmp 10) = .int .i64 (now + m)) (so11 : ac0.eval (.tmp 11) = .int .i64 i) {QR : Exit → Act → World → Prop} (hfin : ∀ (b12 : Nat) (a13_22 : Option Addr) (c13_22 : Nat) (ac1 : Act) (wz : World), ac1.tmps.size = 157 → ac1.defers = ac0.defers → (∀ t, ([12, 13, 50, 51, 52, 53, 54, 55, 56, 57, 58, 59, 60, 61, 62, 63, 64, 65, 66, 67, 68, 69, 70, 71, 72, 73, 74, 75] : List Nat).contains t = false → ac1.eval (.tmp t) = ac0.eval (.tmp t)) → ac1.eval (.tmp 12) = .pointer (some ⟨b12, 0, none⟩) → ac1.eval (.tmp 13) = .int .i64 0 →  Hid (Hp [] wa wz [rS a13_22 c13_22 4 ((withV (mkR c) (nameV x.who x.key) ⟨x.key / 4294967296, x.body, x.body⟩ (ps.filter (keepB (mkC c) (now + m)))).1.map rowOf), rB b12 84 (kL (mkC c) (mkR c) (.slice a13_22 ((withV (mkR c) (nameV x.who x.key) ⟨x.key / 4294967296, x.body, x.body⟩ (ps.filter (keepB (mkC c) (now + m)))).1.length) c13_22)), rB b9 84 (kL (mkC c) (mkR c) (.slice a ps.length cc)), rB b7 87 [.int .i64 v.kind, .int .i64 v.now, .int .i64 v.who, .int .u64 v.key, .string v.body], rB b6 87 [.int .i64 u.kind, .int .i64 u.now, .int .i64 u.who, .int .u64 u.key, .string u.body], rB b4 24 (cL c), rS a cc 4 (ps.map rowOf), rS (some y) rc 5 (acts.map actRow)]) → QR .normal ac1 wz) : (regAt Try.f11 13).wp Try.prog QR ac0 wb := by
  refine wp_region_st mixedP ⟨[0, 0, 0, 0, 1, 2, 3, 0, 0, 1, 2, 3, 0, 0, 1, 2, 3, 0, 0, 1, 2, 3, 4, 5, 6, 6, 0, 7, 8], by kernel_rfl⟩ [[], [], [], [], [2, 3], [2, 3, 4], [2, 3, 4, 5], [], [], [7, 8], [7, 8, 9], [7, 8, 9, 10], [], [], [12, 13], [12, 13, 14], [12, 13, 14, 15], [], [], [17, 18], [17, 18, 19], [17, 18, 19, 20], [0, 1, 2, 3, 4, 5, 6, 7, 8, 9, 10, 11, 12, 13, 14, 15, 16, 17, 18, 19, 20, 21], [0, 1, 2, 3, 4, 5, 6, 7, 8, 9, 10, 11, 12, 13, 14, 15, 16, 17, 18, 19, 20, 21, 22], [0, 1, 2, 3, 4, 5, 6, 7, 8, 9, 10, 11, 12, 13, 14, 15, 16, 17, 18, 19, 20, 21, 22, 23], [0, 1, 2, 3, 4, 5, 6, 7, 8, 9, 10, 11, 12, 13, 14, 15, 16, 17, 18, 19, 20, 21, 22, 23], [], [0, 1, 2, 3, 4, 5, 6, 7, 8, 9, 10, 11, 12, 13, 14, 15, 16, 17, 18, 19, 20, 21, 22, 23, 24, 26], [0, 1, 2, 3, 4, 5, 6, 7, 8, 9, 10, 11, 12, 13, 14, 15, 16, 17, 18, 19, 20, 21, 22, 23, 24, 25, 26, 27]] (by kernel_rfl) (by kernel_rfl) 157 hz (by kernel_rfl) (fun (xx : Nat × Option Addr × Nat) jx => match xx with | (b12, a13_22, c13_22) => nth [.agg (kA (mkC c) (mkR c) (.slice a ps.length cc)), .int .i64 (now + m), .slice (some y) acts.length rc, .int .i64 i, .pointer (some (y.add (i * 5))), .pointer (some ⟨(y.add (i * 5)).block, (y.add (i * 5)).off + 2, none⟩), .int .i64 x.who, .slice (some y) acts.length rc, .int .i64 i, .pointer (some (y.add (i * 5))), .pointer (some ⟨(y.add (i * 5)).block, (y.add (i * 5)).off + 3, none⟩), .int .u64 x.key, .slice (some y) acts.length rc, .int .i64 i, .pointer (some (y.add (i * 5))), .pointer (some ⟨(y.add (i * 5)).block, (y.add (i * 5)).off + 4, none⟩), .string x.body, .slice (some y) acts.length rc, .int .i64 i, .pointer (some (y.add (i * 5))), .pointer (some ⟨(y.add (i * 5)).block, (y.add (i * 5)).off + 4, none⟩), .string x.body, .tuple #[.agg (kA (mkC c) (mkR c) (.slice a13_22 ((withV (mkR c) (nameV x.who x.key) ⟨x.key / 4294967296, x.body, x.body⟩ (ps.filter (keepB (mkC c) (now + m)))).1.length) c13_22)), .int .i64 0], .tuple #[.agg (kA (mkC c) (mkR c) (.slice a13_22 ((withV (mkR c) (nameV x.who x.key) ⟨x.key / 4294967296, x.body, x.body⟩ (ps.filter (keepB (mkC c) (now + m)))).1.length) c13_22)), .int .i64 0], .agg (kA (mkC c) (mkR c) (.slice a13_22 ((withV (mkR c) (nameV x.who x.key) ⟨x.key / 4294967296, x.body, x.body⟩ (ps.filter (keepB (mkC c) (now + m)))).1.length) c13_22)), .int .i64 0, .pointer (some ⟨b12, 0, none⟩), undef, .int .i64 0] jx) (fun (LL : Nat → Bool) (xx : Nat × Option Addr × Nat) ww => match xx with | (b12, a13_22, c13_22) => Hp [] wa ww (bif LL 26 then (bif LL 22 then (bif LL 27 then [rS a13_22 c13_22 4 ((withV (mkR c) (nameV x.who x.key) ⟨x.key / 4294967296, x.body, x.body⟩ (ps.filter (keepB (mkC c) (now + m)))).1.map rowOf), rB b12 84 (kL (mkC c) (mkR c) (.slice a13_22 ((withV (mkR c) (nameV x.who x.key) ⟨x.key / 4294967296, x.body, x.body⟩ (ps.filter (keepB (mkC c) (now + m)))).1.length) c13_22)), rB b9 84 (kL (mkC c) (mkR c) (.slice a ps.length cc)), rB b7 87 [.int .i64 v.kind, .int .i64 v.now, .int .i64 v.who, .int .u64 v.key, .string v.body], rB b6 87 [.int .i64 u.kind, .int .i64 u.now, .int .i64 u.who, .int .u64 u.key, .string u.body], rB b4 24 (cL c), rS a cc 4 (ps.map rowOf), rS (some y) rc 5 (acts.map actRow)] else [rS a13_22 c13_22 4 ((withV (mkR c) (nameV x.who x.key) ⟨x.key / 4294967296, x.body, x.body⟩ (ps.filter (keepB (mkC c) (now + m)))).1.map rowOf), rB b12 84 [.int .i64 0, .int .i64 0, .int .i64 0, .int .i64 0, .int .i64 0, .int .i64 0, .int .i64 0, .int .i64 0, .int .i64 0, .int .i64 0, .int .i64 0, .int .i64 0, .int .i64 0, .int .i64 0, .int .i64 0, .int .i64 0, .int .i64 0, .int .u32 0, .int .i64 0, .slice none 0 0], rB b9 84 (kL (mkC c) (mkR c) (.slice a ps.length cc)), rB b7 87 [.int .i64 v.kind, .int .i64 v.now, .int .i64 v.who, .int .u64 v.key, .string v.body], rB b6 87 [.int .i64 u.kind, .int .i64 u.now, .int .i64 u.who, .int .u64 u.key, .string u.body], rB b4 24 (cL c), rS a cc 4 (ps.map rowOf), rS (some y) rc 5 (acts.map actRow)]) else [rB b12 84 [.int .i64 0, .int .i64 0, .int .i64 0, .int .i64 0, .int .i64 0, .int .i64 0, .int .i64 0, .int .i64 0, .int .i64 0, .int .i64 0, .int .i64 0, .int .i64 0, .int .i64 0, .int .i64 0, .int .i64 0, .int .i64 0, .int .i64 0, .int .u32 0, .int .i64 0, .slice none 0 0], rB b9 84 (kL (mkC c) (mkR c) (.slice a ps.length cc)), rB b7 87 [.int .i64 v.kind, .int .i64 v.now, .int .i64 v.who, .int .u64 v.key, .string v.body], rB b6 87 [.int .i64 u.kind, .int .i64 u.now, .int .i64 u.who, .int .u64 u.key, .string u.body], rB b4 24 (cL c), rS a cc 4 (ps.map rowOf), rS (some y) rc 5 (acts.map actRow)]) else (bif LL 22 then [rS a13_22 c13_22 4 ((withV (mkR c) (nameV x.who x.key) ⟨x.key / 4294967296, x.body, x.body⟩ (ps.filter (keepB (mkC c) (now + m)))).1.map rowOf), rB b9 84 (kL (mkC c) (mkR c) (.slice a ps.length cc)), rB b7 87 [.int .i64 v.kind, .int .i64 v.now, .int .i64 v.who, .int .u64 v.key, .string v.body], rB b6 87 [.int .i64 u.kind, .int .i64 u.now, .int .i64 u.who, .int .u64 u.key, .string u.body], rB b4 24 (cL c), rS a cc 4 (ps.map rowOf), rS (some y) rc 5 (acts.map actRow)] else [rB b9 84 (kL (mkC c) (mkR c) (.slice a ps.length cc)), rB b7 87 [.int .i64 v.kind, .int .i64 v.now, .int .i64 v.who, .int .u64 v.key, .string v.body], rB b6 87 [.int .i64 u.kind, .int .i64 u.now, .int .i64 u.who, .int .u64 u.key, .string u.body], rB b4 24 (cL c), rS a cc 4 (ps.map rowOf), rS (some y) rc 5 (acts.map actRow)]))) (default, default, default) H.out.drew ?_ (steps_al ?_) ?_ ?_
  · intro L1 L2 xx ww hL sg
    have lh26 := hL 26 (by decide)
    have lh22 := hL 22 (by decide)
    have lh27 := hL 27 (by decide)
    simp only [lh26, lh22, lh27] at sg
    exact sg
  · refine al_cons ?_ (al_cons ?_ (al_cons ?_ (al_cons ?_ (al_cons ?_ (al_cons ?_ (al_cons ?_ (al_cons ?_ (al_cons ?_ (al_cons ?_ (al_cons ?_ (al_cons ?_ (al_cons ?_ (al_cons ?_ (al_cons ?_ (al_cons ?_ (al_cons ?_ (al_cons ?_ (al_cons ?_ (al_cons ?_ (al_cons ?_ (al_cons ?_ (al_cons ?_ (al_cons ?_ (al_cons ?_ (al_cons ?_ (al_cons ?_ (al_cons ?_ (al_cons ?_ (al_nil)))))))))))))))))))))))))))))
    · intro LL xx ac wc sg hst hwant QQ hgo
      obtain ⟨b12, a13_22, c13_22⟩ := xx
      rcases Bool.eq_false_or_eq_true (LL 26) with lh26 | lh26
      · skip
        have H := Lib.hid hst
        simp only [lh26, sg.des 22 rfl, sg.des 27 rfl, cond_true, cond_false] at H
        refine hpA_load tykeys_Keys H rfl ((sg.free 9 (by kernel_rfl)).trans so9) hwant (by (repeat (first | exact List.Mem.head _ | apply List.Mem.tail))) (by rfl) rfl ?_
        exact hgo _ (b12, a13_22, c13_22) _ (fun _ _ => rfl) rfl hst
      · skip
        have H := Lib.hid hst
        simp only [lh26, sg.des 22 rfl, sg.des 27 rfl, cond_true, cond_false] at H
        refine hpA_load tykeys_Keys H rfl ((sg.free 9 (by kernel_rfl)).trans so9) hwant (by (repeat (first | exact List.Mem.head _ | apply List.Mem.tail))) (by rfl) rfl ?_
        exact hgo _ (b12, a13_22, c13_22) _ (fun _ _ => rfl) rfl hst
    · intro LL xx ac wc sg hst hwant QQ hgo
      obtain ⟨b12, a13_22, c13_22⟩ := xx
      exact op_val hwant hgo hst _ (exec_move rfl ((sg.free 10 (by kernel_rfl)).trans so10)) rfl
    · intro LL xx ac wc sg hst hwant QQ hgo
      obtain ⟨b12, a13_22, c13_22⟩ := xx
      exact op_val hwant hgo hst _ (exec_move rfl ((sg.free 1 (by kernel_rfl)).trans so1)) rfl
    · intro LL xx ac wc sg hst hwant QQ hgo
      obtain ⟨b12, a13_22, c13_22⟩ := xx
      exact op_val hwant hgo hst _ (exec_move rfl ((sg.free 11 (by kernel_rfl)).trans so11)) rfl
    · intro LL xx ac wc sg hst hwant QQ hgo
      obtain ⟨b12, a13_22, c13_22⟩ := xx
      have se53 : ac.eval (.tmp 53) = _ := (sg.slot 2 (sg.anc 2 rfl))
      have sg53 := gt_of se53
      have se54 : ac.eval (.tmp 54) = _ := (sg.slot 3 (sg.anc 3 rfl))
      have sg54 := gt_of se54
      (try simp only [nth] at se53 sg53 se54 sg54)
      exact op_val hwant hgo hst _ (by simp only [execOp, nth]; go_simp <;> omega) rfl
    · intro LL xx ac wc sg hst hwant QQ hgo
      obtain ⟨b12, a13_22, c13_22⟩ := xx
      have se55 : ac.eval (.tmp 55) = _ := (sg.slot 4 (sg.anc 4 rfl))
      have sg55 := gt_of se55
      (try simp only [nth] at se55 sg55)
      exact op_val hwant hgo hst _ (by simp only [execOp, nth]; go_simp <;> omega) rfl
    · intro LL xx ac wc sg hst hwant QQ hgo
      obtain ⟨b12, a13_22, c13_22⟩ := xx
      rcases Bool.eq_false_or_eq_true (LL 26) with lh26 | lh26
      · skip
        have H := Lib.hid hst
        simp only [lh26, sg.des 22 rfl, sg.des 27 rfl, cond_true, cond_false] at H
        refine hpS_load1 2 tyint H rfl (sg.slot 5 (sg.anc 5 rfl)) hwant (by (repeat (first | exact List.Mem.head _ | apply List.Mem.tail))) HR.out (by rfl) (by simp [Addr.add]) ?_
        exact hgo _ (b12, a13_22, c13_22) _ (fun _ _ => rfl) rfl hst
      · skip
        have H := Lib.hid hst
        simp only [lh26, sg.des 22 rfl, sg.des 27 rfl, cond_true, cond_false] at H
        refine hpS_load1 2 tyint H rfl (sg.slot 5 (sg.anc 5 rfl)) hwant (by (repeat (first | exact List.Mem.head _ | apply List.Mem.tail))) HR.out (by rfl) (by simp [Addr.add]) ?_
        exact hgo _ (b12, a13_22, c13_22) _ (fun _ _ => rfl) rfl hst
    · intro LL xx ac wc sg hst hwant QQ hgo
      obtain ⟨b12, a13_22, c13_22⟩ := xx
      exact op_val hwant hgo hst _ (exec_move rfl ((sg.free 1 (by kernel_rfl)).trans so1)) rfl
    · intro LL xx ac wc sg hst hwant QQ hgo
      obtain ⟨b12, a13_22, c13_22⟩ := xx
      exact op_val hwant hgo hst _ (exec_move rfl ((sg.free 11 (by kernel_rfl)).trans so11)) rfl
    · intro LL xx ac wc sg hst hwant QQ hgo
      obtain ⟨b12, a13_22, c13_22⟩ := xx
      have se58 : ac.eval (.tmp 58) = _ := (sg.slot 7 (sg.anc 7 rfl))
      have sg58 := gt_of se58
      have se59 : ac.eval (.tmp 59) = _ := (sg.slot 8 (sg.anc 8 rfl))
      have sg59 := gt_of se59
      (try simp only [nth] at se58 sg58 se59 sg59)
      exact op_val hwant hgo hst _ (by simp only [execOp, nth]; go_simp <;> omega) rfl
    · intro LL xx ac wc sg hst hwant QQ hgo
      obtain ⟨b12, a13_22, c13_22⟩ := xx
      have se60 : ac.eval (.tmp 60) = _ := (sg.slot 9 (sg.anc 9 rfl))
      have sg60 := gt_of se60
      (try simp only [nth] at se60 sg60)
      exact op_val hwant hgo hst _ (by simp only [execOp, nth]; go_simp <;> omega) rfl
    · intro LL xx ac wc sg hst hwant QQ hgo
      obtain ⟨b12, a13_22, c13_22⟩ := xx
      rcases Bool.eq_false_or_eq_true (LL 26) with lh26 | lh26
      · skip
        have H := Lib.hid hst
        simp only [lh26, sg.des 22 rfl, sg.des 27 rfl, cond_true, cond_false] at H
        refine hpS_load1 3 tyuint64 H rfl (sg.slot 10 (sg.anc 10 rfl)) hwant (by (repeat (first | exact List.Mem.head _ | apply List.Mem.tail))) HR.out (by rfl) (by simp [Addr.add]) ?_
        exact hgo _ (b12, a13_22, c13_22) _ (fun _ _ => rfl) rfl hst
      · skip
        have H := Lib.hid hst
        simp only [lh26, sg.des 22 rfl, sg.des 27 rfl, cond_true, cond_false] at H
        refine hpS_load1 3 tyuint64 H rfl (sg.slot 10 (sg.anc 10 rfl)) hwant (by (repeat (first | exact List.Mem.head _ | apply List.Mem.tail))) HR.out (by rfl) (by simp [Addr.add]) ?_
        exact hgo _ (b12, a13_22, c13_22) _ (fun _ _ => rfl) rfl hst
    · intro LL xx ac wc sg hst hwant QQ hgo
      obtain ⟨b12, a13_22, c13_22⟩ := xx
      exact op_val hwant hgo hst _ (exec_move rfl ((sg.free 1 (by kernel_rfl)).trans so1)) rfl
    · intro LL xx ac wc sg hst hwant QQ hgo
      obtain ⟨b12, a13_22, c13_22⟩ := xx
      exact op_val hwant hgo hst _ (exec_move rfl ((sg.free 11 (by kernel_rfl)).trans so11)) rfl
    · intro LL xx ac wc sg hst hwant QQ hgo
      obtain ⟨b12, a13_22, c13_22⟩ := xx
      have se63 : ac.eval (.tmp 63) = _ := (sg.slot 12 (sg.anc 12 rfl))
      have sg63 := gt_of se63
      have se64 : ac.eval (.tmp 64) = _ := (sg.slot 13 (sg.anc 13 rfl))
      have sg64 := gt_of se64
      (try simp only [nth] at se63 sg63 se64 sg64)
      exact op_val hwant hgo hst _ (by simp only [execOp, nth]; go_simp <;> omega) rfl
    · intro LL xx ac wc sg hst hwant QQ hgo
      obtain ⟨b12, a13_22, c13_22⟩ := xx
      have se65 : ac.eval (.tmp 65) = _ := (sg.slot 14 (sg.anc 14 rfl))
      have sg65 := gt_of se65
      (try simp only [nth] at se65 sg65)
      exact op_val hwant hgo hst _ (by simp only [execOp, nth]; go_simp <;> omega) rfl
    · intro LL xx ac wc sg hst hwant QQ hgo
      obtain ⟨b12, a13_22, c13_22⟩ := xx
      rcases Bool.eq_false_or_eq_true (LL 26) with lh26 | lh26
      · skip
        have H := Lib.hid hst
        simp only [lh26, sg.des 22 rfl, sg.des 27 rfl, cond_true, cond_false] at H
        refine hpS_load1 4 tystring H rfl (sg.slot 15 (sg.anc 15 rfl)) hwant (by (repeat (first | exact List.Mem.head _ | apply List.Mem.tail))) HR.out (by rfl) (by simp [Addr.add]) ?_
        exact hgo _ (b12, a13_22, c13_22) _ (fun _ _ => rfl) rfl hst
      · skip
        have H := Lib.hid hst
        simp only [lh26, sg.des 22 rfl, sg.des 27 rfl, cond_true, cond_false] at H
        refine hpS_load1 4 tystring H rfl (sg.slot 15 (sg.anc 15 rfl)) hwant (by (repeat (first | exact List.Mem.head _ | apply List.Mem.tail))) HR.out (by rfl) (by simp [Addr.add]) ?_
        exact hgo _ (b12, a13_22, c13_22) _ (fun _ _ => rfl) rfl hst
    · intro LL xx ac wc sg hst hwant QQ hgo
      obtain ⟨b12, a13_22, c13_22⟩ := xx
      exact op_val hwant hgo hst _ (exec_move rfl ((sg.free 1 (by kernel_rfl)).trans so1)) rfl
    · intro LL xx ac wc sg hst hwant QQ hgo
      obtain ⟨b12, a13_22, c13_22⟩ := xx
      exact op_val hwant hgo hst _ (exec_move rfl ((sg.free 11 (by kernel_rfl)).trans so11)) rfl
    · intro LL xx ac wc sg hst hwant QQ hgo
      obtain ⟨b12, a13_22, c13_22⟩ := xx
      have se68 : ac.eval (.tmp 68) = _ := (sg.slot 17 (sg.anc 17 rfl))
      have sg68 := gt_of se68
      have se69 : ac.eval (.tmp 69) = _ := (sg.slot 18 (sg.anc 18 rfl))
      have sg69 := gt_of se69
      (try simp only [nth] at se68 sg68 se69 sg69)
      exact op_val hwant hgo hst _ (by simp only [execOp, nth]; go_simp <;> omega) rfl
    · intro LL xx ac wc sg hst hwant QQ hgo
      obtain ⟨b12, a13_22, c13_22⟩ := xx
      have se70 : ac.eval (.tmp 70) = _ := (sg.slot 19 (sg.anc 19 rfl))
      have sg70 := gt_of se70
      (try simp only [nth] at se70 sg70)
      exact op_val hwant hgo hst _ (by simp only [execOp, nth]; go_simp <;> omega) rfl
    · intro LL xx ac wc sg hst hwant QQ hgo
      obtain ⟨b12, a13_22, c13_22⟩ := xx
      rcases Bool.eq_false_or_eq_true (LL 26) with lh26 | lh26
      · skip
        have H := Lib.hid hst
        simp only [lh26, sg.des 22 rfl, sg.des 27 rfl, cond_true, cond_false] at H
        refine hpS_load1 4 tystring H rfl (sg.slot 20 (sg.anc 20 rfl)) hwant (by (repeat (first | exact List.Mem.head _ | apply List.Mem.tail))) HR.out (by rfl) (by simp [Addr.add]) ?_
        exact hgo _ (b12, a13_22, c13_22) _ (fun _ _ => rfl) rfl hst
      · skip
        have H := Lib.hid hst
        simp only [lh26, sg.des 22 rfl, sg.des 27 rfl, cond_true, cond_false] at H
        refine hpS_load1 4 tystring H rfl (sg.slot 20 (sg.anc 20 rfl)) hwant (by (repeat (first | exact List.Mem.head _ | apply List.Mem.tail))) HR.out (by rfl) (by simp [Addr.add]) ?_
        exact hgo _ (b12, a13_22, c13_22) _ (fun _ _ => rfl) rfl hst
    · intro LL xx ac wc sg hst hwant QQ hgo
      obtain ⟨b12, _, _⟩ := xx
      have se51 : ac.eval (.tmp 51) = _ := (sg.slot 0 (sg.anc 0 rfl))
      have sg51 := gt_of se51
      have se52 : ac.eval (.tmp 52) = _ := (sg.slot 1 (sg.anc 1 rfl))
      have sg52 := gt_of se52
      have se57 : ac.eval (.tmp 57) = _ := (sg.slot 6 (sg.anc 6 rfl))
      have sg57 := gt_of se57
      have se62 : ac.eval (.tmp 62) = _ := (sg.slot 11 (sg.anc 11 rfl))
      have sg62 := gt_of se62
      have se67 : ac.eval (.tmp 67) = _ := (sg.slot 16 (sg.anc 16 rfl))
      have sg67 := gt_of se67
      have se72 : ac.eval (.tmp 72) = _ := (sg.slot 21 (sg.anc 21 rfl))
      have sg72 := gt_of se72
      (try simp only [nth] at se51 sg51 se52 sg52 se57 sg57 se62 sg62 se67 sg67 se72 sg72)
      rcases Bool.eq_false_or_eq_true (LL 26) with lh26 | lh26
      · skip
        have H := Lib.hid hst
        simp only [lh26, sg.self, sg.des 27 rfl, cond_true, cond_false] at H
        refine op_call hwant hgo 50 _ (by simp only [execOp]; go_simp) (withYes (mkC c) (mkR c) a cc ps (now + m) x.who x.key x.body x.body wc (hp_held H (by (repeat (first | exact List.Mem.head _ | apply List.Mem.tail)))) hk0 hk1 hs (by omega) y4) ?_
        rintro er wd ⟨a13_22, c13_22, rfl, hgv⟩
        have H2 := hp_got H hgv.2.2 hgv.1 (by decide) hgv.2.1 (by simp)
        exact ⟨_, (b12, a13_22, c13_22), rfl, (sg.agree (x' := (b12, a13_22, c13_22)) (n := 29) rfl (by (iterate 29 (refine ix_cons (by first | exact fun _ => rfl | exact no sg.self | exact no (sg.des _ rfl)) ?_)); exact ix_nil)), rfl, (by simp only [(show upd LL 22 26 = LL 26 from rfl), lh26, (show upd LL 22 22 = true from rfl), (show upd LL 22 27 = LL 27 from rfl), sg.des 27 rfl, cond_true, cond_false]; exact H2.out)⟩
      · skip
        have H := Lib.hid hst
        simp only [lh26, sg.self, sg.des 27 rfl, cond_true, cond_false] at H
        refine op_call hwant hgo 50 _ (by simp only [execOp]; go_simp) (withYes (mkC c) (mkR c) a cc ps (now + m) x.who x.key x.body x.body wc (hp_held H (by (repeat (first | exact List.Mem.head _ | apply List.Mem.tail)))) hk0 hk1 hs (by omega) y4) ?_
        rintro er wd ⟨a13_22, c13_22, rfl, hgv⟩
        have H2 := hp_got H hgv.2.2 hgv.1 (by decide) hgv.2.1 (by simp)
        exact ⟨_, (b12, a13_22, c13_22), rfl, (sg.agree (x' := (b12, a13_22, c13_22)) (n := 29) rfl (by (iterate 29 (refine ix_cons (by first | exact fun _ => rfl | exact no sg.self | exact no (sg.des _ rfl)) ?_)); exact ix_nil)), rfl, (by simp only [(show upd LL 22 26 = LL 26 from rfl), lh26, (show upd LL 22 22 = true from rfl), (show upd LL 22 27 = LL 27 from rfl), sg.des 27 rfl, cond_true, cond_false]; exact H2.out)⟩
    · intro LL xx ac wc sg hst hwant QQ hgo
      obtain ⟨b12, a13_22, c13_22⟩ := xx
      exact op_val hwant hgo hst _ (exec_move rfl (sg.slot 22 (sg.anc 22 rfl))) rfl
    · intro LL xx ac wc sg hst hwant QQ hgo
      obtain ⟨b12, a13_22, c13_22⟩ := xx
      have se50 : ac.eval (.tmp 50) = _ := (sg.slot 23 (sg.anc 23 rfl))
      have sg50 := gt_of se50
      (try simp only [nth] at se50 sg50)
      exact op_val hwant hgo hst _ (by simp only [execOp, nth]; go_simp <;> omega) rfl
    · intro LL xx ac wc sg hst hwant QQ hgo
      obtain ⟨b12, a13_22, c13_22⟩ := xx
      have se50 : ac.eval (.tmp 50) = _ := (sg.slot 23 (sg.anc 23 rfl))
      have sg50 := gt_of se50
      (try simp only [nth] at se50 sg50)
      exact op_val hwant hgo hst _ (by simp only [execOp, nth]; go_simp <;> omega) rfl
    · intro LL xx ac wc sg hst hwant QQ hgo
      obtain ⟨_, a13_22, c13_22⟩ := xx
      rcases Bool.eq_false_or_eq_true (LL 22) with lh22 | lh22
      · skip
        have H := Lib.hid hst
        simp only [sg.self, lh22, sg.des 27 rfl, cond_true, cond_false] at H
        refine hpA_alloc tykeys_Keys H rfl rfl ?_
        intro wd b12 H2
        replace H2 := hp_front H2 7 rfl
        replace H2 := hp_front H2 7 rfl
        replace H2 := hp_front H2 7 rfl
        replace H2 := hp_front H2 7 rfl
        replace H2 := hp_front H2 7 rfl
        replace H2 := hp_front H2 7 rfl
        replace H2 := hp_front H2 6 rfl
        replace H2 := hp_front H2 7 rfl
        exact hgo _ (b12, a13_22, c13_22) _ (sg.agree (x' := (b12, a13_22, c13_22)) (n := 29) rfl (by (iterate 29 (refine ix_cons (by first | exact fun _ => rfl | exact no sg.self | exact no (sg.des _ rfl)) ?_)); exact ix_nil)) rfl (by simp only [(show upd LL 26 26 = true from rfl), (show upd LL 26 22 = LL 22 from rfl), lh22, (show upd LL 26 27 = LL 27 from rfl), sg.des 27 rfl, cond_true, cond_false]; exact H2.out)
      · skip
        have H := Lib.hid hst
        simp only [sg.self, lh22, sg.des 27 rfl, cond_true, cond_false] at H
        refine hpA_alloc tykeys_Keys H rfl rfl ?_
        intro wd b12 H2
        exact hgo _ (b12, a13_22, c13_22) _ (sg.agree (x' := (b12, a13_22, c13_22)) (n := 29) rfl (by (iterate 29 (refine ix_cons (by first | exact fun _ => rfl | exact no sg.self | exact no (sg.des _ rfl)) ?_)); exact ix_nil)) rfl (by simp only [(show upd LL 26 26 = true from rfl), (show upd LL 26 22 = LL 22 from rfl), lh22, (show upd LL 26 27 = LL 27 from rfl), sg.des 27 rfl, cond_true, cond_false]; exact H2.out)
    · intro LL xx ac wc sg hst hwant QQ hgo
      obtain ⟨b12, a13_22, c13_22⟩ := xx
      have H := Lib.hid hst
      simp only [sg.anc 26 rfl, sg.anc 22 rfl, sg.self, cond_true, cond_false] at H
      refine hpA_store tykeys_Keys H rfl rfl (sg.slot 26 (sg.anc 26 rfl)) (sg.slot 24 (sg.anc 24 rfl)) rfl (by repeat (first | apply Put.head | apply Put.tail)) (by simp [kA, kL, rkA, rkL, cA, cL]) (by simp [kA, kL, rkA, rkL, cA, cL, Value.oneCell']) (by first | rfl | (simp only [spl]; rfl)) rfl ?_
      intro wd H2
      exact hgo _ (b12, a13_22, c13_22) _ (sg.agree (x' := (b12, a13_22, c13_22)) (n := 29) rfl (by (iterate 29 (refine ix_cons (by first | exact fun _ => rfl | exact no sg.self | exact no (sg.des _ rfl)) ?_)); exact ix_nil)) rfl (by simp only [(show upd LL 27 26 = LL 26 from rfl), sg.anc 26 rfl, (show upd LL 27 22 = LL 22 from rfl), sg.anc 22 rfl, (show upd LL 27 27 = true from rfl), cond_true, cond_false]; exact H2.out)
    · intro LL xx ac wc sg hst hwant QQ hgo
      obtain ⟨b12, a13_22, c13_22⟩ := xx
      exact op_val hwant hgo hst _ (exec_assign rfl (sg.slot 25 (sg.anc 25 rfl))) rfl
  · exact skips [] (by kernel_rfl) (fun _ h => by cases h)
  · intro xx ac1 wz hfr hsl hst
    obtain ⟨b12, a13_22, c13_22⟩ := xx
    exact hfin b12 a13_22 c13_22 ac1 wz (hfr.size.trans hz) hfr.defers (fr_keep hfr [12, 13, 50, 51, 52, 53, 54, 55, 56, 57, 58, 59, 60, 61, 62, 63, 64, 65, 66, 67, 68, 69, 70, 71, 72, 73, 74, 75] (by kernel_rfl)) (hsl 26 (by decide)) (hsl 28 (by decide)) (Lib.hid hst)
set_option maxRecDepth 20000 in
theorem apart_w_r14x1 (c : Cfg) (rc : Nat) (acts : List ActK) (u : ActK) (v : ActK) (hu0 : 0 ≤ u.key) (hu1 : u.key ≤ 18446744073709551615) (hv0 : 0 ≤ v.key) (hv1 : v.key ≤ 18446744073709551615) (b4 : Nat) (b6 : Nat) (b7 : Nat) (z1d : ¬ (60 < (acts.length : Int))) (b9 : Nat) (i : Nat) (a : Option Addr) (cc : Nat) (ps : List PairV) (now : Int) (hi : i ≤ acts.length) (hl : ps.length ≤ i) (hn0 : 0 ≤ now) (hn1 : now ≤ 2 * i) (z2d : i < acts.length) (y : Addr) (x : ActK) (hk0 : 0 ≤ x.key) (hk1 : x.key ≤ 18446744073709551615) (z3d : ¬ (40 < (x.body.size : Int))) (m : Nat) (hm1 : m ≤ 2) (hm : IntKind.i64.wrap ((IntKind.u64.wrap x.now).tmod 3) = (m : Int)) (b12 : Nat) (a13_22 : Option Addr) (c13_22 : Nat) {wa wb : World} (H : Hid (Hp [] wa wb [rS a13_22 c13_22 4 ((withV (mkR c) (nameV x.who x.key) ⟨x.key / 4294967296, x.body, x.body⟩ (ps.filter (keepB (mkC c) (now + m)))).1.map rowOf), rB b12 84 (kL (mkC c) (mkR c) (.slice a13_22 ((withV (mkR c) (nameV x.who x.key) ⟨x.key / 4294967296, x.body, x.body⟩ (ps.filter (keepB (mkC c) (now + m)))).1.length) c13_22)), rB b9 84 (kL (mkC c) (mkR c) (.slice a ps.length cc)), rB b7 87 [.int .i64 v.kind, .int .i64 v.now, .int .i64 v.who, .int .u64 v.key, .string v.body], rB b6 87 [.int .i64 u.kind, .int .i64 u.now, .int .i64 u.who, .int .u64 u.key, .string u.body], rB b4 24 (cL c), rS a cc 4 (ps.map rowOf), rS (some y) rc 5 (acts.map actRow)])) (ac0 : Act) (hz : ac0.tmps.size = 157) (so13 : ac0.eval (.tmp 13) = .int .i64 0) {QR : Exit → Act → World → Prop} (hfin : ∀ (ac1 : Act) (wz : World), ac1.tmps.size = 157 → ac1.defers = ac0.defers → (∀ t, ([76, 77] : List Nat).contains t = false → ac1.eval (.tmp t) = ac0.eval (.tmp t)) → ac1.eval (.tmp 77) = .bool true →  Hid (Hp [] wa wz [rS a13_22 c13_22 4 ((withV (mkR c) (nameV x.who x.key) ⟨x.key / 4294967296, x.body, x.body⟩ (ps.filter (keepB (mkC c) (now + m)))).1.map rowOf), rB b12 84 (kL (mkC c) (mkR c) (.slice a13_22 ((withV (mkR c) (nameV x.who x.key) ⟨x.key / 4294967296, x.body, x.body⟩ (ps.filter (keepB (mkC c) (now + m)))).1.length) c13_22)), rB b9 84 (kL (mkC c) (mkR c) (.slice a ps.length cc)), rB b7 87 [.int .i64 v.kind, .int .i64 v.now, .int .i64 v.who, .int .u64 v.key, .string v.body], rB b6 87 [.int .i64 u.kind, .int .i64 u.now, .int .i64 u.who, .int .u64 u.key, .string u.body], rB b4 24 (cL c), rS a cc 4 (ps.map rowOf), rS (some y) rc 5 (acts.map actRow)]) → QR .normal ac1 wz) : (regAt Try.f11 14).wp Try.prog QR ac0 wb := by
  refine wp_region_sq (by kernel_rfl) 157 hz (by kernel_rfl) (fun (xx : Unit) jx => nth [.int .i64 0, .bool true] jx) (fun (LL : Nat → Bool) (xx : Unit) ww => Hp [] wa ww [rS a13_22 c13_22 4 ((withV (mkR c) (nameV x.who x.key) ⟨x.key / 4294967296, x.body, x.body⟩ (ps.filter (keepB (mkC c) (now + m)))).1.map rowOf), rB b12 84 (kL (mkC c) (mkR c) (.slice a13_22 ((withV (mkR c) (nameV x.who x.key) ⟨x.key / 4294967296, x.body, x.body⟩ (ps.filter (keepB (mkC c) (now + m)))).1.length) c13_22)), rB b9 84 (kL (mkC c) (mkR c) (.slice a ps.length cc)), rB b7 87 [.int .i64 v.kind, .int .i64 v.now, .int .i64 v.who, .int .u64 v.key, .string v.body], rB b6 87 [.int .i64 u.kind, .int .i64 u.now, .int .i64 u.who, .int .u64 u.key, .string u.body], rB b4 24 (cL c), rS a cc 4 (ps.map rowOf), rS (some y) rc 5 (acts.map actRow)]) () H.out ?_ (steps_al ?_) ?_ ?_
  · exact fun _ _ _ _ _ h => h
  · refine al_cons ?_ (al_cons ?_ (al_nil))
    · intro LL xx ac wc sg hst hwant QQ hgo
      exact op_val hwant hgo hst _ (exec_move rfl ((sg.free 13 (by kernel_rfl)).trans so13)) rfl
    · intro LL xx ac wc sg hst hwant QQ hgo
      have se76 : ac.eval (.tmp 76) = _ := (sg.slot 0 (sg.anc 0 rfl))
      have sg76 := gt_of se76
      (try simp only [nth] at se76 sg76)
      exact op_val hwant hgo hst _ (by simp only [execOp, nth]; go_simp <;> omega) rfl
  · exact skips [] (by kernel_rfl) (fun _ h => by cases h)
  · intro xx ac1 wz hfr hsl hst
    exact hfin ac1 wz (hfr.size.trans hz) hfr.defers (fr_keep hfr [76, 77] (by kernel_rfl)) (hsl 1 (by decide)) (Lib.hid hst)
set_option maxRecDepth 20000 in
theorem apart_w_r15 (c : Cfg) (rc : Nat) (acts : List ActK) (u : ActK) (v : ActK) (hu0 : 0 ≤ u.key) (hu1 : u.key ≤ 18446744073709551615) (hv0 : 0 ≤ v.key) (hv1 : v.key ≤ 18446744073709551615) (b4 : Nat) (b6 : Nat) (b7 : Nat) (z1d : ¬ (60 < (acts.length : Int))) (b9 : Nat) (i : Nat) (a : Option Addr) (cc : Nat) (ps : List PairV) (now : Int) (hi : i ≤ acts.length) (hl : ps.length ≤ i) (hn0 : 0 ≤ now) (hn1 : now ≤ 2 * i) (z2d : i < acts.length) (y : Addr) (x : ActK) (hk0 : 0 ≤ x.key) (hk1 : x.key ≤ 18446744073709551615) (z3d : ¬ (40 < (x.body.size : Int))) (m : Nat) (hm1 : m ≤ 2) (hm : IntKind.i64.wrap ((IntKind.u64.wrap x.now).tmod 3) = (m : Int)) (b12 : Nat) (a13_22 : Option Addr) (c13_22 : Nat) {wa wb : World} (H : Hid (Hp [] wa wb [rS a13_22 c13_22 4 ((withV (mkR c) (nameV x.who x.key) ⟨x.key / 4294967296, x.body, x.body⟩ (ps.filter (keepB (mkC c) (now + m)))).1.map rowOf), rB b12 84 (kL (mkC c) (mkR c) (.slice a13_22 ((withV (mkR c) (nameV x.who x.key) ⟨x.key / 4294967296, x.body, x.body⟩ (ps.filter (keepB (mkC c) (now + m)))).1.length) c13_22)), rB b9 84 (kL (mkC c) (mkR c) (.slice a ps.length cc)), rB b7 87 [.int .i64 v.kind, .int .i64 v.now, .int .i64 v.who, .int .u64 v.key, .string v.body], rB b6 87 [.int .i64 u.kind, .int .i64 u.now, .int .i64 u.who, .int .u64 u.key, .string u.body], rB b4 24 (cL c), rS a cc 4 (ps.map rowOf), rS (some y) rc 5 (acts.map actRow)])) (ac0 : Act) (hz : ac0.tmps.size = 157) (so9 : ac0.eval (.tmp 9) = .pointer (some ⟨b9, 0, none⟩)) (so12 : ac0.eval (.tmp 12) = .pointer (some ⟨b12, 0, none⟩)) {QR : Exit → Act → World → Prop} (hfin : ∀ (ac1 : Act) (wz : World), ac1.tmps.size = 157 → ac1.defers = ac0.defers → (∀ t, ([78] : List Nat).contains t = false → ac1.eval (.tmp t) = ac0.eval (.tmp t)) →  Hid (Hp [] wa wz [rS a13_22 c13_22 4 ((withV (mkR c) (nameV x.who x.key) ⟨x.key / 4294967296, x.body, x.body⟩ (ps.filter (keepB (mkC c) (now + m)))).1.map rowOf), rB b12 84 (kL (mkC c) (mkR c) (.slice a13_22 ((withV (mkR c) (nameV x.who x.key) ⟨x.key / 4294967296, x.body, x.body⟩ (ps.filter (keepB (mkC c) (now + m)))).1.length) c13_22)), rB b9 84 (kL (mkC c) (mkR c) (.slice a13_22 ((withV (mkR c) (nameV x.who x.key) ⟨x.key / 4294967296, x.body, x.body⟩ (ps.filter (keepB (mkC c) (now + m)))).1.length) c13_22)), rB b7 87 [.int .i64 v.kind, .int .i64 v.now, .int .i64 v.who, .int .u64 v.key, .string v.body], rB b6 87 [.int .i64 u.kind, .int .i64 u.now, .int .i64 u.who, .int .u64 u.key, .string u.body], rB b4 24 (cL c), rS a cc 4 (ps.map rowOf), rS (some y) rc 5 (acts.map actRow)]) → QR .normal ac1 wz) : (regAt Try.f11 15).wp Try.prog QR ac0 wb := by
  refine wp_region_sq (by kernel_rfl) 157 hz (by kernel_rfl) (fun (xx : Unit) jx => nth [.agg (kA (mkC c) (mkR c) (.slice a13_22 ((withV (mkR c) (nameV x.who x.key) ⟨x.key / 4294967296, x.body, x.body⟩ (ps.filter (keepB (mkC c) (now + m)))).1.length) c13_22)), undef] jx) (fun (LL : Nat → Bool) (xx : Unit) ww => Hp [] wa ww (bif LL 1 then [rS a13_22 c13_22 4 ((withV (mkR c) (nameV x.who x.key) ⟨x.key / 4294967296, x.body, x.body⟩ (ps.filter (keepB (mkC c) (now + m)))).1.map rowOf), rB b12 84 (kL (mkC c) (mkR c) (.slice a13_22 ((withV (mkR c) (nameV x.who x.key) ⟨x.key / 4294967296, x.body, x.body⟩ (ps.filter (keepB (mkC c) (now + m)))).1.length) c13_22)), rB b9 84 (kL (mkC c) (mkR c) (.slice a13_22 ((withV (mkR c) (nameV x.who x.key) ⟨x.key / 4294967296, x.body, x.body⟩ (ps.filter (keepB (mkC c) (now + m)))).1.length) c13_22)), rB b7 87 [.int .i64 v.kind, .int .i64 v.now, .int .i64 v.who, .int .u64 v.key, .string v.body], rB b6 87 [.int .i64 u.kind, .int .i64 u.now, .int .i64 u.who, .int .u64 u.key, .string u.body], rB b4 24 (cL c), rS a cc 4 (ps.map rowOf), rS (some y) rc 5 (acts.map actRow)] else [rS a13_22 c13_22 4 ((withV (mkR c) (nameV x.who x.key) ⟨x.key / 4294967296, x.body, x.body⟩ (ps.filter (keepB (mkC c) (now + m)))).1.map rowOf), rB b12 84 (kL (mkC c) (mkR c) (.slice a13_22 ((withV (mkR c) (nameV x.who x.key) ⟨x.key / 4294967296, x.body, x.body⟩ (ps.filter (keepB (mkC c) (now + m)))).1.length) c13_22)), rB b9 84 (kL (mkC c) (mkR c) (.slice a ps.length cc)), rB b7 87 [.int .i64 v.kind, .int .i64 v.now, .int .i64 v.who, .int .u64 v.key, .string v.body], rB b6 87 [.int .i64 u.kind, .int .i64 u.now, .int .i64 u.who, .int .u64 u.key, .string u.body], rB b4 24 (cL c), rS a cc 4 (ps.map rowOf), rS (some y) rc 5 (acts.map actRow)])) () H.out ?_ (steps_al ?_) ?_ ?_
  · intro L1 L2 xx ww hL sg
    have lh1 := hL 1 (by decide)
    simp only [lh1] at sg
    exact sg
  · refine al_cons ?_ (al_cons ?_ (al_nil))
    · intro LL xx ac wc sg hst hwant QQ hgo
      have H := Lib.hid hst
      simp only [sg.des 1 rfl, cond_true, cond_false] at H
      refine hpA_load tykeys_Keys H rfl ((sg.free 12 (by kernel_rfl)).trans so12) hwant (by (repeat (first | exact List.Mem.head _ | apply List.Mem.tail))) (by rfl) rfl ?_
      exact hgo _ () _ (fun _ _ => rfl) rfl hst
    · intro LL xx ac wc sg hst hwant QQ hgo
      have H := Lib.hid hst
      simp only [sg.self, cond_true, cond_false] at H
      refine hpA_store tykeys_Keys H rfl rfl ((sg.free 9 (by kernel_rfl)).trans so9) (sg.slot 0 (sg.anc 0 rfl)) rfl (by repeat (first | apply Put.head | apply Put.tail)) (by simp [kA, kL, rkA, rkL, cA, cL]) (by simp [kA, kL, rkA, rkL, cA, cL, Value.oneCell']) (by first | rfl | (simp only [spl]; rfl)) rfl ?_
      intro wd H2
      exact hgo _ () _ (fun _ _ => rfl) rfl (by simp only [(show upd LL 1 1 = true from rfl), cond_true, cond_false]; exact H2.out)
  · exact skips [] (by kernel_rfl) (fun _ h => by cases h)
  · intro xx ac1 wz hfr hsl hst
    exact hfin ac1 wz (hfr.size.trans hz) hfr.defers (fr_keep hfr [78] (by kernel_rfl)) (Lib.hid hst)
set_option maxRecDepth 20000 in
theorem apart_w_r9x1 (c : Cfg) (rc : Nat) (acts : List ActK) (u : ActK) (v : ActK) (hu0 : 0 ≤ u.key) (hu1 : u.key ≤ 18446744073709551615) (hv0 : 0 ≤ v.key) (hv1 : v.key ≤ 18446744073709551615) (b4 : Nat) (b6 : Nat) (b7 : Nat) (z1d : ¬ (60 < (acts.length : Int))) (b9 : Nat) (i : Nat) (a : Option Addr) (cc : Nat) (ps : List PairV) (now : Int) (hi : i ≤ acts.length) (hl : ps.length ≤ i) (hn0 : 0 ≤ now) (hn1 : now ≤ 2 * i) (z2d : i < acts.length) (y : Addr) (x : ActK) (hk0 : 0 ≤ x.key) (hk1 : x.key ≤ 18446744073709551615) (z3d : ¬ (40 < (x.body.size : Int))) (m : Nat) (hm1 : m ≤ 2) (hm : IntKind.i64.wrap ((IntKind.u64.wrap x.now).tmod 3) = (m : Int)) (b12 : Nat) (a13_22 : Option Addr) (c13_22 : Nat) {wa wb : World} (H : Hid (Hp [] wa wb [rS a13_22 c13_22 4 ((withV (mkR c) (nameV x.who x.key) ⟨x.key / 4294967296, x.body, x.body⟩ (ps.filter (keepB (mkC c) (now + m)))).1.map rowOf), rB b12 84 (kL (mkC c) (mkR c) (.slice a13_22 ((withV (mkR c) (nameV x.who x.key) ⟨x.key / 4294967296, x.body, x.body⟩ (ps.filter (keepB (mkC c) (now + m)))).1.length) c13_22)), rB b9 84 (kL (mkC c) (mkR c) (.slice a13_22 ((withV (mkR c) (nameV x.who x.key) ⟨x.key / 4294967296, x.body, x.body⟩ (ps.filter (keepB (mkC c) (now + m)))).1.length) c13_22)), rB b7 87 [.int .i64 v.kind, .int .i64 v.now, .int .i64 v.who, .int .u64 v.key, .string v.body], rB b6 87 [.int .i64 u.kind, .int .i64 u.now, .int .i64 u.who, .int .u64 u.key, .string u.body], rB b4 24 (cL c), rS a cc 4 (ps.map rowOf), rS (some y) rc 5 (acts.map actRow)])) (ac0 : Act) (hz : ac0.tmps.size = 157) (so11 : ac0.eval (.tmp 11) = .int .i64 i) {QR : Exit → Act → World → Prop} (hfin : ∀ (ac1 : Act) (wz : World), ac1.tmps.size = 157 → ac1.defers = ac0.defers → (∀ t, ([11, 31, 32] : List Nat).contains t = false → ac1.eval (.tmp t) = ac0.eval (.tmp t)) → ac1.eval (.tmp 11) = .int .i64 (i + 1) →  Hid (Hp [] wa wz [rS a13_22 c13_22 4 ((withV (mkR c) (nameV x.who x.key) ⟨x.key / 4294967296, x.body, x.body⟩ (ps.filter (keepB (mkC c) (now + m)))).1.map rowOf), rB b12 84 (kL (mkC c) (mkR c) (.slice a13_22 ((withV (mkR c) (nameV x.who x.key) ⟨x.key / 4294967296, x.body, x.body⟩ (ps.filter (keepB (mkC c) (now + m)))).1.length) c13_22)), rB b9 84 (kL (mkC c) (mkR c) (.slice a13_22 ((withV (mkR c) (nameV x.who x.key) ⟨x.key / 4294967296, x.body, x.body⟩ (ps.filter (keepB (mkC c) (now + m)))).1.length) c13_22)), rB b7 87 [.int .i64 v.kind, .int .i64 v.now, .int .i64 v.who, .int .u64 v.key, .string v.body], rB b6 87 [.int .i64 u.kind, .int .i64 u.now, .int .i64 u.who, .int .u64 u.key, .string u.body], rB b4 24 (cL c), rS a cc 4 (ps.map rowOf), rS (some y) rc 5 (acts.map actRow)]) → QR .normal ac1 wz) : (regAt Try.f11 9).wp Try.prog QR ac0 wb := by
  refine wp_region_sq (by kernel_rfl) 157 hz (by kernel_rfl) (fun (xx : Unit) jx => nth [.int .i64 i, .int .i64 (i + 1), .int .i64 (i + 1)] jx) (fun (LL : Nat → Bool) (xx : Unit) ww => Hp [] wa ww [rS a13_22 c13_22 4 ((withV (mkR c) (nameV x.who x.key) ⟨x.key / 4294967296, x.body, x.body⟩ (ps.filter (keepB (mkC c) (now + m)))).1.map rowOf), rB b12 84 (kL (mkC c) (mkR c) (.slice a13_22 ((withV (mkR c) (nameV x.who x.key) ⟨x.key / 4294967296, x.body, x.body⟩ (ps.filter (keepB (mkC c) (now + m)))).1.length) c13_22)), rB b9 84 (kL (mkC c) (mkR c) (.slice a13_22 ((withV (mkR c) (nameV x.who x.key) ⟨x.key / 4294967296, x.body, x.body⟩ (ps.filter (keepB (mkC c) (now + m)))).1.length) c13_22)), rB b7 87 [.int .i64 v.kind, .int .i64 v.now, .int .i64 v.who, .int .u64 v.key, .string v.body], rB b6 87 [.int .i64 u.kind, .int .i64 u.now, .int .i64 u.who, .int .u64 u.key, .string u.body], rB b4 24 (cL c), rS a cc 4 (ps.map rowOf), rS (some y) rc 5 (acts.map actRow)]) () H.out ?_ (steps_al ?_) ?_ ?_
  · exact fun _ _ _ _ _ h => h
  · refine al_cons ?_ (al_cons ?_ (al_cons ?_ (al_nil)))
    · intro LL xx ac wc sg hst hwant QQ hgo
      exact op_val hwant hgo hst _ (exec_move rfl ((sg.yet 11 2 (sg.des 2 rfl) (by kernel_rfl)).trans so11)) rfl
    · intro LL xx ac wc sg hst hwant QQ hgo
      have se31 : ac.eval (.tmp 31) = _ := (sg.slot 0 (sg.anc 0 rfl))
      have sg31 := gt_of se31
      (try simp only [nth] at se31 sg31)
      have hnw : IntKind.i64.wrap (i + 1 : Int) = i + 1 := IntWalk.i64_in _ (by omega)
      exact op_val hwant hgo hst _ (by simp only [execOp, nth]; go_simp <;> omega) rfl
    · intro LL xx ac wc sg hst hwant QQ hgo
      exact op_val hwant hgo hst _ (exec_assign rfl (sg.slot 1 (sg.anc 1 rfl))) rfl
  · exact skips [] (by kernel_rfl) (fun _ h => by cases h)
  · intro xx ac1 wz hfr hsl hst
    exact hfin ac1 wz (hfr.size.trans hz) hfr.defers (fr_keep hfr [11, 31, 32] (by kernel_rfl)) (hsl 2 (by decide)) (Lib.hid hst)
set_option maxRecDepth 20000 in
theorem apart_w_r16 (c : Cfg) (ra : Option Addr) (rc : Nat) (acts : List ActK) (u : ActK) (v : ActK) (hu0 : 0 ≤ u.key) (hu1 : u.key ≤ 18446744073709551615) (hv0 : 0 ≤ v.key) (hv1 : v.key ≤ 18446744073709551615) (b4 : Nat) (b6 : Nat) (b7 : Nat) (z1d : ¬ (60 < (acts.length : Int))) (b9 : Nat) (i : Nat) (a : Option Addr) (cc : Nat) (ps : List PairV) (now : Int) (hi : i ≤ acts.length) (hl : ps.length ≤ i) (hn0 : 0 ≤ now) (hn1 : now ≤ 2 * i) (z2d : ¬ (i < acts.length)) {wa wb : World} (H : Hid (Hp [] wa wb [rB b9 84 (kL (mkC c) (mkR c) (.slice a ps.length cc)), rB b7 87 [.int .i64 v.kind, .int .i64 v.now, .int .i64 v.who, .int .u64 v.key, .string v.body], rB b6 87 [.int .i64 u.kind, .int .i64 u.now, .int .i64 u.who, .int .u64 u.key, .string u.body], rB b4 24 (cL c), rS a cc 4 (ps.map rowOf), rS ra rc 5 (acts.map actRow)])) (ac0 : Act) (hz : ac0.tmps.size = 157) (so6 : ac0.eval (.tmp 6) = .pointer (some ⟨b6, 0, none⟩)) (so7 : ac0.eval (.tmp 7) = .pointer (some ⟨b7, 0, none⟩)) {QR : Exit → Act → World → Prop} (hfin : ∀ (ac1 : Act) (wz : World), ac1.tmps.size = 157 → ac1.defers = ac0.defers → (∀ t, ([79, 80, 81, 82, 83, 84, 85, 86, 87, 88, 89, 90, 91, 92, 93, 94, 95, 96, 97, 98, 99, 100, 101, 102] : List Nat).contains t = false → ac1.eval (.tmp t) = ac0.eval (.tmp t)) → ac1.eval (.tmp 102) = .bool ((((u.who == v.who) && (u.key == v.key)) || (decide (40 < (u.body.size : Int)))) || (decide (40 < (v.body.size : Int)))) →  Hid (Hp [] wa wz [rB b9 84 (kL (mkC c) (mkR c) (.slice a ps.length cc)), rB b7 87 [.int .i64 v.kind, .int .i64 v.now, .int .i64 v.who, .int .u64 v.key, .string v.body], rB b6 87 [.int .i64 u.kind, .int .i64 u.now, .int .i64 u.who, .int .u64 u.key, .string u.body], rB b4 24 (cL c), rS a cc 4 (ps.map rowOf), rS ra rc 5 (acts.map actRow)]) → QR .normal ac1 wz) : (regAt Try.f11 16).wp Try.prog QR ac0 wb := by
  refine wp_region_sq (by kernel_rfl) 157 hz (by kernel_rfl) (fun (xx : Unit) jx => nth [.pointer (some ⟨b6, 2, none⟩), .int .i64 u.who, .pointer (some ⟨b7, 2, none⟩), .int .i64 v.who, .bool (u.who == v.who), .bool (u.who == v.who), bif (u.who == v.who) then .pointer (some ⟨b6, 3, none⟩) else undef, bif (u.who == v.who) then .int .u64 u.key else undef, bif (u.who == v.who) then .pointer (some ⟨b7, 3, none⟩) else undef, bif (u.who == v.who) then .int .u64 v.key else undef, bif (u.who == v.who) then .bool (u.key == v.key) else undef, .bool ((u.who == v.who) && (u.key == v.key)), .bool ((u.who == v.who) && (u.key == v.key)), bif !((u.who == v.who) && (u.key == v.key)) then .pointer (some ⟨b6, 4, none⟩) else undef, bif !((u.who == v.who) && (u.key == v.key)) then .string u.body else undef, bif !((u.who == v.who) && (u.key == v.key)) then .int .i64 u.body.size else undef, bif !((u.who == v.who) && (u.key == v.key)) then .bool (decide (40 < (u.body.size : Int))) else undef, .bool (((u.who == v.who) && (u.key == v.key)) || (decide (40 < (u.body.size : Int)))), .bool (((u.who == v.who) && (u.key == v.key)) || (decide (40 < (u.body.size : Int)))), bif !(((u.who == v.who) && (u.key == v.key)) || (decide (40 < (u.body.size : Int)))) then .pointer (some ⟨b7, 4, none⟩) else undef, bif !(((u.who == v.who) && (u.key == v.key)) || (decide (40 < (u.body.size : Int)))) then .string v.body else undef, bif !(((u.who == v.who) && (u.key == v.key)) || (decide (40 < (u.body.size : Int)))) then .int .i64 v.body.size else undef, bif !(((u.who == v.who) && (u.key == v.key)) || (decide (40 < (u.body.size : Int)))) then .bool (decide (40 < (v.body.size : Int))) else undef, .bool ((((u.who == v.who) && (u.key == v.key)) || (decide (40 < (u.body.size : Int)))) || (decide (40 < (v.body.size : Int))))] jx) (fun (LL : Nat → Bool) (xx : Unit) ww => Hp [] wa ww [rB b9 84 (kL (mkC c) (mkR c) (.slice a ps.length cc)), rB b7 87 [.int .i64 v.kind, .int .i64 v.now, .int .i64 v.who, .int .u64 v.key, .string v.body], rB b6 87 [.int .i64 u.kind, .int .i64 u.now, .int .i64 u.who, .int .u64 u.key, .string u.body], rB b4 24 (cL c), rS a cc 4 (ps.map rowOf), rS ra rc 5 (acts.map actRow)]) () H.out ?_ (steps_al ?_) ?_ ?_
  · exact fun _ _ _ _ _ h => h
  · refine al_cons ?_ (al_cons ?_ (al_cons ?_ (al_cons ?_ (al_cons ?_ (al_cons ?_ (al_cons ?_ (al_cons ?_ (al_cons ?_ (al_cons ?_ (al_cons ?_ (al_cons ?_ (al_cons ?_ (al_cons ?_ (al_cons ?_ (al_cons ?_ (al_cons ?_ (al_cons ?_ (al_cons ?_ (al_cons ?_ (al_cons ?_ (al_cons ?_ (al_cons ?_ (al_cons ?_ (al_nil))))))))))))))))))))))))
    · intro LL xx ac wc sg hst hwant QQ hgo
      have se6 : ac.eval (.tmp 6) = _ := ((sg.free 6 (by kernel_rfl)).trans so6)
      have sg6 := gt_of se6
      exact op_val hwant hgo hst _ (by simp only [execOp, nth]; go_simp <;> omega) rfl
    · intro LL xx ac wc sg hst hwant QQ hgo
      have H := Lib.hid hst
      refine hpA_load1 tyint H rfl (sg.slot 0 (sg.anc 0 rfl)) hwant (by (repeat (first | exact List.Mem.head _ | apply List.Mem.tail))) (by rfl) ?_
      exact hgo _ () _ (fun _ _ => rfl) rfl hst
    · intro LL xx ac wc sg hst hwant QQ hgo
      have se7 : ac.eval (.tmp 7) = _ := ((sg.free 7 (by kernel_rfl)).trans so7)
      have sg7 := gt_of se7
      exact op_val hwant hgo hst _ (by simp only [execOp, nth]; go_simp <;> omega) rfl
    · intro LL xx ac wc sg hst hwant QQ hgo
      have H := Lib.hid hst
      refine hpA_load1 tyint H rfl (sg.slot 2 (sg.anc 2 rfl)) hwant (by (repeat (first | exact List.Mem.head _ | apply List.Mem.tail))) (by rfl) ?_
      exact hgo _ () _ (fun _ _ => rfl) rfl hst
    · intro LL xx ac wc sg hst hwant QQ hgo
      have se80 : ac.eval (.tmp 80) = _ := (sg.slot 1 (sg.anc 1 rfl))
      have sg80 := gt_of se80
      have se82 : ac.eval (.tmp 82) = _ := (sg.slot 3 (sg.anc 3 rfl))
      have sg82 := gt_of se82
      (try simp only [nth] at se80 sg80 se82 sg82)
      exact op_val hwant hgo hst _ (by simp only [execOp, nth]; go_simp <;> omega) rfl
    · intro LL xx ac wc sg hst hwant QQ hgo
      exact op_val hwant hgo hst _ (exec_move rfl (sg.slot 4 (sg.anc 4 rfl))) rfl
    · intro LL xx ac wc sg hst hwant QQ hgo
      have hG : (u.who == v.who) = true := (want_t rfl rfl (sg.slot 5 (sg.anc 5 rfl))).symm.trans hwant
      have se6 : ac.eval (.tmp 6) = _ := ((sg.free 6 (by kernel_rfl)).trans so6)
      have sg6 := gt_of se6
      exact op_val hwant hgo hst _ (by simp only [execOp, nth]; go_simp <;> omega) (cI hG)
    · intro LL xx ac wc sg hst hwant QQ hgo
      have hG : (u.who == v.who) = true := (want_t rfl rfl (sg.slot 5 (sg.anc 5 rfl))).symm.trans hwant
      have H := Lib.hid hst
      refine hpA_load1 tyuint64 H rfl (cT (sg.slot 6 (sg.anc 6 rfl)) hG) hwant (by (repeat (first | exact List.Mem.head _ | apply List.Mem.tail))) (by rfl) ?_
      exact hgo _ () _ (fun _ _ => rfl) (cI hG) hst
    · intro LL xx ac wc sg hst hwant QQ hgo
      have hG : (u.who == v.who) = true := (want_t rfl rfl (sg.slot 5 (sg.anc 5 rfl))).symm.trans hwant
      have se7 : ac.eval (.tmp 7) = _ := ((sg.free 7 (by kernel_rfl)).trans so7)
      have sg7 := gt_of se7
      exact op_val hwant hgo hst _ (by simp only [execOp, nth]; go_simp <;> omega) (cI hG)
    · intro LL xx ac wc sg hst hwant QQ hgo
      have hG : (u.who == v.who) = true := (want_t rfl rfl (sg.slot 5 (sg.anc 5 rfl))).symm.trans hwant
      have H := Lib.hid hst
      refine hpA_load1 tyuint64 H rfl (cT (sg.slot 8 (sg.anc 8 rfl)) hG) hwant (by (repeat (first | exact List.Mem.head _ | apply List.Mem.tail))) (by rfl) ?_
      exact hgo _ () _ (fun _ _ => rfl) (cI hG) hst
    · intro LL xx ac wc sg hst hwant QQ hgo
      have hG : (u.who == v.who) = true := (want_t rfl rfl (sg.slot 5 (sg.anc 5 rfl))).symm.trans hwant
      have se86 : ac.eval (.tmp 86) = _ := (cT (sg.slot 7 (sg.anc 7 rfl)) hG)
      have sg86 := gt_of se86
      have se88 : ac.eval (.tmp 88) = _ := (cT (sg.slot 9 (sg.anc 9 rfl)) hG)
      have sg88 := gt_of se88
      (try simp only [nth] at se86 sg86 se88 sg88)
      exact op_val hwant hgo hst _ (by simp only [execOp, nth]; go_simp <;> omega) (cI hG)
    · intro LL xx ac wc sg hst hwant QQ hgo
      exact op_val hwant hgo hst (.bool ((u.who == v.who) && (u.key == v.key))) (exec_and (Y := u.key == v.key) rfl (sg.slot 5 (sg.anc 5 rfl)) (fun qq => cT (sg.slot 10 (sg.anc 10 rfl)) qq)) rfl
    · intro LL xx ac wc sg hst hwant QQ hgo
      exact op_val hwant hgo hst _ (exec_move rfl (sg.slot 11 (sg.anc 11 rfl))) rfl
    · intro LL xx ac wc sg hst hwant QQ hgo
      have hG : (!((u.who == v.who) && (u.key == v.key))) = true := (want_f rfl rfl (sg.slot 12 (sg.anc 12 rfl))).symm.trans hwant
      have se6 : ac.eval (.tmp 6) = _ := ((sg.free 6 (by kernel_rfl)).trans so6)
      have sg6 := gt_of se6
      exact op_val hwant hgo hst _ (by simp only [execOp, nth]; go_simp <;> omega) (cI hG)
    · intro LL xx ac wc sg hst hwant QQ hgo
      have hG : (!((u.who == v.who) && (u.key == v.key))) = true := (want_f rfl rfl (sg.slot 12 (sg.anc 12 rfl))).symm.trans hwant
      have H := Lib.hid hst
      refine hpA_load1 tystring H rfl (cT (sg.slot 13 (sg.anc 13 rfl)) hG) hwant (by (repeat (first | exact List.Mem.head _ | apply List.Mem.tail))) (by rfl) ?_
      exact hgo _ () _ (fun _ _ => rfl) (cI hG) hst
    · intro LL xx ac wc sg hst hwant QQ hgo
      have hG : (!((u.who == v.who) && (u.key == v.key))) = true := (want_f rfl rfl (sg.slot 12 (sg.anc 12 rfl))).symm.trans hwant
      have se93 : ac.eval (.tmp 93) = _ := (cT (sg.slot 14 (sg.anc 14 rfl)) hG)
      have sg93 := gt_of se93
      (try simp only [nth] at se93 sg93)
      exact op_val hwant hgo hst _ (by simp only [execOp, nth]; go_simp <;> omega) (cI hG)
    · intro LL xx ac wc sg hst hwant QQ hgo
      have hG : (!((u.who == v.who) && (u.key == v.key))) = true := (want_f rfl rfl (sg.slot 12 (sg.anc 12 rfl))).symm.trans hwant
      have se94 : ac.eval (.tmp 94) = _ := (cT (sg.slot 15 (sg.anc 15 rfl)) hG)
      have sg94 := gt_of se94
      (try simp only [nth] at se94 sg94)
      exact op_val hwant hgo hst _ (by simp only [execOp, nth]; go_simp <;> omega) (cI hG)
    · intro LL xx ac wc sg hst hwant QQ hgo
      exact op_val hwant hgo hst (.bool (((u.who == v.who) && (u.key == v.key)) || (decide (40 < (u.body.size : Int))))) (exec_or (Y := decide (40 < (u.body.size : Int))) rfl (sg.slot 12 (sg.anc 12 rfl)) (fun qq => cT (sg.slot 16 (sg.anc 16 rfl)) (bk qq))) rfl
    · intro LL xx ac wc sg hst hwant QQ hgo
      exact op_val hwant hgo hst _ (exec_move rfl (sg.slot 17 (sg.anc 17 rfl))) rfl
    · intro LL xx ac wc sg hst hwant QQ hgo
      have hG : (!(((u.who == v.who) && (u.key == v.key)) || (decide (40 < (u.body.size : Int))))) = true := (want_f rfl rfl (sg.slot 18 (sg.anc 18 rfl))).symm.trans hwant
      have se7 : ac.eval (.tmp 7) = _ := ((sg.free 7 (by kernel_rfl)).trans so7)
      have sg7 := gt_of se7
      exact op_val hwant hgo hst _ (by simp only [execOp, nth]; go_simp <;> omega) (cI hG)
    · intro LL xx ac wc sg hst hwant QQ hgo
      have hG : (!(((u.who == v.who) && (u.key == v.key)) || (decide (40 < (u.body.size : Int))))) = true := (want_f rfl rfl (sg.slot 18 (sg.anc 18 rfl))).symm.trans hwant
      have H := Lib.hid hst
      refine hpA_load1 tystring H rfl (cT (sg.slot 19 (sg.anc 19 rfl)) hG) hwant (by (repeat (first | exact List.Mem.head _ | apply List.Mem.tail))) (by rfl) ?_
      exact hgo _ () _ (fun _ _ => rfl) (cI hG) hst
    · intro LL xx ac wc sg hst hwant QQ hgo
      have hG : (!(((u.who == v.who) && (u.key == v.key)) || (decide (40 < (u.body.size : Int))))) = true := (want_f rfl rfl (sg.slot 18 (sg.anc 18 rfl))).symm.trans hwant
      have se99 : ac.eval (.tmp 99) = _ := (cT (sg.slot 20 (sg.anc 20 rfl)) hG)
      have sg99 := gt_of se99
      (try simp only [nth] at se99 sg99)
      exact op_val hwant hgo hst _ (by simp only [execOp, nth]; go_simp <;> omega) (cI hG)
    · intro LL xx ac wc sg hst hwant QQ hgo
      have hG : (!(((u.who == v.who) && (u.key == v.key)) || (decide (40 < (u.body.size : Int))))) = true := (want_f rfl rfl (sg.slot 18 (sg.anc 18 rfl))).symm.trans hwant
      have se100 : ac.eval (.tmp 100) = _ := (cT (sg.slot 21 (sg.anc 21 rfl)) hG)
      have sg100 := gt_of se100
      (try simp only [nth] at se100 sg100)
      exact op_val hwant hgo hst _ (by simp only [execOp, nth]; go_simp <;> omega) (cI hG)
    · intro LL xx ac wc sg hst hwant QQ hgo
      exact op_val hwant hgo hst (.bool ((((u.who == v.who) && (u.key == v.key)) || (decide (40 < (u.body.size : Int)))) || (decide (40 < (v.body.size : Int))))) (exec_or (Y := decide (40 < (v.body.size : Int))) rfl (sg.slot 18 (sg.anc 18 rfl)) (fun qq => cT (sg.slot 22 (sg.anc 22 rfl)) (bk qq))) rfl
  · refine skips [6, 7, 8, 9, 10, 13, 14, 15, 16, 19, 20, 21, 22] (by kernel_rfl) ?_
    refine List.forall_mem_cons.2 ⟨?_, List.forall_mem_cons.2 ⟨?_, List.forall_mem_cons.2 ⟨?_, List.forall_mem_cons.2 ⟨?_, List.forall_mem_cons.2 ⟨?_, List.forall_mem_cons.2 ⟨?_, List.forall_mem_cons.2 ⟨?_, List.forall_mem_cons.2 ⟨?_, List.forall_mem_cons.2 ⟨?_, List.forall_mem_cons.2 ⟨?_, List.forall_mem_cons.2 ⟨?_, List.forall_mem_cons.2 ⟨?_, List.forall_mem_cons.2 ⟨?_, fun _ h => by cases h⟩⟩⟩⟩⟩⟩⟩⟩⟩⟩⟩⟩⟩
    · intro oo hop LL xx ac sg hwant
      cases Option.some.inj hop
      have hG : (u.who == v.who) = false := (want_t rfl rfl (sg.slot 5 (sg.anc 5 rfl))).symm.trans hwant
      exact ⟨cF hG, fun _ h => h⟩
    · intro oo hop LL xx ac sg hwant
      cases Option.some.inj hop
      have hG : (u.who == v.who) = false := (want_t rfl rfl (sg.slot 5 (sg.anc 5 rfl))).symm.trans hwant
      exact ⟨cF hG, fun _ h => h⟩
    · intro oo hop LL xx ac sg hwant
      cases Option.some.inj hop
      have hG : (u.who == v.who) = false := (want_t rfl rfl (sg.slot 5 (sg.anc 5 rfl))).symm.trans hwant
      exact ⟨cF hG, fun _ h => h⟩
    · intro oo hop LL xx ac sg hwant
      cases Option.some.inj hop
      have hG : (u.who == v.who) = false := (want_t rfl rfl (sg.slot 5 (sg.anc 5 rfl))).symm.trans hwant
      exact ⟨cF hG, fun _ h => h⟩
    · intro oo hop LL xx ac sg hwant
      cases Option.some.inj hop
      have hG : (u.who == v.who) = false := (want_t rfl rfl (sg.slot 5 (sg.anc 5 rfl))).symm.trans hwant
      exact ⟨cF hG, fun _ h => h⟩
    · intro oo hop LL xx ac sg hwant
      cases Option.some.inj hop
      have hG : (!((u.who == v.who) && (u.key == v.key))) = false := (want_f rfl rfl (sg.slot 12 (sg.anc 12 rfl))).symm.trans hwant
      exact ⟨cF hG, fun _ h => h⟩
    · intro oo hop LL xx ac sg hwant
      cases Option.some.inj hop
      have hG : (!((u.who == v.who) && (u.key == v.key))) = false := (want_f rfl rfl (sg.slot 12 (sg.anc 12 rfl))).symm.trans hwant
      exact ⟨cF hG, fun _ h => h⟩
    · intro oo hop LL xx ac sg hwant
      cases Option.some.inj hop
      have hG : (!((u.who == v.who) && (u.key == v.key))) = false := (want_f rfl rfl (sg.slot 12 (sg.anc 12 rfl))).symm.trans hwant
      exact ⟨cF hG, fun _ h => h⟩
    · intro oo hop LL xx ac sg hwant
      cases Option.some.inj hop
      have hG : (!((u.who == v.who) && (u.key == v.key))) = false := (want_f rfl rfl (sg.slot 12 (sg.anc 12 rfl))).symm.trans hwant
      exact ⟨cF hG, fun _ h => h⟩
    · intro oo hop LL xx ac sg hwant
      cases Option.some.inj hop
      have hG : (!(((u.who == v.who) && (u.key == v.key)) || (decide (40 < (u.body.size : Int))))) = false := (want_f rfl rfl (sg.slot 18 (sg.anc 18 rfl))).symm.trans hwant
      exact ⟨cF hG, fun _ h => h⟩
    · intro oo hop LL xx ac sg hwant
      cases Option.some.inj hop
      have hG : (!(((u.who == v.who) && (u.key == v.key)) || (decide (40 < (u.body.size : Int))))) = false := (want_f rfl rfl (sg.slot 18 (sg.anc 18 rfl))).symm.trans hwant
      exact ⟨cF hG, fun _ h => h⟩
    · intro oo hop LL xx ac sg hwant
      cases Option.some.inj hop
      have hG : (!(((u.who == v.who) && (u.key == v.key)) || (decide (40 < (u.body.size : Int))))) = false := (want_f rfl rfl (sg.slot 18 (sg.anc 18 rfl))).symm.trans hwant
      exact ⟨cF hG, fun _ h => h⟩
    · intro oo hop LL xx ac sg hwant
      cases Option.some.inj hop
      have hG : (!(((u.who == v.who) && (u.key == v.key)) || (decide (40 < (u.body.size : Int))))) = false := (want_f rfl rfl (sg.slot 18 (sg.anc 18 rfl))).symm.trans hwant
      exact ⟨cF hG, fun _ h => h⟩
  · intro xx ac1 wz hfr hsl hst
    exact hfin ac1 wz (hfr.size.trans hz) hfr.defers (fr_keep hfr [79, 80, 81, 82, 83, 84, 85, 86, 87, 88, 89, 90, 91, 92, 93, 94, 95, 96, 97, 98, 99, 100, 101, 102] (by kernel_rfl)) (hsl 23 (by decide)) (Lib.hid hst)
set_option maxRecDepth 20000 in
theorem apart_w_r17 (c : Cfg) (ra : Option Addr) (rc : Nat) (acts : List ActK) (u : ActK) (v : ActK) (hu0 : 0 ≤ u.key) (hu1 : u.key ≤ 18446744073709551615) (hv0 : 0 ≤ v.key) (hv1 : v.key ≤ 18446744073709551615) (b4 : Nat) (b6 : Nat) (b7 : Nat) (z1d : ¬ (60 < (acts.length : Int))) (b9 : Nat) (i : Nat) (a : Option Addr) (cc : Nat) (ps : List PairV) (now : Int) (hi : i ≤ acts.length) (hl : ps.length ≤ i) (hn0 : 0 ≤ now) (hn1 : now ≤ 2 * i) (z2d : ¬ (i < acts.length)) {wa wb : World} (H : Hid (Hp [] wa wb [rB b9 84 (kL (mkC c) (mkR c) (.slice a ps.length cc)), rB b7 87 [.int .i64 v.kind, .int .i64 v.now, .int .i64 v.who, .int .u64 v.key, .string v.body], rB b6 87 [.int .i64 u.kind, .int .i64 u.now, .int .i64 u.who, .int .u64 u.key, .string u.body], rB b4 24 (cL c), rS a cc 4 (ps.map rowOf), rS ra rc 5 (acts.map actRow)])) (ac0 : Act) (hz : ac0.tmps.size = 157)  {QR : Exit → Act → World → Prop} (hfin : ∀ (ac1 : Act) (wz : World), ac1.tmps.size = 157 → ac1.defers = ac0.defers → (∀ t, ([8] : List Nat).contains t = false → ac1.eval (.tmp t) = ac0.eval (.tmp t)) → ac1.eval (.tmp 8) = .bool true →  Hid (Hp [] wa wz [rB b9 84 (kL (mkC c) (mkR c) (.slice a ps.length cc)), rB b7 87 [.int .i64 v.kind, .int .i64 v.now, .int .i64 v.who, .int .u64 v.key, .string v.body], rB b6 87 [.int .i64 u.kind, .int .i64 u.now, .int .i64 u.who, .int .u64 u.key, .string u.body], rB b4 24 (cL c), rS a cc 4 (ps.map rowOf), rS ra rc 5 (acts.map actRow)]) → QR .normal ac1 wz) : (regAt Try.f11 17).wp Try.prog QR ac0 wb := by
  refine wp_region_sq (by kernel_rfl) 157 hz (by kernel_rfl) (fun (xx : Unit) jx => nth [.bool true] jx) (fun (LL : Nat → Bool) (xx : Unit) ww => Hp [] wa ww [rB b9 84 (kL (mkC c) (mkR c) (.slice a ps.length cc)), rB b7 87 [.int .i64 v.kind, .int .i64 v.now, .int .i64 v.who, .int .u64 v.key, .string v.body], rB b6 87 [.int .i64 u.kind, .int .i64 u.now, .int .i64 u.who, .int .u64 u.key, .string u.body], rB b4 24 (cL c), rS a cc 4 (ps.map rowOf), rS ra rc 5 (acts.map actRow)]) () H.out ?_ (steps_al ?_) ?_ ?_
  · exact fun _ _ _ _ _ h => h
  · refine al_cons ?_ (al_nil)
    · intro LL xx ac wc sg hst hwant QQ hgo
      exact op_val hwant hgo hst _ (exec_assign rfl rfl) rfl
  · exact skips [] (by kernel_rfl) (fun _ h => by cases h)
  · intro xx ac1 wz hfr hsl hst
    exact hfin ac1 wz (hfr.size.trans hz) hfr.defers (fr_keep hfr [8] (by kernel_rfl)) (hsl 0 (by decide)) (Lib.hid hst)
set_option maxRecDepth 20000 in
theorem apart_w_r18 (c : Cfg) (ra : Option Addr) (rc : Nat) (acts : List ActK) (u : ActK) (v : ActK) (hu0 : 0 ≤ u.key) (hu1 : u.key ≤ 18446744073709551615) (hv0 : 0 ≤ v.key) (hv1 : v.key ≤ 18446744073709551615) (b4 : Nat) (b6 : Nat) (b7 : Nat) (z1d : ¬ (60 < (acts.length : Int))) (b9 : Nat) (i : Nat) (a : Option Addr) (cc : Nat) (ps : List PairV) (now : Int) (hi : i ≤ acts.length) (hl : ps.length ≤ i) (hs : Hid (Sorted ps)) (hn0 : 0 ≤ now) (hn1 : now ≤ 2 * i) (z2d : ¬ (i < acts.length)) (z5lrd : ¬ (40 < (u.body.size : Int))) (z5rd : ¬ (40 < (v.body.size : Int))) {wa wb : World} (H : Hid (Hp [] wa wb [rB b9 84 (kL (mkC c) (mkR c) (.slice a ps.length cc)), rB b7 87 [.int .i64 v.kind, .int .i64 v.now, .int .i64 v.who, .int .u64 v.key, .string v.body], rB b6 87 [.int .i64 u.kind, .int .i64 u.now, .int .i64 u.who, .int .u64 u.key, .string u.body], rB b4 24 (cL c), rS a cc 4 (ps.map rowOf), rS ra rc 5 (acts.map actRow)])) (ac0 : Act) (hz : ac0.tmps.size = 157) (so6 : ac0.eval (.tmp 6) = .pointer (some ⟨b6, 0, none⟩)) (so9 : ac0.eval (.tmp 9) = .pointer (some ⟨b9, 0, none⟩)) (so10 : ac0.eval (.tmp 10) = .int .i64 now) {QR : Exit → Act → World → Prop} (hfin : ∀ (ac1 : Act) (wz : World), ac1.tmps.size = 157 → ac1.defers = ac0.defers → (∀ t, ([14, 15, 103, 104, 105, 106, 107, 108, 109, 110, 111, 112, 113, 114] : List Nat).contains t = false → ac1.eval (.tmp t) = ac0.eval (.tmp t)) → ac1.eval (.tmp 14) = .string ((lookV (mkC c) ps now u.who u.key u.body).1) → ac1.eval (.tmp 15) = .int .i64 ((lookV (mkC c) ps now u.who u.key u.body).2) →  Hid (Hp [] wa wz [rB b9 84 (kL (mkC c) (mkR c) (.slice a ps.length cc)), rB b7 87 [.int .i64 v.kind, .int .i64 v.now, .int .i64 v.who, .int .u64 v.key, .string v.body], rB b6 87 [.int .i64 u.kind, .int .i64 u.now, .int .i64 u.who, .int .u64 u.key, .string u.body], rB b4 24 (cL c), rS a cc 4 (ps.map rowOf), rS ra rc 5 (acts.map actRow)]) → QR .normal ac1 wz) : (regAt Try.f11 18).wp Try.prog QR ac0 wb := by
  refine wp_region_sq (by kernel_rfl) 157 hz (by kernel_rfl) (fun (xx : Unit) jx => nth [.agg (kA (mkC c) (mkR c) (.slice a ps.length cc)), .int .i64 now, .pointer (some ⟨b6, 2, none⟩), .int .i64 u.who, .pointer (some ⟨b6, 3, none⟩), .int .u64 u.key, .pointer (some ⟨b6, 4, none⟩), .string u.body, .tuple #[.string ((lookV (mkC c) ps now u.who u.key u.body).1), .int .i64 ((lookV (mkC c) ps now u.who u.key u.body).2)], .tuple #[.string ((lookV (mkC c) ps now u.who u.key u.body).1), .int .i64 ((lookV (mkC c) ps now u.who u.key u.body).2)], .string ((lookV (mkC c) ps now u.who u.key u.body).1), .int .i64 ((lookV (mkC c) ps now u.who u.key u.body).2), .string ((lookV (mkC c) ps now u.who u.key u.body).1), .int .i64 ((lookV (mkC c) ps now u.who u.key u.body).2)] jx) (fun (LL : Nat → Bool) (xx : Unit) ww => Hp [] wa ww [rB b9 84 (kL (mkC c) (mkR c) (.slice a ps.length cc)), rB b7 87 [.int .i64 v.kind, .int .i64 v.now, .int .i64 v.who, .int .u64 v.key, .string v.body], rB b6 87 [.int .i64 u.kind, .int .i64 u.now, .int .i64 u.who, .int .u64 u.key, .string u.body], rB b4 24 (cL c), rS a cc 4 (ps.map rowOf), rS ra rc 5 (acts.map actRow)]) () H.out ?_ (steps_al ?_) ?_ ?_
  · exact fun _ _ _ _ _ h => h
  · refine al_cons ?_ (al_cons ?_ (al_cons ?_ (al_cons ?_ (al_cons ?_ (al_cons ?_ (al_cons ?_ (al_cons ?_ (al_cons ?_ (al_cons ?_ (al_cons ?_ (al_cons ?_ (al_cons ?_ (al_cons ?_ (al_nil))))))))))))))
    · intro LL xx ac wc sg hst hwant QQ hgo
      have H := Lib.hid hst
      refine hpA_load tykeys_Keys H rfl ((sg.free 9 (by kernel_rfl)).trans so9) hwant (by (repeat (first | exact List.Mem.head _ | apply List.Mem.tail))) (by rfl) rfl ?_
      exact hgo _ () _ (fun _ _ => rfl) rfl hst
    · intro LL xx ac wc sg hst hwant QQ hgo
      exact op_val hwant hgo hst _ (exec_move rfl ((sg.free 10 (by kernel_rfl)).trans so10)) rfl
    · intro LL xx ac wc sg hst hwant QQ hgo
      have se6 : ac.eval (.tmp 6) = _ := ((sg.free 6 (by kernel_rfl)).trans so6)
      have sg6 := gt_of se6
      exact op_val hwant hgo hst _ (by simp only [execOp, nth]; go_simp <;> omega) rfl
    · intro LL xx ac wc sg hst hwant QQ hgo
      have H := Lib.hid hst
      refine hpA_load1 tyint H rfl (sg.slot 2 (sg.anc 2 rfl)) hwant (by (repeat (first | exact List.Mem.head _ | apply List.Mem.tail))) (by rfl) ?_
      exact hgo _ () _ (fun _ _ => rfl) rfl hst
    · intro LL xx ac wc sg hst hwant QQ hgo
      have se6 : ac.eval (.tmp 6) = _ := ((sg.free 6 (by kernel_rfl)).trans so6)
      have sg6 := gt_of se6
      exact op_val hwant hgo hst _ (by simp only [execOp, nth]; go_simp <;> omega) rfl
    · intro LL xx ac wc sg hst hwant QQ hgo
      have H := Lib.hid hst
      refine hpA_load1 tyuint64 H rfl (sg.slot 4 (sg.anc 4 rfl)) hwant (by (repeat (first | exact List.Mem.head _ | apply List.Mem.tail))) (by rfl) ?_
      exact hgo _ () _ (fun _ _ => rfl) rfl hst
    · intro LL xx ac wc sg hst hwant QQ hgo
      have se6 : ac.eval (.tmp 6) = _ := ((sg.free 6 (by kernel_rfl)).trans so6)
      have sg6 := gt_of se6
      exact op_val hwant hgo hst _ (by simp only [execOp, nth]; go_simp <;> omega) rfl
    · intro LL xx ac wc sg hst hwant QQ hgo
      have H := Lib.hid hst
      refine hpA_load1 tystring H rfl (sg.slot 6 (sg.anc 6 rfl)) hwant (by (repeat (first | exact List.Mem.head _ | apply List.Mem.tail))) (by rfl) ?_
      exact hgo _ () _ (fun _ _ => rfl) rfl hst
    · intro LL xx ac wc sg hst hwant QQ hgo
      have se104 : ac.eval (.tmp 104) = _ := (sg.slot 0 (sg.anc 0 rfl))
      have sg104 := gt_of se104
      have se105 : ac.eval (.tmp 105) = _ := (sg.slot 1 (sg.anc 1 rfl))
      have sg105 := gt_of se105
      have se107 : ac.eval (.tmp 107) = _ := (sg.slot 3 (sg.anc 3 rfl))
      have sg107 := gt_of se107
      have se109 : ac.eval (.tmp 109) = _ := (sg.slot 5 (sg.anc 5 rfl))
      have sg109 := gt_of se109
      have se111 : ac.eval (.tmp 111) = _ := (sg.slot 7 (sg.anc 7 rfl))
      have sg111 := gt_of se111
      (try simp only [nth] at se104 sg104 se105 sg105 se107 sg107 se109 sg109 se111 sg111)
      have H := Lib.hid hst
      refine op_call hwant hgo 48 _ (by simp only [execOp]; go_simp) (lookC (mkC c) (mkR c) a cc ps now u.who u.key u.body wc (hp_held H (by (repeat (first | exact List.Mem.head _ | apply List.Mem.tail)))) hu0 hu1 hs (by omega)) ?_
      rintro er wd ⟨rfl, hof⟩
      exact ⟨_, (), rfl, fun _ _ => rfl, rfl, Hp.quiet hst hof⟩
    · intro LL xx ac wc sg hst hwant QQ hgo
      exact op_val hwant hgo hst _ (exec_move rfl (sg.slot 8 (sg.anc 8 rfl))) rfl
    · intro LL xx ac wc sg hst hwant QQ hgo
      have se103 : ac.eval (.tmp 103) = _ := (sg.slot 9 (sg.anc 9 rfl))
      have sg103 := gt_of se103
      (try simp only [nth] at se103 sg103)
      exact op_val hwant hgo hst _ (by simp only [execOp, nth]; go_simp <;> omega) rfl
    · intro LL xx ac wc sg hst hwant QQ hgo
      have se103 : ac.eval (.tmp 103) = _ := (sg.slot 9 (sg.anc 9 rfl))
      have sg103 := gt_of se103
      (try simp only [nth] at se103 sg103)
      exact op_val hwant hgo hst _ (by simp only [execOp, nth]; go_simp <;> omega) rfl
    · intro LL xx ac wc sg hst hwant QQ hgo
      exact op_val hwant hgo hst _ (exec_assign rfl (sg.slot 10 (sg.anc 10 rfl))) rfl
    · intro LL xx ac wc sg hst hwant QQ hgo
      exact op_val hwant hgo hst _ (exec_assign rfl (sg.slot 11 (sg.anc 11 rfl))) rfl
  · exact skips [] (by kernel_rfl) (fun _ h => by cases h)
  · intro xx ac1 wz hfr hsl hst
    exact hfin ac1 wz (hfr.size.trans hz) hfr.defers (fr_keep hfr [14, 15, 103, 104, 105, 106, 107, 108, 109, 110, 111, 112, 113, 114] (by kernel_rfl)) (hsl 12 (by decide)) (hsl 13 (by decide)) (Lib.hid hst)
set_option maxRecDepth 20000 in
theorem apart_w_r19 (c : Cfg) (ra : Option Addr) (rc : Nat) (acts : List ActK) (u : ActK) (v : ActK) (hu0 : 0 ≤ u.key) (hu1 : u.key ≤ 18446744073709551615) (hv0 : 0 ≤ v.key) (hv1 : v.key ≤ 18446744073709551615) (b4 : Nat) (b6 : Nat) (b7 : Nat) (z1d : ¬ (60 < (acts.length : Int))) (b9 : Nat) (i : Nat) (a : Option Addr) (cc : Nat) (ps : List PairV) (now : Int) (hi : i ≤ acts.length) (hl : ps.length ≤ i) (hs : Hid (Sorted ps)) (hn0 : 0 ≤ now) (hn1 : now ≤ 2 * i) (z2d : ¬ (i < acts.length)) (z5lrd : ¬ (40 < (u.body.size : Int))) (z5rd : ¬ (40 < (v.body.size : Int))) (y6 : ((lookV (mkC c) ps now v.who v.key v.body).2 != 1) = true) {wa wb : World} (H : Hid (Hp [] wa wb [rB b9 84 (kL (mkC c) (mkR c) (.slice a ps.length cc)), rB b7 87 [.int .i64 v.kind, .int .i64 v.now, .int .i64 v.who, .int .u64 v.key, .string v.body], rB b6 87 [.int .i64 u.kind, .int .i64 u.now, .int .i64 u.who, .int .u64 u.key, .string u.body], rB b4 24 (cL c), rS a cc 4 (ps.map rowOf), rS ra rc 5 (acts.map actRow)])) (ac0 : Act) (hz : ac0.tmps.size = 157) (so7 : ac0.eval (.tmp 7) = .pointer (some ⟨b7, 0, none⟩)) (so9 : ac0.eval (.tmp 9) = .pointer (some ⟨b9, 0, none⟩)) (so10 : ac0.eval (.tmp 10) = .int .i64 now) {QR : Exit → Act → World → Prop} (hfin : ∀ (b16 : Nat) (ac1 : Act) (wz : World), ac1.tmps.size = 157 → ac1.defers = ac0.defers → (∀ t, ([16, 17, 115, 116, 117, 118, 119, 120, 121, 122, 123, 124, 125, 126] : List Nat).contains t = false → ac1.eval (.tmp t) = ac0.eval (.tmp t)) → ac1.eval (.tmp 16) = .pointer (some ⟨b16, 0, none⟩) → ac1.eval (.tmp 17) = .int .i64 7 →  Hid (Hp [] wa wz [rB b16 84 [.int .i64 0, .int .i64 0, .int .i64 0, .int .i64 0, .int .i64 0, .int .i64 0, .int .i64 0, .int .i64 0, .int .i64 0, .int .i64 0, .int .i64 0, .int .i64 0, .int .i64 0, .int .i64 0, .int .i64 0, .int .i64 0, .int .i64 0, .int .u32 0, .int .i64 0, .slice none 0 0], rB b9 84 (kL (mkC c) (mkR c) (.slice a ps.length cc)), rB b7 87 [.int .i64 v.kind, .int .i64 v.now, .int .i64 v.who, .int .u64 v.key, .string v.body], rB b6 87 [.int .i64 u.kind, .int .i64 u.now, .int .i64 u.who, .int .u64 u.key, .string u.body], rB b4 24 (cL c), rS a cc 4 (ps.map rowOf), rS ra rc 5 (acts.map actRow)]) → QR .normal ac1 wz) : (regAt Try.f11 19).wp Try.prog QR ac0 wb := by
  refine wp_region_sq (by kernel_rfl) 157 hz (by kernel_rfl) (fun (xx : Nat) jx => match xx with | b16 => nth [.agg (kA (mkC c) (mkR c) (.slice a ps.length cc)), .int .i64 now, .pointer (some ⟨b7, 2, none⟩), .int .i64 v.who, .pointer (some ⟨b7, 3, none⟩), .int .u64 v.key, .pointer (some ⟨b7, 4, none⟩), .string v.body, .tuple #[.agg #[.int .i64 0, .int .i64 0, .int .i64 0, .int .i64 0, .int .i64 0, .int .i64 0, .int .i64 0, .int .i64 0, .int .i64 0, .int .i64 0, .int .i64 0, .int .i64 0, .int .i64 0, .int .i64 0, .int .i64 0, .int .i64 0, .int .i64 0, .int .u32 0, .int .i64 0, .slice none 0 0], .int .i64 7], .tuple #[.agg #[.int .i64 0, .int .i64 0, .int .i64 0, .int .i64 0, .int .i64 0, .int .i64 0, .int .i64 0, .int .i64 0, .int .i64 0, .int .i64 0, .int .i64 0, .int .i64 0, .int .i64 0, .int .i64 0, .int .i64 0, .int .i64 0, .int .i64 0, .int .u32 0, .int .i64 0, .slice none 0 0], .int .i64 7], .agg #[.int .i64 0, .int .i64 0, .int .i64 0, .int .i64 0, .int .i64 0, .int .i64 0, .int .i64 0, .int .i64 0, .int .i64 0, .int .i64 0, .int .i64 0, .int .i64 0, .int .i64 0, .int .i64 0, .int .i64 0, .int .i64 0, .int .i64 0, .int .u32 0, .int .i64 0, .slice none 0 0], .int .i64 7, .pointer (some ⟨b16, 0, none⟩), undef, .int .i64 7] jx) (fun (LL : Nat → Bool) (xx : Nat) ww => match xx with | b16 => Hp [] wa ww (bif LL 13 then [rB b16 84 [.int .i64 0, .int .i64 0, .int .i64 0, .int .i64 0, .int .i64 0, .int .i64 0, .int .i64 0, .int .i64 0, .int .i64 0, .int .i64 0, .int .i64 0, .int .i64 0, .int .i64 0, .int .i64 0, .int .i64 0, .int .i64 0, .int .i64 0, .int .u32 0, .int .i64 0, .slice none 0 0], rB b9 84 (kL (mkC c) (mkR c) (.slice a ps.length cc)), rB b7 87 [.int .i64 v.kind, .int .i64 v.now, .int .i64 v.who, .int .u64 v.key, .string v.body], rB b6 87 [.int .i64 u.kind, .int .i64 u.now, .int .i64 u.who, .int .u64 u.key, .string u.body], rB b4 24 (cL c), rS a cc 4 (ps.map rowOf), rS ra rc 5 (acts.map actRow)] else (bif LL 12 then [rB b16 84 [.int .i64 0, .int .i64 0, .int .i64 0, .int .i64 0, .int .i64 0, .int .i64 0, .int .i64 0, .int .i64 0, .int .i64 0, .int .i64 0, .int .i64 0, .int .i64 0, .int .i64 0, .int .i64 0, .int .i64 0, .int .i64 0, .int .i64 0, .int .u32 0, .int .i64 0, .slice none 0 0], rB b9 84 (kL (mkC c) (mkR c) (.slice a ps.length cc)), rB b7 87 [.int .i64 v.kind, .int .i64 v.now, .int .i64 v.who, .int .u64 v.key, .string v.body], rB b6 87 [.int .i64 u.kind, .int .i64 u.now, .int .i64 u.who, .int .u64 u.key, .string u.body], rB b4 24 (cL c), rS a cc 4 (ps.map rowOf), rS ra rc 5 (acts.map actRow)] else [rB b9 84 (kL (mkC c) (mkR c) (.slice a ps.length cc)), rB b7 87 [.int .i64 v.kind, .int .i64 v.now, .int .i64 v.who, .int .u64 v.key, .string v.body], rB b6 87 [.int .i64 u.kind, .int .i64 u.now, .int .i64 u.who, .int .u64 u.key, .string u.body], rB b4 24 (cL c), rS a cc 4 (ps.map rowOf), rS ra rc 5 (acts.map actRow)]))) default H.out ?_ (steps_al ?_) ?_ ?_
  · intro L1 L2 xx ww hL sg
    have lh12 := hL 12 (by decide)
    have lh13 := hL 13 (by decide)
    simp only [lh12, lh13] at sg
    exact sg
  · refine al_cons ?_ (al_cons ?_ (al_cons ?_ (al_cons ?_ (al_cons ?_ (al_cons ?_ (al_cons ?_ (al_cons ?_ (al_cons ?_ (al_cons ?_ (al_cons ?_ (al_cons ?_ (al_cons ?_ (al_cons ?_ (al_cons ?_ (al_nil)))))))))))))))
    · intro LL xx ac wc sg hst hwant QQ hgo
      revert sg hst hgo; revert xx; intro b16 sg hst hgo
      have H := Lib.hid hst
      simp only [sg.des 12 rfl, sg.des 13 rfl, cond_true, cond_false] at H
      refine hpA_load tykeys_Keys H rfl ((sg.free 9 (by kernel_rfl)).trans so9) hwant (by (repeat (first | exact List.Mem.head _ | apply List.Mem.tail))) (by rfl) rfl ?_
      exact hgo _ b16 _ (fun _ _ => rfl) rfl hst
    · intro LL xx ac wc sg hst hwant QQ hgo
      revert sg hst hgo; revert xx; intro b16 sg hst hgo
      exact op_val hwant hgo hst _ (exec_move rfl ((sg.free 10 (by kernel_rfl)).trans so10)) rfl
    · intro LL xx ac wc sg hst hwant QQ hgo
      revert sg hst hgo; revert xx; intro b16 sg hst hgo
      have se7 : ac.eval (.tmp 7) = _ := ((sg.free 7 (by kernel_rfl)).trans so7)
      have sg7 := gt_of se7
      exact op_val hwant hgo hst _ (by simp only [execOp, nth]; go_simp <;> omega) rfl
    · intro LL xx ac wc sg hst hwant QQ hgo
      revert sg hst hgo; revert xx; intro b16 sg hst hgo
      have H := Lib.hid hst
      simp only [sg.des 12 rfl, sg.des 13 rfl, cond_true, cond_false] at H
      refine hpA_load1 tyint H rfl (sg.slot 2 (sg.anc 2 rfl)) hwant (by (repeat (first | exact List.Mem.head _ | apply List.Mem.tail))) (by rfl) ?_
      exact hgo _ b16 _ (fun _ _ => rfl) rfl hst
    · intro LL xx ac wc sg hst hwant QQ hgo
      revert sg hst hgo; revert xx; intro b16 sg hst hgo
      have se7 : ac.eval (.tmp 7) = _ := ((sg.free 7 (by kernel_rfl)).trans so7)
      have sg7 := gt_of se7
      exact op_val hwant hgo hst _ (by simp only [execOp, nth]; go_simp <;> omega) rfl
    · intro LL xx ac wc sg hst hwant QQ hgo
      revert sg hst hgo; revert xx; intro b16 sg hst hgo
      have H := Lib.hid hst
      simp only [sg.des 12 rfl, sg.des 13 rfl, cond_true, cond_false] at H
      refine hpA_load1 tyuint64 H rfl (sg.slot 4 (sg.anc 4 rfl)) hwant (by (repeat (first | exact List.Mem.head _ | apply List.Mem.tail))) (by rfl) ?_
      exact hgo _ b16 _ (fun _ _ => rfl) rfl hst
    · intro LL xx ac wc sg hst hwant QQ hgo
      revert sg hst hgo; revert xx; intro b16 sg hst hgo
      have se7 : ac.eval (.tmp 7) = _ := ((sg.free 7 (by kernel_rfl)).trans so7)
      have sg7 := gt_of se7
      exact op_val hwant hgo hst _ (by simp only [execOp, nth]; go_simp <;> omega) rfl
    · intro LL xx ac wc sg hst hwant QQ hgo
      revert sg hst hgo; revert xx; intro b16 sg hst hgo
      have H := Lib.hid hst
      simp only [sg.des 12 rfl, sg.des 13 rfl, cond_true, cond_false] at H
      refine hpA_load1 tystring H rfl (sg.slot 6 (sg.anc 6 rfl)) hwant (by (repeat (first | exact List.Mem.head _ | apply List.Mem.tail))) (by rfl) ?_
      exact hgo _ b16 _ (fun _ _ => rfl) rfl hst
    · intro LL xx ac wc sg hst hwant QQ hgo
      revert sg hst hgo; revert xx; intro b16 sg hst hgo
      have se116 : ac.eval (.tmp 116) = _ := (sg.slot 0 (sg.anc 0 rfl))
      have sg116 := gt_of se116
      have se117 : ac.eval (.tmp 117) = _ := (sg.slot 1 (sg.anc 1 rfl))
      have sg117 := gt_of se117
      have se119 : ac.eval (.tmp 119) = _ := (sg.slot 3 (sg.anc 3 rfl))
      have sg119 := gt_of se119
      have se121 : ac.eval (.tmp 121) = _ := (sg.slot 5 (sg.anc 5 rfl))
      have sg121 := gt_of se121
      have se123 : ac.eval (.tmp 123) = _ := (sg.slot 7 (sg.anc 7 rfl))
      have sg123 := gt_of se123
      (try simp only [nth] at se116 sg116 se117 sg117 se119 sg119 se121 sg121 se123 sg123)
      have H := Lib.hid hst
      simp only [sg.des 12 rfl, sg.des 13 rfl, cond_true, cond_false] at H
      refine op_call hwant hgo 50 _ (by simp only [execOp]; go_simp) (withNo (mkC c) (mkR c) a cc ps now v.who v.key v.body (⟨#[111, 116, 104, 101, 114]⟩ : ByteArray) wc (hp_held H (by (repeat (first | exact List.Mem.head _ | apply List.Mem.tail)))) hv0 hv1 hs (by omega) y6) ?_
      rintro er wd ⟨rfl, hof⟩
      exact ⟨_, b16, rfl, fun _ _ => rfl, rfl, Hp.quiet hst hof⟩
    · intro LL xx ac wc sg hst hwant QQ hgo
      revert sg hst hgo; revert xx; intro b16 sg hst hgo
      exact op_val hwant hgo hst _ (exec_move rfl (sg.slot 8 (sg.anc 8 rfl))) rfl
    · intro LL xx ac wc sg hst hwant QQ hgo
      revert sg hst hgo; revert xx; intro b16 sg hst hgo
      have se115 : ac.eval (.tmp 115) = _ := (sg.slot 9 (sg.anc 9 rfl))
      have sg115 := gt_of se115
      (try simp only [nth] at se115 sg115)
      exact op_val hwant hgo hst _ (by simp only [execOp, nth]; go_simp <;> omega) rfl
    · intro LL xx ac wc sg hst hwant QQ hgo
      revert sg hst hgo; revert xx; intro b16 sg hst hgo
      have se115 : ac.eval (.tmp 115) = _ := (sg.slot 9 (sg.anc 9 rfl))
      have sg115 := gt_of se115
      (try simp only [nth] at se115 sg115)
      exact op_val hwant hgo hst _ (by simp only [execOp, nth]; go_simp <;> omega) rfl
    · intro LL xx ac wc sg hst hwant QQ hgo
      revert sg hst hgo; revert xx; intro xold sg hst hgo
      have H := Lib.hid hst
      simp only [sg.self, sg.des 13 rfl, cond_true, cond_false] at H
      refine hpA_alloc tykeys_Keys H rfl rfl ?_
      intro wd b16 H2
      exact hgo _ b16 _ (sg.agree (x' := b16) (n := 15) rfl (by (iterate 15 (refine ix_cons (by first | exact fun _ => rfl | exact no sg.self | exact no (sg.des _ rfl)) ?_)); exact ix_nil)) rfl (by simp only [(show upd LL 12 12 = true from rfl), (show upd LL 12 13 = LL 13 from rfl), sg.des 13 rfl, cond_true, cond_false]; exact H2.out)
    · intro LL xx ac wc sg hst hwant QQ hgo
      revert sg hst hgo; revert xx; intro b16 sg hst hgo
      have H := Lib.hid hst
      simp only [sg.anc 12 rfl, sg.self, cond_true, cond_false] at H
      refine hpA_store tykeys_Keys H rfl rfl (sg.slot 12 (sg.anc 12 rfl)) (sg.slot 10 (sg.anc 10 rfl)) rfl (by repeat (first | apply Put.head | apply Put.tail)) (by simp [kA, kL, rkA, rkL, cA, cL]) (by simp [kA, kL, rkA, rkL, cA, cL, Value.oneCell']) (by first | rfl | (simp only [spl]; rfl)) rfl ?_
      intro wd H2
      exact hgo _ b16 _ (sg.agree (x' := b16) (n := 15) rfl (by (iterate 15 (refine ix_cons (by first | exact fun _ => rfl | exact no sg.self | exact no (sg.des _ rfl)) ?_)); exact ix_nil)) rfl (by simp only [(show upd LL 13 12 = LL 12 from rfl), sg.anc 12 rfl, (show upd LL 13 13 = true from rfl), cond_true, cond_false]; exact H2.out)
    · intro LL xx ac wc sg hst hwant QQ hgo
      revert sg hst hgo; revert xx; intro b16 sg hst hgo
      exact op_val hwant hgo hst _ (exec_assign rfl (sg.slot 11 (sg.anc 11 rfl))) rfl
  · exact skips [] (by kernel_rfl) (fun _ h => by cases h)
  · intro xx ac1 wz hfr hsl hst
    revert hsl hst; revert xx; intro b16 hsl hst
    exact hfin b16 ac1 wz (hfr.size.trans hz) hfr.defers (fr_keep hfr [16, 17, 115, 116, 117, 118, 119, 120, 121, 122, 123, 124, 125, 126] (by kernel_rfl)) (hsl 12 (by decide)) (hsl 14 (by decide)) (Lib.hid hst)
set_option maxRecDepth 20000 in
theorem apart_w_r20 (c : Cfg) (ra : Option Addr) (rc : Nat) (acts : List ActK) (u : ActK) (v : ActK) (hu0 : 0 ≤ u.key) (hu1 : u.key ≤ 18446744073709551615) (hv0 : 0 ≤ v.key) (hv1 : v.key ≤ 18446744073709551615) (b4 : Nat) (b6 : Nat) (b7 : Nat) (z1d : ¬ (60 < (acts.length : Int))) (b9 : Nat) (i : Nat) (a : Option Addr) (cc : Nat) (ps : List PairV) (now : Int) (hi : i ≤ acts.length) (hl : ps.length ≤ i) (hn0 : 0 ≤ now) (hn1 : now ≤ 2 * i) (z2d : ¬ (i < acts.length)) (z5lrd : ¬ (40 < (u.body.size : Int))) (z5rd : ¬ (40 < (v.body.size : Int))) (b16 : Nat) {wa wb : World} (H : Hid (Hp [] wa wb [rB b16 84 [.int .i64 0, .int .i64 0, .int .i64 0, .int .i64 0, .int .i64 0, .int .i64 0, .int .i64 0, .int .i64 0, .int .i64 0, .int .i64 0, .int .i64 0, .int .i64 0, .int .i64 0, .int .i64 0, .int .i64 0, .int .i64 0, .int .i64 0, .int .u32 0, .int .i64 0, .slice none 0 0], rB b9 84 (kL (mkC c) (mkR c) (.slice a ps.length cc)), rB b7 87 [.int .i64 v.kind, .int .i64 v.now, .int .i64 v.who, .int .u64 v.key, .string v.body], rB b6 87 [.int .i64 u.kind, .int .i64 u.now, .int .i64 u.who, .int .u64 u.key, .string u.body], rB b4 24 (cL c), rS a cc 4 (ps.map rowOf), rS ra rc 5 (acts.map actRow)])) (ac0 : Act) (hz : ac0.tmps.size = 157) (so17 : ac0.eval (.tmp 17) = .int .i64 7) {QR : Exit → Act → World → Prop} (hfin : ∀ (ac1 : Act) (wz : World), ac1.tmps.size = 157 → ac1.defers = ac0.defers → (∀ t, ([127, 128] : List Nat).contains t = false → ac1.eval (.tmp t) = ac0.eval (.tmp t)) → ac1.eval (.tmp 128) = .bool true →  Hid (Hp [] wa wz [rB b16 84 [.int .i64 0, .int .i64 0, .int .i64 0, .int .i64 0, .int .i64 0, .int .i64 0, .int .i64 0, .int .i64 0, .int .i64 0, .int .i64 0, .int .i64 0, .int .i64 0, .int .i64 0, .int .i64 0, .int .i64 0, .int .i64 0, .int .i64 0, .int .u32 0, .int .i64 0, .slice none 0 0], rB b9 84 (kL (mkC c) (mkR c) (.slice a ps.length cc)), rB b7 87 [.int .i64 v.kind, .int .i64 v.now, .int .i64 v.who, .int .u64 v.key, .string v.body], rB b6 87 [.int .i64 u.kind, .int .i64 u.now, .int .i64 u.who, .int .u64 u.key, .string u.body], rB b4 24 (cL c), rS a cc 4 (ps.map rowOf), rS ra rc 5 (acts.map actRow)]) → QR .normal ac1 wz) : (regAt Try.f11 20).wp Try.prog QR ac0 wb := by
  refine wp_region_sq (by kernel_rfl) 157 hz (by kernel_rfl) (fun (xx : Unit) jx => nth [.int .i64 7, .bool true] jx) (fun (LL : Nat → Bool) (xx : Unit) ww => Hp [] wa ww [rB b16 84 [.int .i64 0, .int .i64 0, .int .i64 0, .int .i64 0, .int .i64 0, .int .i64 0, .int .i64 0, .int .i64 0, .int .i64 0, .int .i64 0, .int .i64 0, .int .i64 0, .int .i64 0, .int .i64 0, .int .i64 0, .int .i64 0, .int .i64 0, .int .u32 0, .int .i64 0, .slice none 0 0], rB b9 84 (kL (mkC c) (mkR c) (.slice a ps.length cc)), rB b7 87 [.int .i64 v.kind, .int .i64 v.now, .int .i64 v.who, .int .u64 v.key, .string v.body], rB b6 87 [.int .i64 u.kind, .int .i64 u.now, .int .i64 u.who, .int .u64 u.key, .string u.body], rB b4 24 (cL c), rS a cc 4 (ps.map rowOf), rS ra rc 5 (acts.map actRow)]) () H.out ?_ (steps_al ?_) ?_ ?_
  · exact fun _ _ _ _ _ h => h
  · refine al_cons ?_ (al_cons ?_ (al_nil))
    · intro LL xx ac wc sg hst hwant QQ hgo
      exact op_val hwant hgo hst _ (exec_move rfl ((sg.free 17 (by kernel_rfl)).trans so17)) rfl
    · intro LL xx ac wc sg hst hwant QQ hgo
      have se127 : ac.eval (.tmp 127) = _ := (sg.slot 0 (sg.anc 0 rfl))
      have sg127 := gt_of se127
      (try simp only [nth] at se127 sg127)
      exact op_val hwant hgo hst _ (by simp only [execOp, nth]; go_simp <;> omega) rfl
  · exact skips [] (by kernel_rfl) (fun _ h => by cases h)
  · intro xx ac1 wz hfr hsl hst
    exact hfin ac1 wz (hfr.size.trans hz) hfr.defers (fr_keep hfr [127, 128] (by kernel_rfl)) (hsl 1 (by decide)) (Lib.hid hst)
set_option maxRecDepth 20000 in
theorem apart_w_r21 (c : Cfg) (ra : Option Addr) (rc : Nat) (acts : List ActK) (u : ActK) (v : ActK) (hu0 : 0 ≤ u.key) (hu1 : u.key ≤ 18446744073709551615) (hv0 : 0 ≤ v.key) (hv1 : v.key ≤ 18446744073709551615) (b4 : Nat) (b6 : Nat) (b7 : Nat) (z1d : ¬ (60 < (acts.length : Int))) (b9 : Nat) (i : Nat) (a : Option Addr) (cc : Nat) (ps : List PairV) (now : Int) (hi : i ≤ acts.length) (hl : ps.length ≤ i) (hn0 : 0 ≤ now) (hn1 : now ≤ 2 * i) (z2d : ¬ (i < acts.length)) (z5lrd : ¬ (40 < (u.body.size : Int))) (z5rd : ¬ (40 < (v.body.size : Int))) (b16 : Nat) {wa wb : World} (H : Hid (Hp [] wa wb [rB b16 84 [.int .i64 0, .int .i64 0, .int .i64 0, .int .i64 0, .int .i64 0, .int .i64 0, .int .i64 0, .int .i64 0, .int .i64 0, .int .i64 0, .int .i64 0, .int .i64 0, .int .i64 0, .int .i64 0, .int .i64 0, .int .i64 0, .int .i64 0, .int .u32 0, .int .i64 0, .slice none 0 0], rB b9 84 (kL (mkC c) (mkR c) (.slice a ps.length cc)), rB b7 87 [.int .i64 v.kind, .int .i64 v.now, .int .i64 v.who, .int .u64 v.key, .string v.body], rB b6 87 [.int .i64 u.kind, .int .i64 u.now, .int .i64 u.who, .int .u64 u.key, .string u.body], rB b4 24 (cL c), rS a cc 4 (ps.map rowOf), rS ra rc 5 (acts.map actRow)])) (ac0 : Act) (hz : ac0.tmps.size = 157)  {QR : Exit → Act → World → Prop} (hfin : ∀ (ac1 : Act) (wz : World), ac1.tmps.size = 157 → ac1.defers = ac0.defers → (∀ t, ([8] : List Nat).contains t = false → ac1.eval (.tmp t) = ac0.eval (.tmp t)) → ac1.eval (.tmp 8) = .bool true →  Hid (Hp [] wa wz [rB b16 84 [.int .i64 0, .int .i64 0, .int .i64 0, .int .i64 0, .int .i64 0, .int .i64 0, .int .i64 0, .int .i64 0, .int .i64 0, .int .i64 0, .int .i64 0, .int .i64 0, .int .i64 0, .int .i64 0, .int .i64 0, .int .i64 0, .int .i64 0, .int .u32 0, .int .i64 0, .slice none 0 0], rB b9 84 (kL (mkC c) (mkR c) (.slice a ps.length cc)), rB b7 87 [.int .i64 v.kind, .int .i64 v.now, .int .i64 v.who, .int .u64 v.key, .string v.body], rB b6 87 [.int .i64 u.kind, .int .i64 u.now, .int .i64 u.who, .int .u64 u.key, .string u.body], rB b4 24 (cL c), rS a cc 4 (ps.map rowOf), rS ra rc 5 (acts.map actRow)]) → QR .normal ac1 wz) : (regAt Try.f11 21).wp Try.prog QR ac0 wb := by
  refine wp_region_sq (by kernel_rfl) 157 hz (by kernel_rfl) (fun (xx : Unit) jx => nth [.bool true] jx) (fun (LL : Nat → Bool) (xx : Unit) ww => Hp [] wa ww [rB b16 84 [.int .i64 0, .int .i64 0, .int .i64 0, .int .i64 0, .int .i64 0, .int .i64 0, .int .i64 0, .int .i64 0, .int .i64 0, .int .i64 0, .int .i64 0, .int .i64 0, .int .i64 0, .int .i64 0, .int .i64 0, .int .i64 0, .int .i64 0, .int .u32 0, .int .i64 0, .slice none 0 0], rB b9 84 (kL (mkC c) (mkR c) (.slice a ps.length cc)), rB b7 87 [.int .i64 v.kind, .int .i64 v.now, .int .i64 v.who, .int .u64 v.key, .string v.body], rB b6 87 [.int .i64 u.kind, .int .i64 u.now, .int .i64 u.who, .int .u64 u.key, .string u.body], rB b4 24 (cL c), rS a cc 4 (ps.map rowOf), rS ra rc 5 (acts.map actRow)]) () H.out ?_ (steps_al ?_) ?_ ?_
  · exact fun _ _ _ _ _ h => h
  · refine al_cons ?_ (al_nil)
    · intro LL xx ac wc sg hst hwant QQ hgo
      exact op_val hwant hgo hst _ (exec_assign rfl rfl) rfl
  · exact skips [] (by kernel_rfl) (fun _ h => by cases h)
  · intro xx ac1 wz hfr hsl hst
    exact hfin ac1 wz (hfr.size.trans hz) hfr.defers (fr_keep hfr [8] (by kernel_rfl)) (hsl 0 (by decide)) (Lib.hid hst)
set_option maxRecDepth 20000 in
theorem apart_w_r19x1 (c : Cfg) (ra : Option Addr) (rc : Nat) (acts : List ActK) (u : ActK) (v : ActK) (hu0 : 0 ≤ u.key) (hu1 : u.key ≤ 18446744073709551615) (hv0 : 0 ≤ v.key) (hv1 : v.key ≤ 18446744073709551615) (b4 : Nat) (b6 : Nat) (b7 : Nat) (z1d : ¬ (60 < (acts.length : Int))) (b9 : Nat) (i : Nat) (a : Option Addr) (cc : Nat) (ps : List PairV) (now : Int) (hi : i ≤ acts.length) (hl : ps.length ≤ i) (hs : Hid (Sorted ps)) (hn0 : 0 ≤ now) (hn1 : now ≤ 2 * i) (z2d : ¬ (i < acts.length)) (z5lrd : ¬ (40 < (u.body.size : Int))) (z5rd : ¬ (40 < (v.body.size : Int))) (y6 : ((lookV (mkC c) ps now v.who v.key v.body).2 != 1) = false) {wa wb : World} (H : Hid (Hp [] wa wb [rB b9 84 (kL (mkC c) (mkR c) (.slice a ps.length cc)), rB b7 87 [.int .i64 v.kind, .int .i64 v.now, .int .i64 v.who, .int .u64 v.key, .string v.body], rB b6 87 [.int .i64 u.kind, .int .i64 u.now, .int .i64 u.who, .int .u64 u.key, .string u.body], rB b4 24 (cL c), rS a cc 4 (ps.map rowOf), rS ra rc 5 (acts.map actRow)])) (ac0 : Act) (hz : ac0.tmps.size = 157) (so7 : ac0.eval (.tmp 7) = .pointer (some ⟨b7, 0, none⟩)) (so9 : ac0.eval (.tmp 9) = .pointer (some ⟨b9, 0, none⟩)) (so10 : ac0.eval (.tmp 10) = .int .i64 now) {QR : Exit → Act → World → Prop} (hfin : ∀ (a19_8 : Option Addr) (c19_8 : Nat) (b16 : Nat) (ac1 : Act) (wz : World), ac1.tmps.size = 157 → ac1.defers = ac0.defers → (∀ t, ([16, 17, 115, 116, 117, 118, 119, 120, 121, 122, 123, 124, 125, 126] : List Nat).contains t = false → ac1.eval (.tmp t) = ac0.eval (.tmp t)) → ac1.eval (.tmp 16) = .pointer (some ⟨b16, 0, none⟩) → ac1.eval (.tmp 17) = .int .i64 0 →  Hid (Hp [] wa wz [rB b16 84 (kL (mkC c) (mkR c) (.slice a19_8 ((withV (mkR c) (nameV v.who v.key) ⟨v.key / 4294967296, v.body, (⟨#[111, 116, 104, 101, 114]⟩ : ByteArray)⟩ (ps.filter (keepB (mkC c) now))).1.length) c19_8)), rS a19_8 c19_8 4 ((withV (mkR c) (nameV v.who v.key) ⟨v.key / 4294967296, v.body, (⟨#[111, 116, 104, 101, 114]⟩ : ByteArray)⟩ (ps.filter (keepB (mkC c) now))).1.map rowOf), rB b9 84 (kL (mkC c) (mkR c) (.slice a ps.length cc)), rB b7 87 [.int .i64 v.kind, .int .i64 v.now, .int .i64 v.who, .int .u64 v.key, .string v.body], rB b6 87 [.int .i64 u.kind, .int .i64 u.now, .int .i64 u.who, .int .u64 u.key, .string u.body], rB b4 24 (cL c), rS a cc 4 (ps.map rowOf), rS ra rc 5 (acts.map actRow)]) → QR .normal ac1 wz) : (regAt Try.f11 19).wp Try.prog QR ac0 wb := by
  refine wp_region_sq (by kernel_rfl) 157 hz (by kernel_rfl) (fun (xx : Option Addr × Nat × Nat) jx => match xx with | (a19_8, c19_8, b16) => nth [.agg (kA (mkC c) (mkR c) (.slice a ps.length cc)), .int .i64 now, .pointer (some ⟨b7, 2, none⟩), .int .i64 v.who, .pointer (some ⟨b7, 3, none⟩), .int .u64 v.key, .pointer (some ⟨b7, 4, none⟩), .string v.body, .tuple #[.agg (kA (mkC c) (mkR c) (.slice a19_8 ((withV (mkR c) (nameV v.who v.key) ⟨v.key / 4294967296, v.body, (⟨#[111, 116, 104, 101, 114]⟩ : ByteArray)⟩ (ps.filter (keepB (mkC c) now))).1.length) c19_8)), .int .i64 0], .tuple #[.agg (kA (mkC c) (mkR c) (.slice a19_8 ((withV (mkR c) (nameV v.who v.key) ⟨v.key / 4294967296, v.body, (⟨#[111, 116, 104, 101, 114]⟩ : ByteArray)⟩ (ps.filter (keepB (mkC c) now))).1.length) c19_8)), .int .i64 0], .agg (kA (mkC c) (mkR c) (.slice a19_8 ((withV (mkR c) (nameV v.who v.key) ⟨v.key / 4294967296, v.body, (⟨#[111, 116, 104, 101, 114]⟩ : ByteArray)⟩ (ps.filter (keepB (mkC c) now))).1.length) c19_8)), .int .i64 0, .pointer (some ⟨b16, 0, none⟩), undef, .int .i64 0] jx) (fun (LL : Nat → Bool) (xx : Option Addr × Nat × Nat) ww => match xx with | (a19_8, c19_8, b16) => Hp [] wa ww (bif LL 13 then [rB b16 84 (kL (mkC c) (mkR c) (.slice a19_8 ((withV (mkR c) (nameV v.who v.key) ⟨v.key / 4294967296, v.body, (⟨#[111, 116, 104, 101, 114]⟩ : ByteArray)⟩ (ps.filter (keepB (mkC c) now))).1.length) c19_8)), rS a19_8 c19_8 4 ((withV (mkR c) (nameV v.who v.key) ⟨v.key / 4294967296, v.body, (⟨#[111, 116, 104, 101, 114]⟩ : ByteArray)⟩ (ps.filter (keepB (mkC c) now))).1.map rowOf), rB b9 84 (kL (mkC c) (mkR c) (.slice a ps.length cc)), rB b7 87 [.int .i64 v.kind, .int .i64 v.now, .int .i64 v.who, .int .u64 v.key, .string v.body], rB b6 87 [.int .i64 u.kind, .int .i64 u.now, .int .i64 u.who, .int .u64 u.key, .string u.body], rB b4 24 (cL c), rS a cc 4 (ps.map rowOf), rS ra rc 5 (acts.map actRow)] else (bif LL 12 then [rB b16 84 [.int .i64 0, .int .i64 0, .int .i64 0, .int .i64 0, .int .i64 0, .int .i64 0, .int .i64 0, .int .i64 0, .int .i64 0, .int .i64 0, .int .i64 0, .int .i64 0, .int .i64 0, .int .i64 0, .int .i64 0, .int .i64 0, .int .i64 0, .int .u32 0, .int .i64 0, .slice none 0 0], rS a19_8 c19_8 4 ((withV (mkR c) (nameV v.who v.key) ⟨v.key / 4294967296, v.body, (⟨#[111, 116, 104, 101, 114]⟩ : ByteArray)⟩ (ps.filter (keepB (mkC c) now))).1.map rowOf), rB b9 84 (kL (mkC c) (mkR c) (.slice a ps.length cc)), rB b7 87 [.int .i64 v.kind, .int .i64 v.now, .int .i64 v.who, .int .u64 v.key, .string v.body], rB b6 87 [.int .i64 u.kind, .int .i64 u.now, .int .i64 u.who, .int .u64 u.key, .string u.body], rB b4 24 (cL c), rS a cc 4 (ps.map rowOf), rS ra rc 5 (acts.map actRow)] else (bif LL 8 then [rS a19_8 c19_8 4 ((withV (mkR c) (nameV v.who v.key) ⟨v.key / 4294967296, v.body, (⟨#[111, 116, 104, 101, 114]⟩ : ByteArray)⟩ (ps.filter (keepB (mkC c) now))).1.map rowOf), rB b9 84 (kL (mkC c) (mkR c) (.slice a ps.length cc)), rB b7 87 [.int .i64 v.kind, .int .i64 v.now, .int .i64 v.who, .int .u64 v.key, .string v.body], rB b6 87 [.int .i64 u.kind, .int .i64 u.now, .int .i64 u.who, .int .u64 u.key, .string u.body], rB b4 24 (cL c), rS a cc 4 (ps.map rowOf), rS ra rc 5 (acts.map actRow)] else [rB b9 84 (kL (mkC c) (mkR c) (.slice a ps.length cc)), rB b7 87 [.int .i64 v.kind, .int .i64 v.now, .int .i64 v.who, .int .u64 v.key, .string v.body], rB b6 87 [.int .i64 u.kind, .int .i64 u.now, .int .i64 u.who, .int .u64 u.key, .string u.body], rB b4 24 (cL c), rS a cc 4 (ps.map rowOf), rS ra rc 5 (acts.map actRow)])))) (default, default, default) H.out ?_ (steps_al ?_) ?_ ?_
  · intro L1 L2 xx ww hL sg
    have lh8 := hL 8 (by decide)
    have lh12 := hL 12 (by decide)
    have lh13 := hL 13 (by decide)
    simp only [lh8, lh12, lh13] at sg
    exact sg
  · refine al_cons ?_ (al_cons ?_ (al_cons ?_ (al_cons ?_ (al_cons ?_ (al_cons ?_ (al_cons ?_ (al_cons ?_ (al_cons ?_ (al_cons ?_ (al_cons ?_ (al_cons ?_ (al_cons ?_ (al_cons ?_ (al_cons ?_ (al_nil)))))))))))))))
    · intro LL xx ac wc sg hst hwant QQ hgo
      obtain ⟨a19_8, c19_8, b16⟩ := xx
      have H := Lib.hid hst
      simp only [sg.des 8 rfl, sg.des 12 rfl, sg.des 13 rfl, cond_true, cond_false] at H
      refine hpA_load tykeys_Keys H rfl ((sg.free 9 (by kernel_rfl)).trans so9) hwant (by (repeat (first | exact List.Mem.head _ | apply List.Mem.tail))) (by rfl) rfl ?_
      exact hgo _ (a19_8, c19_8, b16) _ (fun _ _ => rfl) rfl hst
    · intro LL xx ac wc sg hst hwant QQ hgo
      obtain ⟨a19_8, c19_8, b16⟩ := xx
      exact op_val hwant hgo hst _ (exec_move rfl ((sg.free 10 (by kernel_rfl)).trans so10)) rfl
    · intro LL xx ac wc sg hst hwant QQ hgo
      obtain ⟨a19_8, c19_8, b16⟩ := xx
      have se7 : ac.eval (.tmp 7) = _ := ((sg.free 7 (by kernel_rfl)).trans so7)
      have sg7 := gt_of se7
      exact op_val hwant hgo hst _ (by simp only [execOp, nth]; go_simp <;> omega) rfl
    · intro LL xx ac wc sg hst hwant QQ hgo
      obtain ⟨a19_8, c19_8, b16⟩ := xx
      have H := Lib.hid hst
      simp only [sg.des 8 rfl, sg.des 12 rfl, sg.des 13 rfl, cond_true, cond_false] at H
      refine hpA_load1 tyint H rfl (sg.slot 2 (sg.anc 2 rfl)) hwant (by (repeat (first | exact List.Mem.head _ | apply List.Mem.tail))) (by rfl) ?_
      exact hgo _ (a19_8, c19_8, b16) _ (fun _ _ => rfl) rfl hst
    · intro LL xx ac wc sg hst hwant QQ hgo
      obtain ⟨a19_8, c19_8, b16⟩ := xx
      have se7 : ac.eval (.tmp 7) = _ := ((sg.free 7 (by kernel_rfl)).trans so7)
      have sg7 := gt_of se7
      exact op_val hwant hgo hst _ (by simp only [execOp, nth]; go_simp <;> omega) rfl
    · intro LL xx ac wc sg hst hwant QQ hgo
      obtain ⟨a19_8, c19_8, b16⟩ := xx
      have H := Lib.hid hst
      simp only [sg.des 8 rfl, sg.des 12 rfl, sg.des 13 rfl, cond_true, cond_false] at H
      refine hpA_load1 tyuint64 H rfl (sg.slot 4 (sg.anc 4 rfl)) hwant (by (repeat (first | exact List.Mem.head _ | apply List.Mem.tail))) (by rfl) ?_
      exact hgo _ (a19_8, c19_8, b16) _ (fun _ _ => rfl) rfl hst
    · intro LL xx ac wc sg hst hwant QQ hgo
      obtain ⟨a19_8, c19_8, b16⟩ := xx
      have se7 : ac.eval (.tmp 7) = _ := ((sg.free 7 (by kernel_rfl)).trans so7)
      have sg7 := gt_of se7
      exact op_val hwant hgo hst _ (by simp only [execOp, nth]; go_simp <;> omega) rfl
    · intro LL xx ac wc sg hst hwant QQ hgo
      obtain ⟨a19_8, c19_8, b16⟩ := xx
      have H := Lib.hid hst
      simp only [sg.des 8 rfl, sg.des 12 rfl, sg.des 13 rfl, cond_true, cond_false] at H
      refine hpA_load1 tystring H rfl (sg.slot 6 (sg.anc 6 rfl)) hwant (by (repeat (first | exact List.Mem.head _ | apply List.Mem.tail))) (by rfl) ?_
      exact hgo _ (a19_8, c19_8, b16) _ (fun _ _ => rfl) rfl hst
    · intro LL xx ac wc sg hst hwant QQ hgo
      obtain ⟨_, _, b16⟩ := xx
      have se116 : ac.eval (.tmp 116) = _ := (sg.slot 0 (sg.anc 0 rfl))
      have sg116 := gt_of se116
      have se117 : ac.eval (.tmp 117) = _ := (sg.slot 1 (sg.anc 1 rfl))
      have sg117 := gt_of se117
      have se119 : ac.eval (.tmp 119) = _ := (sg.slot 3 (sg.anc 3 rfl))
      have sg119 := gt_of se119
      have se121 : ac.eval (.tmp 121) = _ := (sg.slot 5 (sg.anc 5 rfl))
      have sg121 := gt_of se121
      have se123 : ac.eval (.tmp 123) = _ := (sg.slot 7 (sg.anc 7 rfl))
      have sg123 := gt_of se123
      (try simp only [nth] at se116 sg116 se117 sg117 se119 sg119 se121 sg121 se123 sg123)
      have H := Lib.hid hst
      simp only [sg.self, sg.des 12 rfl, sg.des 13 rfl, cond_true, cond_false] at H
      refine op_call hwant hgo 50 _ (by simp only [execOp]; go_simp) (withYes (mkC c) (mkR c) a cc ps now v.who v.key v.body (⟨#[111, 116, 104, 101, 114]⟩ : ByteArray) wc (hp_held H (by (repeat (first | exact List.Mem.head _ | apply List.Mem.tail)))) hv0 hv1 hs (by omega) y6) ?_
      rintro er wd ⟨a19_8, c19_8, rfl, hgv⟩
      have H2 := hp_got H hgv.2.2 hgv.1 (by decide) hgv.2.1 (by simp)
      exact ⟨_, (a19_8, c19_8, b16), rfl, (sg.agree (x' := (a19_8, c19_8, b16)) (n := 15) rfl (by (iterate 15 (refine ix_cons (by first | exact fun _ => rfl | exact no sg.self | exact no (sg.des _ rfl)) ?_)); exact ix_nil)), rfl, (by simp only [(show upd LL 8 8 = true from rfl), (show upd LL 8 12 = LL 12 from rfl), sg.des 12 rfl, (show upd LL 8 13 = LL 13 from rfl), sg.des 13 rfl, cond_true, cond_false]; exact H2.out)⟩
    · intro LL xx ac wc sg hst hwant QQ hgo
      obtain ⟨a19_8, c19_8, b16⟩ := xx
      exact op_val hwant hgo hst _ (exec_move rfl (sg.slot 8 (sg.anc 8 rfl))) rfl
    · intro LL xx ac wc sg hst hwant QQ hgo
      obtain ⟨a19_8, c19_8, b16⟩ := xx
      have se115 : ac.eval (.tmp 115) = _ := (sg.slot 9 (sg.anc 9 rfl))
      have sg115 := gt_of se115
      (try simp only [nth] at se115 sg115)
      exact op_val hwant hgo hst _ (by simp only [execOp, nth]; go_simp <;> omega) rfl
    · intro LL xx ac wc sg hst hwant QQ hgo
      obtain ⟨a19_8, c19_8, b16⟩ := xx
      have se115 : ac.eval (.tmp 115) = _ := (sg.slot 9 (sg.anc 9 rfl))
      have sg115 := gt_of se115
      (try simp only [nth] at se115 sg115)
      exact op_val hwant hgo hst _ (by simp only [execOp, nth]; go_simp <;> omega) rfl
    · intro LL xx ac wc sg hst hwant QQ hgo
      obtain ⟨a19_8, c19_8, _⟩ := xx
      have H := Lib.hid hst
      simp only [sg.anc 8 rfl, sg.self, sg.des 13 rfl, cond_true, cond_false] at H
      refine hpA_alloc tykeys_Keys H rfl rfl ?_
      intro wd b16 H2
      exact hgo _ (a19_8, c19_8, b16) _ (sg.agree (x' := (a19_8, c19_8, b16)) (n := 15) rfl (by (iterate 15 (refine ix_cons (by first | exact fun _ => rfl | exact no sg.self | exact no (sg.des _ rfl)) ?_)); exact ix_nil)) rfl (by simp only [(show upd LL 12 8 = LL 8 from rfl), sg.anc 8 rfl, (show upd LL 12 12 = true from rfl), (show upd LL 12 13 = LL 13 from rfl), sg.des 13 rfl, cond_true, cond_false]; exact H2.out)
    · intro LL xx ac wc sg hst hwant QQ hgo
      obtain ⟨a19_8, c19_8, b16⟩ := xx
      have H := Lib.hid hst
      simp only [sg.anc 8 rfl, sg.anc 12 rfl, sg.self, cond_true, cond_false] at H
      refine hpA_store tykeys_Keys H rfl rfl (sg.slot 12 (sg.anc 12 rfl)) (sg.slot 10 (sg.anc 10 rfl)) rfl (by repeat (first | apply Put.head | apply Put.tail)) (by simp [kA, kL, rkA, rkL, cA, cL]) (by simp [kA, kL, rkA, rkL, cA, cL, Value.oneCell']) (by first | rfl | (simp only [spl]; rfl)) rfl ?_
      intro wd H2
      exact hgo _ (a19_8, c19_8, b16) _ (sg.agree (x' := (a19_8, c19_8, b16)) (n := 15) rfl (by (iterate 15 (refine ix_cons (by first | exact fun _ => rfl | exact no sg.self | exact no (sg.des _ rfl)) ?_)); exact ix_nil)) rfl (by simp only [(show upd LL 13 8 = LL 8 from rfl), sg.anc 8 rfl, (show upd LL 13 12 = LL 12 from rfl), sg.anc 12 rfl, (show upd LL 13 13 = true from rfl), cond_true, cond_false]; exact H2.out)
    · intro LL xx ac wc sg hst hwant QQ hgo
      obtain ⟨a19_8, c19_8, b16⟩ := xx
      exact op_val hwant hgo hst _ (exec_assign rfl (sg.slot 11 (sg.anc 11 rfl))) rfl
  · exact skips [] (by kernel_rfl) (fun _ h => by cases h)
  · intro xx ac1 wz hfr hsl hst
    obtain ⟨a19_8, c19_8, b16⟩ := xx
    exact hfin a19_8 c19_8 b16 ac1 wz (hfr.size.trans hz) hfr.defers (fr_keep hfr [16, 17, 115, 116, 117, 118, 119, 120, 121, 122, 123, 124, 125, 126] (by kernel_rfl)) (hsl 12 (by decide)) (hsl 14 (by decide)) (Lib.hid hst)
set_option maxRecDepth 20000 in
theorem apart_w_r20x1 (c : Cfg) (ra : Option Addr) (rc : Nat) (acts : List ActK) (u : ActK) (v : ActK) (hu0 : 0 ≤ u.key) (hu1 : u.key ≤ 18446744073709551615) (hv0 : 0 ≤ v.key) (hv1 : v.key ≤ 18446744073709551615) (b4 : Nat) (b6 : Nat) (b7 : Nat) (z1d : ¬ (60 < (acts.length : Int))) (b9 : Nat) (i : Nat) (a : Option Addr) (cc : Nat) (ps : List PairV) (now : Int) (hi : i ≤ acts.length) (hl : ps.length ≤ i) (hn0 : 0 ≤ now) (hn1 : now ≤ 2 * i) (z2d : ¬ (i < acts.length)) (z5lrd : ¬ (40 < (u.body.size : Int))) (z5rd : ¬ (40 < (v.body.size : Int))) (a19_8 : Option Addr) (c19_8 : Nat) (b16 : Nat) {wa wb : World} (H : Hid (Hp [] wa wb [rB b16 84 (kL (mkC c) (mkR c) (.slice a19_8 ((withV (mkR c) (nameV v.who v.key) ⟨v.key / 4294967296, v.body, (⟨#[111, 116, 104, 101, 114]⟩ : ByteArray)⟩ (ps.filter (keepB (mkC c) now))).1.length) c19_8)), rS a19_8 c19_8 4 ((withV (mkR c) (nameV v.who v.key) ⟨v.key / 4294967296, v.body, (⟨#[111, 116, 104, 101, 114]⟩ : ByteArray)⟩ (ps.filter (keepB (mkC c) now))).1.map rowOf), rB b9 84 (kL (mkC c) (mkR c) (.slice a ps.length cc)), rB b7 87 [.int .i64 v.kind, .int .i64 v.now, .int .i64 v.who, .int .u64 v.key, .string v.body], rB b6 87 [.int .i64 u.kind, .int .i64 u.now, .int .i64 u.who, .int .u64 u.key, .string u.body], rB b4 24 (cL c), rS a cc 4 (ps.map rowOf), rS ra rc 5 (acts.map actRow)])) (ac0 : Act) (hz : ac0.tmps.size = 157) (so17 : ac0.eval (.tmp 17) = .int .i64 0) {QR : Exit → Act → World → Prop} (hfin : ∀ (ac1 : Act) (wz : World), ac1.tmps.size = 157 → ac1.defers = ac0.defers → (∀ t, ([127, 128] : List Nat).contains t = false → ac1.eval (.tmp t) = ac0.eval (.tmp t)) → ac1.eval (.tmp 128) = .bool false →  Hid (Hp [] wa wz [rB b16 84 (kL (mkC c) (mkR c) (.slice a19_8 ((withV (mkR c) (nameV v.who v.key) ⟨v.key / 4294967296, v.body, (⟨#[111, 116, 104, 101, 114]⟩ : ByteArray)⟩ (ps.filter (keepB (mkC c) now))).1.length) c19_8)), rS a19_8 c19_8 4 ((withV (mkR c) (nameV v.who v.key) ⟨v.key / 4294967296, v.body, (⟨#[111, 116, 104, 101, 114]⟩ : ByteArray)⟩ (ps.filter (keepB (mkC c) now))).1.map rowOf), rB b9 84 (kL (mkC c) (mkR c) (.slice a ps.length cc)), rB b7 87 [.int .i64 v.kind, .int .i64 v.now, .int .i64 v.who, .int .u64 v.key, .string v.body], rB b6 87 [.int .i64 u.kind, .int .i64 u.now, .int .i64 u.who, .int .u64 u.key, .string u.body], rB b4 24 (cL c), rS a cc 4 (ps.map rowOf), rS ra rc 5 (acts.map actRow)]) → QR .normal ac1 wz) : (regAt Try.f11 20).wp Try.prog QR ac0 wb := by
  refine wp_region_sq (by kernel_rfl) 157 hz (by kernel_rfl) (fun (xx : Unit) jx => nth [.int .i64 0, .bool false] jx) (fun (LL : Nat → Bool) (xx : Unit) ww => Hp [] wa ww [rB b16 84 (kL (mkC c) (mkR c) (.slice a19_8 ((withV (mkR c) (nameV v.who v.key) ⟨v.key / 4294967296, v.body, (⟨#[111, 116, 104, 101, 114]⟩ : ByteArray)⟩ (ps.filter (keepB (mkC c) now))).1.length) c19_8)), rS a19_8 c19_8 4 ((withV (mkR c) (nameV v.who v.key) ⟨v.key / 4294967296, v.body, (⟨#[111, 116, 104, 101, 114]⟩ : ByteArray)⟩ (ps.filter (keepB (mkC c) now))).1.map rowOf), rB b9 84 (kL (mkC c) (mkR c) (.slice a ps.length cc)), rB b7 87 [.int .i64 v.kind, .int .i64 v.now, .int .i64 v.who, .int .u64 v.key, .string v.body], rB b6 87 [.int .i64 u.kind, .int .i64 u.now, .int .i64 u.who, .int .u64 u.key, .string u.body], rB b4 24 (cL c), rS a cc 4 (ps.map rowOf), rS ra rc 5 (acts.map actRow)]) () H.out ?_ (steps_al ?_) ?_ ?_
  · exact fun _ _ _ _ _ h => h
  · refine al_cons ?_ (al_cons ?_ (al_nil))
    · intro LL xx ac wc sg hst hwant QQ hgo
      exact op_val hwant hgo hst _ (exec_move rfl ((sg.free 17 (by kernel_rfl)).trans so17)) rfl
    · intro LL xx ac wc sg hst hwant QQ hgo
      have se127 : ac.eval (.tmp 127) = _ := (sg.slot 0 (sg.anc 0 rfl))
      have sg127 := gt_of se127
      (try simp only [nth] at se127 sg127)
      exact op_val hwant hgo hst _ (by simp only [execOp, nth]; go_simp <;> omega) rfl
  · exact skips [] (by kernel_rfl) (fun _ h => by cases h)
  · intro xx ac1 wz hfr hsl hst
    exact hfin ac1 wz (hfr.size.trans hz) hfr.defers (fr_keep hfr [127, 128] (by kernel_rfl)) (hsl 1 (by decide)) (Lib.hid hst)
set_option maxRecDepth 20000 in
theorem apart_w_r22 (c : Cfg) (ra : Option Addr) (rc : Nat) (acts : List ActK) (u : ActK) (v : ActK) (hu0 : 0 ≤ u.key) (hu1 : u.key ≤ 18446744073709551615) (hv0 : 0 ≤ v.key) (hv1 : v.key ≤ 18446744073709551615) (b4 : Nat) (b6 : Nat) (b7 : Nat) (z1d : ¬ (60 < (acts.length : Int))) (b9 : Nat) (i : Nat) (a : Option Addr) (cc : Nat) (ps : List PairV) (now : Int) (hi : i ≤ acts.length) (hl : ps.length ≤ i) (hs : Hid (Sorted ps)) (hn0 : 0 ≤ now) (hn1 : now ≤ 2 * i) (z2d : ¬ (i < acts.length)) (z5lrd : ¬ (40 < (u.body.size : Int))) (z5rd : ¬ (40 < (v.body.size : Int))) (a19_8 : Option Addr) (c19_8 : Nat) (b16 : Nat) {wa wb : World} (H : Hid (Hp [] wa wb [rB b16 84 (kL (mkC c) (mkR c) (.slice a19_8 ((withV (mkR c) (nameV v.who v.key) ⟨v.key / 4294967296, v.body, (⟨#[111, 116, 104, 101, 114]⟩ : ByteArray)⟩ (ps.filter (keepB (mkC c) now))).1.length) c19_8)), rS a19_8 c19_8 4 ((withV (mkR c) (nameV v.who v.key) ⟨v.key / 4294967296, v.body, (⟨#[111, 116, 104, 101, 114]⟩ : ByteArray)⟩ (ps.filter (keepB (mkC c) now))).1.map rowOf), rB b9 84 (kL (mkC c) (mkR c) (.slice a ps.length cc)), rB b7 87 [.int .i64 v.kind, .int .i64 v.now, .int .i64 v.who, .int .u64 v.key, .string v.body], rB b6 87 [.int .i64 u.kind, .int .i64 u.now, .int .i64 u.who, .int .u64 u.key, .string u.body], rB b4 24 (cL c), rS a cc 4 (ps.map rowOf), rS ra rc 5 (acts.map actRow)])) (ac0 : Act) (hz : ac0.tmps.size = 157) (so6 : ac0.eval (.tmp 6) = .pointer (some ⟨b6, 0, none⟩)) (so10 : ac0.eval (.tmp 10) = .int .i64 now) (so16 : ac0.eval (.tmp 16) = .pointer (some ⟨b16, 0, none⟩)) {QR : Exit → Act → World → Prop} (hfin : ∀ (ac1 : Act) (wz : World), ac1.tmps.size = 157 → ac1.defers = ac0.defers → (∀ t, ([18, 19, 129, 130, 131, 132, 133, 134, 135, 136, 137, 138, 139, 140] : List Nat).contains t = false → ac1.eval (.tmp t) = ac0.eval (.tmp t)) → ac1.eval (.tmp 18) = .string ((lookV (mkC c) ((withV (mkR c) (nameV v.who v.key) ⟨v.key / 4294967296, v.body, (⟨#[111, 116, 104, 101, 114]⟩ : ByteArray)⟩ (ps.filter (keepB (mkC c) now))).1) now u.who u.key u.body).1) → ac1.eval (.tmp 19) = .int .i64 ((lookV (mkC c) ((withV (mkR c) (nameV v.who v.key) ⟨v.key / 4294967296, v.body, (⟨#[111, 116, 104, 101, 114]⟩ : ByteArray)⟩ (ps.filter (keepB (mkC c) now))).1) now u.who u.key u.body).2) →  Hid (Hp [] wa wz [rB b16 84 (kL (mkC c) (mkR c) (.slice a19_8 ((withV (mkR c) (nameV v.who v.key) ⟨v.key / 4294967296, v.body, (⟨#[111, 116, 104, 101, 114]⟩ : ByteArray)⟩ (ps.filter (keepB (mkC c) now))).1.length) c19_8)), rS a19_8 c19_8 4 ((withV (mkR c) (nameV v.who v.key) ⟨v.key / 4294967296, v.body, (⟨#[111, 116, 104, 101, 114]⟩ : ByteArray)⟩ (ps.filter (keepB (mkC c) now))).1.map rowOf), rB b9 84 (kL (mkC c) (mkR c) (.slice a ps.length cc)), rB b7 87 [.int .i64 v.kind, .int .i64 v.now, .int .i64 v.who, .int .u64 v.key, .string v.body], rB b6 87 [.int .i64 u.kind, .int .i64 u.now, .int .i64 u.who, .int .u64 u.key, .string u.body], rB b4 24 (cL c), rS a cc 4 (ps.map rowOf), rS ra rc 5 (acts.map actRow)]) → QR .normal ac1 wz) : (regAt Try.f11 22).wp Try.prog QR ac0 wb := by
  refine wp_region_sq (by kernel_rfl) 157 hz (by kernel_rfl) (fun (xx : Unit) jx => nth [.agg (kA (mkC c) (mkR c) (.slice a19_8 ((withV (mkR c) (nameV v.who v.key) ⟨v.key / 4294967296, v.body, (⟨#[111, 116, 104, 101, 114]⟩ : ByteArray)⟩ (ps.filter (keepB (mkC c) now))).1.length) c19_8)), .int .i64 now, .pointer (some ⟨b6, 2, none⟩), .int .i64 u.who, .pointer (some ⟨b6, 3, none⟩), .int .u64 u.key, .pointer (some ⟨b6, 4, none⟩), .string u.body, .tuple #[.string ((lookV (mkC c) ((withV (mkR c) (nameV v.who v.key) ⟨v.key / 4294967296, v.body, (⟨#[111, 116, 104, 101, 114]⟩ : ByteArray)⟩ (ps.filter (keepB (mkC c) now))).1) now u.who u.key u.body).1), .int .i64 ((lookV (mkC c) ((withV (mkR c) (nameV v.who v.key) ⟨v.key / 4294967296, v.body, (⟨#[111, 116, 104, 101, 114]⟩ : ByteArray)⟩ (ps.filter (keepB (mkC c) now))).1) now u.who u.key u.body).2)], .tuple #[.string ((lookV (mkC c) ((withV (mkR c) (nameV v.who v.key) ⟨v.key / 4294967296, v.body, (⟨#[111, 116, 104, 101, 114]⟩ : ByteArray)⟩ (ps.filter (keepB (mkC c) now))).1) now u.who u.key u.body).1), .int .i64 ((lookV (mkC c) ((withV (mkR c) (nameV v.who v.key) ⟨v.key / 4294967296, v.body, (⟨#[111, 116, 104, 101, 114]⟩ : ByteArray)⟩ (ps.filter (keepB (mkC c) now))).1) now u.who u.key u.body).2)], .string ((lookV (mkC c) ((withV (mkR c) (nameV v.who v.key) ⟨v.key / 4294967296, v.body, (⟨#[111, 116, 104, 101, 114]⟩ : ByteArray)⟩ (ps.filter (keepB (mkC c) now))).1) now u.who u.key u.body).1), .int .i64 ((lookV (mkC c) ((withV (mkR c) (nameV v.who v.key) ⟨v.key / 4294967296, v.body, (⟨#[111, 116, 104, 101, 114]⟩ : ByteArray)⟩ (ps.filter (keepB (mkC c) now))).1) now u.who u.key u.body).2), .string ((lookV (mkC c) ((withV (mkR c) (nameV v.who v.key) ⟨v.key / 4294967296, v.body, (⟨#[111, 116, 104, 101, 114]⟩ : ByteArray)⟩ (ps.filter (keepB (mkC c) now))).1) now u.who u.key u.body).1), .int .i64 ((lookV (mkC c) ((withV (mkR c) (nameV v.who v.key) ⟨v.key / 4294967296, v.body, (⟨#[111, 116, 104, 101, 114]⟩ : ByteArray)⟩ (ps.filter (keepB (mkC c) now))).1) now u.who u.key u.body).2)] jx) (fun (LL : Nat → Bool) (xx : Unit) ww => Hp [] wa ww [rB b16 84 (kL (mkC c) (mkR c) (.slice a19_8 ((withV (mkR c) (nameV v.who v.key) ⟨v.key / 4294967296, v.body, (⟨#[111, 116, 104, 101, 114]⟩ : ByteArray)⟩ (ps.filter (keepB (mkC c) now))).1.length) c19_8)), rS a19_8 c19_8 4 ((withV (mkR c) (nameV v.who v.key) ⟨v.key / 4294967296, v.body, (⟨#[111, 116, 104, 101, 114]⟩ : ByteArray)⟩ (ps.filter (keepB (mkC c) now))).1.map rowOf), rB b9 84 (kL (mkC c) (mkR c) (.slice a ps.length cc)), rB b7 87 [.int .i64 v.kind, .int .i64 v.now, .int .i64 v.who, .int .u64 v.key, .string v.body], rB b6 87 [.int .i64 u.kind, .int .i64 u.now, .int .i64 u.who, .int .u64 u.key, .string u.body], rB b4 24 (cL c), rS a cc 4 (ps.map rowOf), rS ra rc 5 (acts.map actRow)]) () H.out ?_ (steps_al ?_) ?_ ?_
  · exact fun _ _ _ _ _ h => h
  · refine al_cons ?_ (al_cons ?_ (al_cons ?_ (al_cons ?_ (al_cons ?_ (al_cons ?_ (al_cons ?_ (al_cons ?_ (al_cons ?_ (al_cons ?_ (al_cons ?_ (al_cons ?_ (al_cons ?_ (al_cons ?_ (al_nil))))))))))))))
    · intro LL xx ac wc sg hst hwant QQ hgo
      have H := Lib.hid hst
      refine hpA_load tykeys_Keys H rfl ((sg.free 16 (by kernel_rfl)).trans so16) hwant (by (repeat (first | exact List.Mem.head _ | apply List.Mem.tail))) (by rfl) rfl ?_
      exact hgo _ () _ (fun _ _ => rfl) rfl hst
    · intro LL xx ac wc sg hst hwant QQ hgo
      exact op_val hwant hgo hst _ (exec_move rfl ((sg.free 10 (by kernel_rfl)).trans so10)) rfl
    · intro LL xx ac wc sg hst hwant QQ hgo
      have se6 : ac.eval (.tmp 6) = _ := ((sg.free 6 (by kernel_rfl)).trans so6)
      have sg6 := gt_of se6
      exact op_val hwant hgo hst _ (by simp only [execOp, nth]; go_simp <;> omega) rfl
    · intro LL xx ac wc sg hst hwant QQ hgo
      have H := Lib.hid hst
      refine hpA_load1 tyint H rfl (sg.slot 2 (sg.anc 2 rfl)) hwant (by (repeat (first | exact List.Mem.head _ | apply List.Mem.tail))) (by rfl) ?_
      exact hgo _ () _ (fun _ _ => rfl) rfl hst
    · intro LL xx ac wc sg hst hwant QQ hgo
      have se6 : ac.eval (.tmp 6) = _ := ((sg.free 6 (by kernel_rfl)).trans so6)
      have sg6 := gt_of se6
      exact op_val hwant hgo hst _ (by simp only [execOp, nth]; go_simp <;> omega) rfl
    · intro LL xx ac wc sg hst hwant QQ hgo
      have H := Lib.hid hst
      refine hpA_load1 tyuint64 H rfl (sg.slot 4 (sg.anc 4 rfl)) hwant (by (repeat (first | exact List.Mem.head _ | apply List.Mem.tail))) (by rfl) ?_
      exact hgo _ () _ (fun _ _ => rfl) rfl hst
    · intro LL xx ac wc sg hst hwant QQ hgo
      have se6 : ac.eval (.tmp 6) = _ := ((sg.free 6 (by kernel_rfl)).trans so6)
      have sg6 := gt_of se6
      exact op_val hwant hgo hst _ (by simp only [execOp, nth]; go_simp <;> omega) rfl
    · intro LL xx ac wc sg hst hwant QQ hgo
      have H := Lib.hid hst
      refine hpA_load1 tystring H rfl (sg.slot 6 (sg.anc 6 rfl)) hwant (by (repeat (first | exact List.Mem.head _ | apply List.Mem.tail))) (by rfl) ?_
      exact hgo _ () _ (fun _ _ => rfl) rfl hst
    · intro LL xx ac wc sg hst hwant QQ hgo
      have se130 : ac.eval (.tmp 130) = _ := (sg.slot 0 (sg.anc 0 rfl))
      have sg130 := gt_of se130
      have se131 : ac.eval (.tmp 131) = _ := (sg.slot 1 (sg.anc 1 rfl))
      have sg131 := gt_of se131
      have se133 : ac.eval (.tmp 133) = _ := (sg.slot 3 (sg.anc 3 rfl))
      have sg133 := gt_of se133
      have se135 : ac.eval (.tmp 135) = _ := (sg.slot 5 (sg.anc 5 rfl))
      have sg135 := gt_of se135
      have se137 : ac.eval (.tmp 137) = _ := (sg.slot 7 (sg.anc 7 rfl))
      have sg137 := gt_of se137
      (try simp only [nth] at se130 sg130 se131 sg131 se133 sg133 se135 sg135 se137 sg137)
      have H := Lib.hid hst
      refine op_call hwant hgo 48 _ (by simp only [execOp]; go_simp) (lookC (mkC c) (mkR c) a19_8 c19_8 ((withV (mkR c) (nameV v.who v.key) ⟨v.key / 4294967296, v.body, (⟨#[111, 116, 104, 101, 114]⟩ : ByteArray)⟩ (ps.filter (keepB (mkC c) now))).1) now u.who u.key u.body wc (hp_held H (by (repeat (first | exact List.Mem.head _ | apply List.Mem.tail)))) hu0 hu1 (sorted_add hs _ _ _ _ _) (by have := few_add (c := mkC c) (room := mkR c) hl now v.who v.key v.body (⟨#[111, 116, 104, 101, 114]⟩ : ByteArray); omega)) ?_
      rintro er wd ⟨rfl, hof⟩
      exact ⟨_, (), rfl, fun _ _ => rfl, rfl, Hp.quiet hst hof⟩
    · intro LL xx ac wc sg hst hwant QQ hgo
      exact op_val hwant hgo hst _ (exec_move rfl (sg.slot 8 (sg.anc 8 rfl))) rfl
    · intro LL xx ac wc sg hst hwant QQ hgo
      have se129 : ac.eval (.tmp 129) = _ := (sg.slot 9 (sg.anc 9 rfl))
      have sg129 := gt_of se129
      (try simp only [nth] at se129 sg129)
      exact op_val hwant hgo hst _ (by simp only [execOp, nth]; go_simp <;> omega) rfl
    · intro LL xx ac wc sg hst hwant QQ hgo
      have se129 : ac.eval (.tmp 129) = _ := (sg.slot 9 (sg.anc 9 rfl))
      have sg129 := gt_of se129
      (try simp only [nth] at se129 sg129)
      exact op_val hwant hgo hst _ (by simp only [execOp, nth]; go_simp <;> omega) rfl
    · intro LL xx ac wc sg hst hwant QQ hgo
      exact op_val hwant hgo hst _ (exec_assign rfl (sg.slot 10 (sg.anc 10 rfl))) rfl
    · intro LL xx ac wc sg hst hwant QQ hgo
      exact op_val hwant hgo hst _ (exec_assign rfl (sg.slot 11 (sg.anc 11 rfl))) rfl
  · exact skips [] (by kernel_rfl) (fun _ h => by cases h)
  · intro xx ac1 wz hfr hsl hst
    exact hfin ac1 wz (hfr.size.trans hz) hfr.defers (fr_keep hfr [18, 19, 129, 130, 131, 132, 133, 134, 135, 136, 137, 138, 139, 140] (by kernel_rfl)) (hsl 12 (by decide)) (hsl 13 (by decide)) (Lib.hid hst)
set_option maxRecDepth 20000 in
theorem apart_w_r23 (c : Cfg) (ra : Option Addr) (rc : Nat) (acts : List ActK) (u : ActK) (v : ActK) (hu0 : 0 ≤ u.key) (hu1 : u.key ≤ 18446744073709551615) (hv0 : 0 ≤ v.key) (hv1 : v.key ≤ 18446744073709551615) (b4 : Nat) (b6 : Nat) (b7 : Nat) (z1d : ¬ (60 < (acts.length : Int))) (b9 : Nat) (i : Nat) (a : Option Addr) (cc : Nat) (ps : List PairV) (now : Int) (hi : i ≤ acts.length) (hl : ps.length ≤ i) (hn0 : 0 ≤ now) (hn1 : now ≤ 2 * i) (z2d : ¬ (i < acts.length)) (z5lrd : ¬ (40 < (u.body.size : Int))) (z5rd : ¬ (40 < (v.body.size : Int))) (a19_8 : Option Addr) (c19_8 : Nat) (b16 : Nat) {wa wb : World} (H : Hid (Hp [] wa wb [rB b16 84 (kL (mkC c) (mkR c) (.slice a19_8 ((withV (mkR c) (nameV v.who v.key) ⟨v.key / 4294967296, v.body, (⟨#[111, 116, 104, 101, 114]⟩ : ByteArray)⟩ (ps.filter (keepB (mkC c) now))).1.length) c19_8)), rS a19_8 c19_8 4 ((withV (mkR c) (nameV v.who v.key) ⟨v.key / 4294967296, v.body, (⟨#[111, 116, 104, 101, 114]⟩ : ByteArray)⟩ (ps.filter (keepB (mkC c) now))).1.map rowOf), rB b9 84 (kL (mkC c) (mkR c) (.slice a ps.length cc)), rB b7 87 [.int .i64 v.kind, .int .i64 v.now, .int .i64 v.who, .int .u64 v.key, .string v.body], rB b6 87 [.int .i64 u.kind, .int .i64 u.now, .int .i64 u.who, .int .u64 u.key, .string u.body], rB b4 24 (cL c), rS a cc 4 (ps.map rowOf), rS ra rc 5 (acts.map actRow)])) (ac0 : Act) (hz : ac0.tmps.size = 157) (so14 : ac0.eval (.tmp 14) = .string ((lookV (mkC c) ps now u.who u.key u.body).1)) (so15 : ac0.eval (.tmp 15) = .int .i64 ((lookV (mkC c) ps now u.who u.key u.body).2)) (so18 : ac0.eval (.tmp 18) = .string ((lookV (mkC c) ((withV (mkR c) (nameV v.who v.key) ⟨v.key / 4294967296, v.body, (⟨#[111, 116, 104, 101, 114]⟩ : ByteArray)⟩ (ps.filter (keepB (mkC c) now))).1) now u.who u.key u.body).1)) (so19 : ac0.eval (.tmp 19) = .int .i64 ((lookV (mkC c) ((withV (mkR c) (nameV v.who v.key) ⟨v.key / 4294967296, v.body, (⟨#[111, 116, 104, 101, 114]⟩ : ByteArray)⟩ (ps.filter (keepB (mkC c) now))).1) now u.who u.key u.body).2)) {QR : Exit → Act → World → Prop} (hfin : ∀ (ac1 : Act) (wz : World), ac1.tmps.size = 157 → ac1.defers = ac0.defers → (∀ t, ([8, 141, 142, 143, 144, 145, 146, 147, 148, 149, 150, 151, 152, 153, 154, 155, 156] : List Nat).contains t = false → ac1.eval (.tmp t) = ac0.eval (.tmp t)) → ac1.eval (.tmp 8) = .bool ((((lookV (mkC c) ps now u.who u.key u.body).1).toList == ((lookV (mkC c) ((withV (mkR c) (nameV v.who v.key) ⟨v.key / 4294967296, v.body, (⟨#[111, 116, 104, 101, 114]⟩ : ByteArray)⟩ (ps.filter (keepB (mkC c) now))).1) now u.who u.key u.body).1).toList) && ((((lookV (mkC c) ps now u.who u.key u.body).2) == ((lookV (mkC c) ((withV (mkR c) (nameV v.who v.key) ⟨v.key / 4294967296, v.body, (⟨#[111, 116, 104, 101, 114]⟩ : ByteArray)⟩ (ps.filter (keepB (mkC c) now))).1) now u.who u.key u.body).2)) || ((((lookV (mkC c) ps now u.who u.key u.body).2) == 1) && (((lookV (mkC c) ((withV (mkR c) (nameV v.who v.key) ⟨v.key / 4294967296, v.body, (⟨#[111, 116, 104, 101, 114]⟩ : ByteArray)⟩ (ps.filter (keepB (mkC c) now))).1) now u.who u.key u.body).2) == 5)))) →  Hid (Hp [] wa wz [rB b16 84 (kL (mkC c) (mkR c) (.slice a19_8 ((withV (mkR c) (nameV v.who v.key) ⟨v.key / 4294967296, v.body, (⟨#[111, 116, 104, 101, 114]⟩ : ByteArray)⟩ (ps.filter (keepB (mkC c) now))).1.length) c19_8)), rS a19_8 c19_8 4 ((withV (mkR c) (nameV v.who v.key) ⟨v.key / 4294967296, v.body, (⟨#[111, 116, 104, 101, 114]⟩ : ByteArray)⟩ (ps.filter (keepB (mkC c) now))).1.map rowOf), rB b9 84 (kL (mkC c) (mkR c) (.slice a ps.length cc)), rB b7 87 [.int .i64 v.kind, .int .i64 v.now, .int .i64 v.who, .int .u64 v.key, .string v.body], rB b6 87 [.int .i64 u.kind, .int .i64 u.now, .int .i64 u.who, .int .u64 u.key, .string u.body], rB b4 24 (cL c), rS a cc 4 (ps.map rowOf), rS ra rc 5 (acts.map actRow)]) → QR .normal ac1 wz) : (regAt Try.f11 23).wp Try.prog QR ac0 wb := by
  refine wp_region_sq (by kernel_rfl) 157 hz (by kernel_rfl) (fun (xx : Unit) jx => nth [.string ((lookV (mkC c) ps now u.who u.key u.body).1), .string ((lookV (mkC c) ((withV (mkR c) (nameV v.who v.key) ⟨v.key / 4294967296, v.body, (⟨#[111, 116, 104, 101, 114]⟩ : ByteArray)⟩ (ps.filter (keepB (mkC c) now))).1) now u.who u.key u.body).1), .bool (((lookV (mkC c) ps now u.who u.key u.body).1).toList == ((lookV (mkC c) ((withV (mkR c) (nameV v.who v.key) ⟨v.key / 4294967296, v.body, (⟨#[111, 116, 104, 101, 114]⟩ : ByteArray)⟩ (ps.filter (keepB (mkC c) now))).1) now u.who u.key u.body).1).toList), .bool (((lookV (mkC c) ps now u.who u.key u.body).1).toList == ((lookV (mkC c) ((withV (mkR c) (nameV v.who v.key) ⟨v.key / 4294967296, v.body, (⟨#[111, 116, 104, 101, 114]⟩ : ByteArray)⟩ (ps.filter (keepB (mkC c) now))).1) now u.who u.key u.body).1).toList), bif (((lookV (mkC c) ps now u.who u.key u.body).1).toList == ((lookV (mkC c) ((withV (mkR c) (nameV v.who v.key) ⟨v.key / 4294967296, v.body, (⟨#[111, 116, 104, 101, 114]⟩ : ByteArray)⟩ (ps.filter (keepB (mkC c) now))).1) now u.who u.key u.body).1).toList) then .int .i64 ((lookV (mkC c) ps now u.who u.key u.body).2) else undef, bif (((lookV (mkC c) ps now u.who u.key u.body).1).toList == ((lookV (mkC c) ((withV (mkR c) (nameV v.who v.key) ⟨v.key / 4294967296, v.body, (⟨#[111, 116, 104, 101, 114]⟩ : ByteArray)⟩ (ps.filter (keepB (mkC c) now))).1) now u.who u.key u.body).1).toList) then .int .i64 ((lookV (mkC c) ((withV (mkR c) (nameV v.who v.key) ⟨v.key / 4294967296, v.body, (⟨#[111, 116, 104, 101, 114]⟩ : ByteArray)⟩ (ps.filter (keepB (mkC c) now))).1) now u.who u.key u.body).2) else undef, bif (((lookV (mkC c) ps now u.who u.key u.body).1).toList == ((lookV (mkC c) ((withV (mkR c) (nameV v.who v.key) ⟨v.key / 4294967296, v.body, (⟨#[111, 116, 104, 101, 114]⟩ : ByteArray)⟩ (ps.filter (keepB (mkC c) now))).1) now u.who u.key u.body).1).toList) then .bool (((lookV (mkC c) ps now u.who u.key u.body).2) == ((lookV (mkC c) ((withV (mkR c) (nameV v.who v.key) ⟨v.key / 4294967296, v.body, (⟨#[111, 116, 104, 101, 114]⟩ : ByteArray)⟩ (ps.filter (keepB (mkC c) now))).1) now u.who u.key u.body).2)) else undef, bif (((lookV (mkC c) ps now u.who u.key u.body).1).toList == ((lookV (mkC c) ((withV (mkR c) (nameV v.who v.key) ⟨v.key / 4294967296, v.body, (⟨#[111, 116, 104, 101, 114]⟩ : ByteArray)⟩ (ps.filter (keepB (mkC c) now))).1) now u.who u.key u.body).1).toList) then .bool (((lookV (mkC c) ps now u.who u.key u.body).2) == ((lookV (mkC c) ((withV (mkR c) (nameV v.who v.key) ⟨v.key / 4294967296, v.body, (⟨#[111, 116, 104, 101, 114]⟩ : ByteArray)⟩ (ps.filter (keepB (mkC c) now))).1) now u.who u.key u.body).2)) else undef, bif ((((lookV (mkC c) ps now u.who u.key u.body).1).toList == ((lookV (mkC c) ((withV (mkR c) (nameV v.who v.key) ⟨v.key / 4294967296, v.body, (⟨#[111, 116, 104, 101, 114]⟩ : ByteArray)⟩ (ps.filter (keepB (mkC c) now))).1) now u.who u.key u.body).1).toList) && !(((lookV (mkC c) ps now u.who u.key u.body).2) == ((lookV (mkC c) ((withV (mkR c) (nameV v.who v.key) ⟨v.key / 4294967296, v.body, (⟨#[111, 116, 104, 101, 114]⟩ : ByteArray)⟩ (ps.filter (keepB (mkC c) now))).1) now u.who u.key u.body).2))) then .int .i64 ((lookV (mkC c) ps now u.who u.key u.body).2) else undef, bif ((((lookV (mkC c) ps now u.who u.key u.body).1).toList == ((lookV (mkC c) ((withV (mkR c) (nameV v.who v.key) ⟨v.key / 4294967296, v.body, (⟨#[111, 116, 104, 101, 114]⟩ : ByteArray)⟩ (ps.filter (keepB (mkC c) now))).1) now u.who u.key u.body).1).toList) && !(((lookV (mkC c) ps now u.who u.key u.body).2) == ((lookV (mkC c) ((withV (mkR c) (nameV v.who v.key) ⟨v.key / 4294967296, v.body, (⟨#[111, 116, 104, 101, 114]⟩ : ByteArray)⟩ (ps.filter (keepB (mkC c) now))).1) now u.who u.key u.body).2))) then .bool (((lookV (mkC c) ps now u.who u.key u.body).2) == 1) else undef, bif ((((lookV (mkC c) ps now u.who u.key u.body).1).toList == ((lookV (mkC c) ((withV (mkR c) (nameV v.who v.key) ⟨v.key / 4294967296, v.body, (⟨#[111, 116, 104, 101, 114]⟩ : ByteArray)⟩ (ps.filter (keepB (mkC c) now))).1) now u.who u.key u.body).1).toList) && !(((lookV (mkC c) ps now u.who u.key u.body).2) == ((lookV (mkC c) ((withV (mkR c) (nameV v.who v.key) ⟨v.key / 4294967296, v.body, (⟨#[111, 116, 104, 101, 114]⟩ : ByteArray)⟩ (ps.filter (keepB (mkC c) now))).1) now u.who u.key u.body).2))) then .bool (((lookV (mkC c) ps now u.who u.key u.body).2) == 1) else undef, bif (((((lookV (mkC c) ps now u.who u.key u.body).1).toList == ((lookV (mkC c) ((withV (mkR c) (nameV v.who v.key) ⟨v.key / 4294967296, v.body, (⟨#[111, 116, 104, 101, 114]⟩ : ByteArray)⟩ (ps.filter (keepB (mkC c) now))).1) now u.who u.key u.body).1).toList) && !(((lookV (mkC c) ps now u.who u.key u.body).2) == ((lookV (mkC c) ((withV (mkR c) (nameV v.who v.key) ⟨v.key / 4294967296, v.body, (⟨#[111, 116, 104, 101, 114]⟩ : ByteArray)⟩ (ps.filter (keepB (mkC c) now))).1) now u.who u.key u.body).2))) && (((lookV (mkC c) ps now u.who u.key u.body).2) == 1)) then .int .i64 ((lookV (mkC c) ((withV (mkR c) (nameV v.who v.key) ⟨v.key / 4294967296, v.body, (⟨#[111, 116, 104, 101, 114]⟩ : ByteArray)⟩ (ps.filter (keepB (mkC c) now))).1) now u.who u.key u.body).2) else undef, bif (((((lookV (mkC c) ps now u.who u.key u.body).1).toList == ((lookV (mkC c) ((withV (mkR c) (nameV v.who v.key) ⟨v.key / 4294967296, v.body, (⟨#[111, 116, 104, 101, 114]⟩ : ByteArray)⟩ (ps.filter (keepB (mkC c) now))).1) now u.who u.key u.body).1).toList) && !(((lookV (mkC c) ps now u.who u.key u.body).2) == ((lookV (mkC c) ((withV (mkR c) (nameV v.who v.key) ⟨v.key / 4294967296, v.body, (⟨#[111, 116, 104, 101, 114]⟩ : ByteArray)⟩ (ps.filter (keepB (mkC c) now))).1) now u.who u.key u.body).2))) && (((lookV (mkC c) ps now u.who u.key u.body).2) == 1)) then .bool (((lookV (mkC c) ((withV (mkR c) (nameV v.who v.key) ⟨v.key / 4294967296, v.body, (⟨#[111, 116, 104, 101, 114]⟩ : ByteArray)⟩ (ps.filter (keepB (mkC c) now))).1) now u.who u.key u.body).2) == 5) else undef, bif ((((lookV (mkC c) ps now u.who u.key u.body).1).toList == ((lookV (mkC c) ((withV (mkR c) (nameV v.who v.key) ⟨v.key / 4294967296, v.body, (⟨#[111, 116, 104, 101, 114]⟩ : ByteArray)⟩ (ps.filter (keepB (mkC c) now))).1) now u.who u.key u.body).1).toList) && !(((lookV (mkC c) ps now u.who u.key u.body).2) == ((lookV (mkC c) ((withV (mkR c) (nameV v.who v.key) ⟨v.key / 4294967296, v.body, (⟨#[111, 116, 104, 101, 114]⟩ : ByteArray)⟩ (ps.filter (keepB (mkC c) now))).1) now u.who u.key u.body).2))) then .bool ((((lookV (mkC c) ps now u.who u.key u.body).2) == 1) && (((lookV (mkC c) ((withV (mkR c) (nameV v.who v.key) ⟨v.key / 4294967296, v.body, (⟨#[111, 116, 104, 101, 114]⟩ : ByteArray)⟩ (ps.filter (keepB (mkC c) now))).1) now u.who u.key u.body).2) == 5)) else undef, bif (((lookV (mkC c) ps now u.who u.key u.body).1).toList == ((lookV (mkC c) ((withV (mkR c) (nameV v.who v.key) ⟨v.key / 4294967296, v.body, (⟨#[111, 116, 104, 101, 114]⟩ : ByteArray)⟩ (ps.filter (keepB (mkC c) now))).1) now u.who u.key u.body).1).toList) then .bool ((((lookV (mkC c) ps now u.who u.key u.body).2) == ((lookV (mkC c) ((withV (mkR c) (nameV v.who v.key) ⟨v.key / 4294967296, v.body, (⟨#[111, 116, 104, 101, 114]⟩ : ByteArray)⟩ (ps.filter (keepB (mkC c) now))).1) now u.who u.key u.body).2)) || ((((lookV (mkC c) ps now u.who u.key u.body).2) == 1) && (((lookV (mkC c) ((withV (mkR c) (nameV v.who v.key) ⟨v.key / 4294967296, v.body, (⟨#[111, 116, 104, 101, 114]⟩ : ByteArray)⟩ (ps.filter (keepB (mkC c) now))).1) now u.who u.key u.body).2) == 5))) else undef, .bool ((((lookV (mkC c) ps now u.who u.key u.body).1).toList == ((lookV (mkC c) ((withV (mkR c) (nameV v.who v.key) ⟨v.key / 4294967296, v.body, (⟨#[111, 116, 104, 101, 114]⟩ : ByteArray)⟩ (ps.filter (keepB (mkC c) now))).1) now u.who u.key u.body).1).toList) && ((((lookV (mkC c) ps now u.who u.key u.body).2) == ((lookV (mkC c) ((withV (mkR c) (nameV v.who v.key) ⟨v.key / 4294967296, v.body, (⟨#[111, 116, 104, 101, 114]⟩ : ByteArray)⟩ (ps.filter (keepB (mkC c) now))).1) now u.who u.key u.body).2)) || ((((lookV (mkC c) ps now u.who u.key u.body).2) == 1) && (((lookV (mkC c) ((withV (mkR c) (nameV v.who v.key) ⟨v.key / 4294967296, v.body, (⟨#[111, 116, 104, 101, 114]⟩ : ByteArray)⟩ (ps.filter (keepB (mkC c) now))).1) now u.who u.key u.body).2) == 5)))), .bool ((((lookV (mkC c) ps now u.who u.key u.body).1).toList == ((lookV (mkC c) ((withV (mkR c) (nameV v.who v.key) ⟨v.key / 4294967296, v.body, (⟨#[111, 116, 104, 101, 114]⟩ : ByteArray)⟩ (ps.filter (keepB (mkC c) now))).1) now u.who u.key u.body).1).toList) && ((((lookV (mkC c) ps now u.who u.key u.body).2) == ((lookV (mkC c) ((withV (mkR c) (nameV v.who v.key) ⟨v.key / 4294967296, v.body, (⟨#[111, 116, 104, 101, 114]⟩ : ByteArray)⟩ (ps.filter (keepB (mkC c) now))).1) now u.who u.key u.body).2)) || ((((lookV (mkC c) ps now u.who u.key u.body).2) == 1) && (((lookV (mkC c) ((withV (mkR c) (nameV v.who v.key) ⟨v.key / 4294967296, v.body, (⟨#[111, 116, 104, 101, 114]⟩ : ByteArray)⟩ (ps.filter (keepB (mkC c) now))).1) now u.who u.key u.body).2) == 5))))] jx) (fun (LL : Nat → Bool) (xx : Unit) ww => Hp [] wa ww [rB b16 84 (kL (mkC c) (mkR c) (.slice a19_8 ((withV (mkR c) (nameV v.who v.key) ⟨v.key / 4294967296, v.body, (⟨#[111, 116, 104, 101, 114]⟩ : ByteArray)⟩ (ps.filter (keepB (mkC c) now))).1.length) c19_8)), rS a19_8 c19_8 4 ((withV (mkR c) (nameV v.who v.key) ⟨v.key / 4294967296, v.body, (⟨#[111, 116, 104, 101, 114]⟩ : ByteArray)⟩ (ps.filter (keepB (mkC c) now))).1.map rowOf), rB b9 84 (kL (mkC c) (mkR c) (.slice a ps.length cc)), rB b7 87 [.int .i64 v.kind, .int .i64 v.now, .int .i64 v.who, .int .u64 v.key, .string v.body], rB b6 87 [.int .i64 u.kind, .int .i64 u.now, .int .i64 u.who, .int .u64 u.key, .string u.body], rB b4 24 (cL c), rS a cc 4 (ps.map rowOf), rS ra rc 5 (acts.map actRow)]) () H.out ?_ (steps_al ?_) ?_ ?_
  · exact fun _ _ _ _ _ h => h
  · refine al_cons ?_ (al_cons ?_ (al_cons ?_ (al_cons ?_ (al_cons ?_ (al_cons ?_ (al_cons ?_ (al_cons ?_ (al_cons ?_ (al_cons ?_ (al_cons ?_ (al_cons ?_ (al_cons ?_ (al_cons ?_ (al_cons ?_ (al_cons ?_ (al_cons ?_ (al_nil)))))))))))))))))
    · intro LL xx ac wc sg hst hwant QQ hgo
      exact op_val hwant hgo hst _ (exec_move rfl ((sg.free 14 (by kernel_rfl)).trans so14)) rfl
    · intro LL xx ac wc sg hst hwant QQ hgo
      exact op_val hwant hgo hst _ (exec_move rfl ((sg.free 18 (by kernel_rfl)).trans so18)) rfl
    · intro LL xx ac wc sg hst hwant QQ hgo
      have se141 : ac.eval (.tmp 141) = _ := (sg.slot 0 (sg.anc 0 rfl))
      have sg141 := gt_of se141
      have se142 : ac.eval (.tmp 142) = _ := (sg.slot 1 (sg.anc 1 rfl))
      have sg142 := gt_of se142
      (try simp only [nth] at se141 sg141 se142 sg142)
      exact op_val hwant hgo hst _ (by simp only [execOp, nth]; go_simp <;> omega) rfl
    · intro LL xx ac wc sg hst hwant QQ hgo
      exact op_val hwant hgo hst _ (exec_move rfl (sg.slot 2 (sg.anc 2 rfl))) rfl
    · intro LL xx ac wc sg hst hwant QQ hgo
      have hG : (((lookV (mkC c) ps now u.who u.key u.body).1).toList == ((lookV (mkC c) ((withV (mkR c) (nameV v.who v.key) ⟨v.key / 4294967296, v.body, (⟨#[111, 116, 104, 101, 114]⟩ : ByteArray)⟩ (ps.filter (keepB (mkC c) now))).1) now u.who u.key u.body).1).toList) = true := (want_t rfl rfl (sg.slot 3 (sg.anc 3 rfl))).symm.trans hwant
      exact op_val hwant hgo hst _ (exec_move rfl ((sg.free 15 (by kernel_rfl)).trans so15)) (cI hG)
    · intro LL xx ac wc sg hst hwant QQ hgo
      have hG : (((lookV (mkC c) ps now u.who u.key u.body).1).toList == ((lookV (mkC c) ((withV (mkR c) (nameV v.who v.key) ⟨v.key / 4294967296, v.body, (⟨#[111, 116, 104, 101, 114]⟩ : ByteArray)⟩ (ps.filter (keepB (mkC c) now))).1) now u.who u.key u.body).1).toList) = true := (want_t rfl rfl (sg.slot 3 (sg.anc 3 rfl))).symm.trans hwant
      exact op_val hwant hgo hst _ (exec_move rfl ((sg.free 19 (by kernel_rfl)).trans so19)) (cI hG)
    · intro LL xx ac wc sg hst hwant QQ hgo
      have hG : (((lookV (mkC c) ps now u.who u.key u.body).1).toList == ((lookV (mkC c) ((withV (mkR c) (nameV v.who v.key) ⟨v.key / 4294967296, v.body, (⟨#[111, 116, 104, 101, 114]⟩ : ByteArray)⟩ (ps.filter (keepB (mkC c) now))).1) now u.who u.key u.body).1).toList) = true := (want_t rfl rfl (sg.slot 3 (sg.anc 3 rfl))).symm.trans hwant
      have se145 : ac.eval (.tmp 145) = _ := (cT (sg.slot 4 (sg.anc 4 rfl)) hG)
      have sg145 := gt_of se145
      have se146 : ac.eval (.tmp 146) = _ := (cT (sg.slot 5 (sg.anc 5 rfl)) hG)
      have sg146 := gt_of se146
      (try simp only [nth] at se145 sg145 se146 sg146)
      exact op_val hwant hgo hst _ (by simp only [execOp, nth]; go_simp <;> omega) (cI hG)
    · intro LL xx ac wc sg hst hwant QQ hgo
      have hG : (((lookV (mkC c) ps now u.who u.key u.body).1).toList == ((lookV (mkC c) ((withV (mkR c) (nameV v.who v.key) ⟨v.key / 4294967296, v.body, (⟨#[111, 116, 104, 101, 114]⟩ : ByteArray)⟩ (ps.filter (keepB (mkC c) now))).1) now u.who u.key u.body).1).toList) = true := (want_t rfl rfl (sg.slot 3 (sg.anc 3 rfl))).symm.trans hwant
      exact op_val hwant hgo hst _ (exec_move rfl (cT (sg.slot 6 (sg.anc 6 rfl)) hG)) (cI hG)
    · intro LL xx ac wc sg hst hwant QQ hgo
      have hG : ((((lookV (mkC c) ps now u.who u.key u.body).1).toList == ((lookV (mkC c) ((withV (mkR c) (nameV v.who v.key) ⟨v.key / 4294967296, v.body, (⟨#[111, 116, 104, 101, 114]⟩ : ByteArray)⟩ (ps.filter (keepB (mkC c) now))).1) now u.who u.key u.body).1).toList) && !(((lookV (mkC c) ps now u.who u.key u.body).2) == ((lookV (mkC c) ((withV (mkR c) (nameV v.who v.key) ⟨v.key / 4294967296, v.body, (⟨#[111, 116, 104, 101, 114]⟩ : ByteArray)⟩ (ps.filter (keepB (mkC c) now))).1) now u.who u.key u.body).2))) = true := (want_gf rfl rfl (sg.slot 7 (sg.anc 7 rfl))).symm.trans hwant
      exact op_val hwant hgo hst _ (exec_move rfl ((sg.free 15 (by kernel_rfl)).trans so15)) (cI hG)
    · intro LL xx ac wc sg hst hwant QQ hgo
      have hG : ((((lookV (mkC c) ps now u.who u.key u.body).1).toList == ((lookV (mkC c) ((withV (mkR c) (nameV v.who v.key) ⟨v.key / 4294967296, v.body, (⟨#[111, 116, 104, 101, 114]⟩ : ByteArray)⟩ (ps.filter (keepB (mkC c) now))).1) now u.who u.key u.body).1).toList) && !(((lookV (mkC c) ps now u.who u.key u.body).2) == ((lookV (mkC c) ((withV (mkR c) (nameV v.who v.key) ⟨v.key / 4294967296, v.body, (⟨#[111, 116, 104, 101, 114]⟩ : ByteArray)⟩ (ps.filter (keepB (mkC c) now))).1) now u.who u.key u.body).2))) = true := (want_gf rfl rfl (sg.slot 7 (sg.anc 7 rfl))).symm.trans hwant
      have se149 : ac.eval (.tmp 149) = _ := (cT (sg.slot 8 (sg.anc 8 rfl)) hG)
      have sg149 := gt_of se149
      (try simp only [nth] at se149 sg149)
      exact op_val hwant hgo hst _ (by simp only [execOp, nth]; go_simp <;> omega) (cI hG)
    · intro LL xx ac wc sg hst hwant QQ hgo
      have hG : ((((lookV (mkC c) ps now u.who u.key u.body).1).toList == ((lookV (mkC c) ((withV (mkR c) (nameV v.who v.key) ⟨v.key / 4294967296, v.body, (⟨#[111, 116, 104, 101, 114]⟩ : ByteArray)⟩ (ps.filter (keepB (mkC c) now))).1) now u.who u.key u.body).1).toList) && !(((lookV (mkC c) ps now u.who u.key u.body).2) == ((lookV (mkC c) ((withV (mkR c) (nameV v.who v.key) ⟨v.key / 4294967296, v.body, (⟨#[111, 116, 104, 101, 114]⟩ : ByteArray)⟩ (ps.filter (keepB (mkC c) now))).1) now u.who u.key u.body).2))) = true := (want_gf rfl rfl (sg.slot 7 (sg.anc 7 rfl))).symm.trans hwant
      exact op_val hwant hgo hst _ (exec_move rfl (cT (sg.slot 9 (sg.anc 9 rfl)) hG)) (cI hG)
    · intro LL xx ac wc sg hst hwant QQ hgo
      have hG : (((((lookV (mkC c) ps now u.who u.key u.body).1).toList == ((lookV (mkC c) ((withV (mkR c) (nameV v.who v.key) ⟨v.key / 4294967296, v.body, (⟨#[111, 116, 104, 101, 114]⟩ : ByteArray)⟩ (ps.filter (keepB (mkC c) now))).1) now u.who u.key u.body).1).toList) && !(((lookV (mkC c) ps now u.who u.key u.body).2) == ((lookV (mkC c) ((withV (mkR c) (nameV v.who v.key) ⟨v.key / 4294967296, v.body, (⟨#[111, 116, 104, 101, 114]⟩ : ByteArray)⟩ (ps.filter (keepB (mkC c) now))).1) now u.who u.key u.body).2))) && (((lookV (mkC c) ps now u.who u.key u.body).2) == 1)) = true := (want_gt rfl rfl (sg.slot 10 (sg.anc 10 rfl))).symm.trans hwant
      exact op_val hwant hgo hst _ (exec_move rfl ((sg.free 19 (by kernel_rfl)).trans so19)) (cI hG)
    · intro LL xx ac wc sg hst hwant QQ hgo
      have hG : (((((lookV (mkC c) ps now u.who u.key u.body).1).toList == ((lookV (mkC c) ((withV (mkR c) (nameV v.who v.key) ⟨v.key / 4294967296, v.body, (⟨#[111, 116, 104, 101, 114]⟩ : ByteArray)⟩ (ps.filter (keepB (mkC c) now))).1) now u.who u.key u.body).1).toList) && !(((lookV (mkC c) ps now u.who u.key u.body).2) == ((lookV (mkC c) ((withV (mkR c) (nameV v.who v.key) ⟨v.key / 4294967296, v.body, (⟨#[111, 116, 104, 101, 114]⟩ : ByteArray)⟩ (ps.filter (keepB (mkC c) now))).1) now u.who u.key u.body).2))) && (((lookV (mkC c) ps now u.who u.key u.body).2) == 1)) = true := (want_gt rfl rfl (sg.slot 10 (sg.anc 10 rfl))).symm.trans hwant
      have se152 : ac.eval (.tmp 152) = _ := (cT (sg.slot 11 (sg.anc 11 rfl)) hG)
      have sg152 := gt_of se152
      (try simp only [nth] at se152 sg152)
      exact op_val hwant hgo hst _ (by simp only [execOp, nth]; go_simp <;> omega) (cI hG)
    · intro LL xx ac wc sg hst hwant QQ hgo
      have hG : ((((lookV (mkC c) ps now u.who u.key u.body).1).toList == ((lookV (mkC c) ((withV (mkR c) (nameV v.who v.key) ⟨v.key / 4294967296, v.body, (⟨#[111, 116, 104, 101, 114]⟩ : ByteArray)⟩ (ps.filter (keepB (mkC c) now))).1) now u.who u.key u.body).1).toList) && !(((lookV (mkC c) ps now u.who u.key u.body).2) == ((lookV (mkC c) ((withV (mkR c) (nameV v.who v.key) ⟨v.key / 4294967296, v.body, (⟨#[111, 116, 104, 101, 114]⟩ : ByteArray)⟩ (ps.filter (keepB (mkC c) now))).1) now u.who u.key u.body).2))) = true := (want_gf rfl rfl (sg.slot 7 (sg.anc 7 rfl))).symm.trans hwant
      exact op_val hwant hgo hst (.bool ((((lookV (mkC c) ps now u.who u.key u.body).2) == 1) && (((lookV (mkC c) ((withV (mkR c) (nameV v.who v.key) ⟨v.key / 4294967296, v.body, (⟨#[111, 116, 104, 101, 114]⟩ : ByteArray)⟩ (ps.filter (keepB (mkC c) now))).1) now u.who u.key u.body).2) == 5))) (exec_and (Y := ((lookV (mkC c) ((withV (mkR c) (nameV v.who v.key) ⟨v.key / 4294967296, v.body, (⟨#[111, 116, 104, 101, 114]⟩ : ByteArray)⟩ (ps.filter (keepB (mkC c) now))).1) now u.who u.key u.body).2) == 5) rfl (cT (sg.slot 10 (sg.anc 10 rfl)) hG) (fun qq => cT (sg.slot 12 (sg.anc 12 rfl)) (bj hG qq))) (cI hG)
    · intro LL xx ac wc sg hst hwant QQ hgo
      have hG : (((lookV (mkC c) ps now u.who u.key u.body).1).toList == ((lookV (mkC c) ((withV (mkR c) (nameV v.who v.key) ⟨v.key / 4294967296, v.body, (⟨#[111, 116, 104, 101, 114]⟩ : ByteArray)⟩ (ps.filter (keepB (mkC c) now))).1) now u.who u.key u.body).1).toList) = true := (want_t rfl rfl (sg.slot 3 (sg.anc 3 rfl))).symm.trans hwant
      exact op_val hwant hgo hst (.bool ((((lookV (mkC c) ps now u.who u.key u.body).2) == ((lookV (mkC c) ((withV (mkR c) (nameV v.who v.key) ⟨v.key / 4294967296, v.body, (⟨#[111, 116, 104, 101, 114]⟩ : ByteArray)⟩ (ps.filter (keepB (mkC c) now))).1) now u.who u.key u.body).2)) || ((((lookV (mkC c) ps now u.who u.key u.body).2) == 1) && (((lookV (mkC c) ((withV (mkR c) (nameV v.who v.key) ⟨v.key / 4294967296, v.body, (⟨#[111, 116, 104, 101, 114]⟩ : ByteArray)⟩ (ps.filter (keepB (mkC c) now))).1) now u.who u.key u.body).2) == 5)))) (exec_or (Y := (((lookV (mkC c) ps now u.who u.key u.body).2) == 1) && (((lookV (mkC c) ((withV (mkR c) (nameV v.who v.key) ⟨v.key / 4294967296, v.body, (⟨#[111, 116, 104, 101, 114]⟩ : ByteArray)⟩ (ps.filter (keepB (mkC c) now))).1) now u.who u.key u.body).2) == 5)) rfl (cT (sg.slot 7 (sg.anc 7 rfl)) hG) (fun qq => cT (sg.slot 13 (sg.anc 13 rfl)) (bj hG (bk qq)))) (cI hG)
    · intro LL xx ac wc sg hst hwant QQ hgo
      exact op_val hwant hgo hst (.bool ((((lookV (mkC c) ps now u.who u.key u.body).1).toList == ((lookV (mkC c) ((withV (mkR c) (nameV v.who v.key) ⟨v.key / 4294967296, v.body, (⟨#[111, 116, 104, 101, 114]⟩ : ByteArray)⟩ (ps.filter (keepB (mkC c) now))).1) now u.who u.key u.body).1).toList) && ((((lookV (mkC c) ps now u.who u.key u.body).2) == ((lookV (mkC c) ((withV (mkR c) (nameV v.who v.key) ⟨v.key / 4294967296, v.body, (⟨#[111, 116, 104, 101, 114]⟩ : ByteArray)⟩ (ps.filter (keepB (mkC c) now))).1) now u.who u.key u.body).2)) || ((((lookV (mkC c) ps now u.who u.key u.body).2) == 1) && (((lookV (mkC c) ((withV (mkR c) (nameV v.who v.key) ⟨v.key / 4294967296, v.body, (⟨#[111, 116, 104, 101, 114]⟩ : ByteArray)⟩ (ps.filter (keepB (mkC c) now))).1) now u.who u.key u.body).2) == 5))))) (exec_and (Y := (((lookV (mkC c) ps now u.who u.key u.body).2) == ((lookV (mkC c) ((withV (mkR c) (nameV v.who v.key) ⟨v.key / 4294967296, v.body, (⟨#[111, 116, 104, 101, 114]⟩ : ByteArray)⟩ (ps.filter (keepB (mkC c) now))).1) now u.who u.key u.body).2)) || ((((lookV (mkC c) ps now u.who u.key u.body).2) == 1) && (((lookV (mkC c) ((withV (mkR c) (nameV v.who v.key) ⟨v.key / 4294967296, v.body, (⟨#[111, 116, 104, 101, 114]⟩ : ByteArray)⟩ (ps.filter (keepB (mkC c) now))).1) now u.who u.key u.body).2) == 5))) rfl (sg.slot 3 (sg.anc 3 rfl)) (fun qq => cT (sg.slot 14 (sg.anc 14 rfl)) qq)) rfl
    · intro LL xx ac wc sg hst hwant QQ hgo
      exact op_val hwant hgo hst _ (exec_assign rfl (sg.slot 15 (sg.anc 15 rfl))) rfl
  · refine skips [4, 5, 6, 7, 8, 9, 10, 11, 12, 13, 14] (by kernel_rfl) ?_
    refine List.forall_mem_cons.2 ⟨?_, List.forall_mem_cons.2 ⟨?_, List.forall_mem_cons.2 ⟨?_, List.forall_mem_cons.2 ⟨?_, List.forall_mem_cons.2 ⟨?_, List.forall_mem_cons.2 ⟨?_, List.forall_mem_cons.2 ⟨?_, List.forall_mem_cons.2 ⟨?_, List.forall_mem_cons.2 ⟨?_, List.forall_mem_cons.2 ⟨?_, List.forall_mem_cons.2 ⟨?_, fun _ h => by cases h⟩⟩⟩⟩⟩⟩⟩⟩⟩⟩⟩
    · intro oo hop LL xx ac sg hwant
      cases Option.some.inj hop
      have hG : (((lookV (mkC c) ps now u.who u.key u.body).1).toList == ((lookV (mkC c) ((withV (mkR c) (nameV v.who v.key) ⟨v.key / 4294967296, v.body, (⟨#[111, 116, 104, 101, 114]⟩ : ByteArray)⟩ (ps.filter (keepB (mkC c) now))).1) now u.who u.key u.body).1).toList) = false := (want_t rfl rfl (sg.slot 3 (sg.anc 3 rfl))).symm.trans hwant
      exact ⟨cF hG, fun _ h => h⟩
    · intro oo hop LL xx ac sg hwant
      cases Option.some.inj hop
      have hG : (((lookV (mkC c) ps now u.who u.key u.body).1).toList == ((lookV (mkC c) ((withV (mkR c) (nameV v.who v.key) ⟨v.key / 4294967296, v.body, (⟨#[111, 116, 104, 101, 114]⟩ : ByteArray)⟩ (ps.filter (keepB (mkC c) now))).1) now u.who u.key u.body).1).toList) = false := (want_t rfl rfl (sg.slot 3 (sg.anc 3 rfl))).symm.trans hwant
      exact ⟨cF hG, fun _ h => h⟩
    · intro oo hop LL xx ac sg hwant
      cases Option.some.inj hop
      have hG : (((lookV (mkC c) ps now u.who u.key u.body).1).toList == ((lookV (mkC c) ((withV (mkR c) (nameV v.who v.key) ⟨v.key / 4294967296, v.body, (⟨#[111, 116, 104, 101, 114]⟩ : ByteArray)⟩ (ps.filter (keepB (mkC c) now))).1) now u.who u.key u.body).1).toList) = false := (want_t rfl rfl (sg.slot 3 (sg.anc 3 rfl))).symm.trans hwant
      exact ⟨cF hG, fun _ h => h⟩
    · intro oo hop LL xx ac sg hwant
      cases Option.some.inj hop
      have hG : (((lookV (mkC c) ps now u.who u.key u.body).1).toList == ((lookV (mkC c) ((withV (mkR c) (nameV v.who v.key) ⟨v.key / 4294967296, v.body, (⟨#[111, 116, 104, 101, 114]⟩ : ByteArray)⟩ (ps.filter (keepB (mkC c) now))).1) now u.who u.key u.body).1).toList) = false := (want_t rfl rfl (sg.slot 3 (sg.anc 3 rfl))).symm.trans hwant
      exact ⟨cF hG, fun _ h => h⟩
    · intro oo hop LL xx ac sg hwant
      cases Option.some.inj hop
      have hG : ((((lookV (mkC c) ps now u.who u.key u.body).1).toList == ((lookV (mkC c) ((withV (mkR c) (nameV v.who v.key) ⟨v.key / 4294967296, v.body, (⟨#[111, 116, 104, 101, 114]⟩ : ByteArray)⟩ (ps.filter (keepB (mkC c) now))).1) now u.who u.key u.body).1).toList) && !(((lookV (mkC c) ps now u.who u.key u.body).2) == ((lookV (mkC c) ((withV (mkR c) (nameV v.who v.key) ⟨v.key / 4294967296, v.body, (⟨#[111, 116, 104, 101, 114]⟩ : ByteArray)⟩ (ps.filter (keepB (mkC c) now))).1) now u.who u.key u.body).2))) = false := (want_gf rfl rfl (sg.slot 7 (sg.anc 7 rfl))).symm.trans hwant
      exact ⟨cF hG, fun _ h => h⟩
    · intro oo hop LL xx ac sg hwant
      cases Option.some.inj hop
      have hG : ((((lookV (mkC c) ps now u.who u.key u.body).1).toList == ((lookV (mkC c) ((withV (mkR c) (nameV v.who v.key) ⟨v.key / 4294967296, v.body, (⟨#[111, 116, 104, 101, 114]⟩ : ByteArray)⟩ (ps.filter (keepB (mkC c) now))).1) now u.who u.key u.body).1).toList) && !(((lookV (mkC c) ps now u.who u.key u.body).2) == ((lookV (mkC c) ((withV (mkR c) (nameV v.who v.key) ⟨v.key / 4294967296, v.body, (⟨#[111, 116, 104, 101, 114]⟩ : ByteArray)⟩ (ps.filter (keepB (mkC c) now))).1) now u.who u.key u.body).2))) = false := (want_gf rfl rfl (sg.slot 7 (sg.anc 7 rfl))).symm.trans hwant
      exact ⟨cF hG, fun _ h => h⟩
    · intro oo hop LL xx ac sg hwant
      cases Option.some.inj hop
      have hG : ((((lookV (mkC c) ps now u.who u.key u.body).1).toList == ((lookV (mkC c) ((withV (mkR c) (nameV v.who v.key) ⟨v.key / 4294967296, v.body, (⟨#[111, 116, 104, 101, 114]⟩ : ByteArray)⟩ (ps.filter (keepB (mkC c) now))).1) now u.who u.key u.body).1).toList) && !(((lookV (mkC c) ps now u.who u.key u.body).2) == ((lookV (mkC c) ((withV (mkR c) (nameV v.who v.key) ⟨v.key / 4294967296, v.body, (⟨#[111, 116, 104, 101, 114]⟩ : ByteArray)⟩ (ps.filter (keepB (mkC c) now))).1) now u.who u.key u.body).2))) = false := (want_gf rfl rfl (sg.slot 7 (sg.anc 7 rfl))).symm.trans hwant
      exact ⟨cF hG, fun _ h => h⟩
    · intro oo hop LL xx ac sg hwant
      cases Option.some.inj hop
      have hG : (((((lookV (mkC c) ps now u.who u.key u.body).1).toList == ((lookV (mkC c) ((withV (mkR c) (nameV v.who v.key) ⟨v.key / 4294967296, v.body, (⟨#[111, 116, 104, 101, 114]⟩ : ByteArray)⟩ (ps.filter (keepB (mkC c) now))).1) now u.who u.key u.body).1).toList) && !(((lookV (mkC c) ps now u.who u.key u.body).2) == ((lookV (mkC c) ((withV (mkR c) (nameV v.who v.key) ⟨v.key / 4294967296, v.body, (⟨#[111, 116, 104, 101, 114]⟩ : ByteArray)⟩ (ps.filter (keepB (mkC c) now))).1) now u.who u.key u.body).2))) && (((lookV (mkC c) ps now u.who u.key u.body).2) == 1)) = false := (want_gt rfl rfl (sg.slot 10 (sg.anc 10 rfl))).symm.trans hwant
      exact ⟨cF hG, fun _ h => h⟩
    · intro oo hop LL xx ac sg hwant
      cases Option.some.inj hop
      have hG : (((((lookV (mkC c) ps now u.who u.key u.body).1).toList == ((lookV (mkC c) ((withV (mkR c) (nameV v.who v.key) ⟨v.key / 4294967296, v.body, (⟨#[111, 116, 104, 101, 114]⟩ : ByteArray)⟩ (ps.filter (keepB (mkC c) now))).1) now u.who u.key u.body).1).toList) && !(((lookV (mkC c) ps now u.who u.key u.body).2) == ((lookV (mkC c) ((withV (mkR c) (nameV v.who v.key) ⟨v.key / 4294967296, v.body, (⟨#[111, 116, 104, 101, 114]⟩ : ByteArray)⟩ (ps.filter (keepB (mkC c) now))).1) now u.who u.key u.body).2))) && (((lookV (mkC c) ps now u.who u.key u.body).2) == 1)) = false := (want_gt rfl rfl (sg.slot 10 (sg.anc 10 rfl))).symm.trans hwant
      exact ⟨cF hG, fun _ h => h⟩
    · intro oo hop LL xx ac sg hwant
      cases Option.some.inj hop
      have hG : ((((lookV (mkC c) ps now u.who u.key u.body).1).toList == ((lookV (mkC c) ((withV (mkR c) (nameV v.who v.key) ⟨v.key / 4294967296, v.body, (⟨#[111, 116, 104, 101, 114]⟩ : ByteArray)⟩ (ps.filter (keepB (mkC c) now))).1) now u.who u.key u.body).1).toList) && !(((lookV (mkC c) ps now u.who u.key u.body).2) == ((lookV (mkC c) ((withV (mkR c) (nameV v.who v.key) ⟨v.key / 4294967296, v.body, (⟨#[111, 116, 104, 101, 114]⟩ : ByteArray)⟩ (ps.filter (keepB (mkC c) now))).1) now u.who u.key u.body).2))) = false := (want_gf rfl rfl (sg.slot 7 (sg.anc 7 rfl))).symm.trans hwant
      exact ⟨cF hG, fun _ h => h⟩
    · intro oo hop LL xx ac sg hwant
      cases Option.some.inj hop
      have hG : (((lookV (mkC c) ps now u.who u.key u.body).1).toList == ((lookV (mkC c) ((withV (mkR c) (nameV v.who v.key) ⟨v.key / 4294967296, v.body, (⟨#[111, 116, 104, 101, 114]⟩ : ByteArray)⟩ (ps.filter (keepB (mkC c) now))).1) now u.who u.key u.body).1).toList) = false := (want_t rfl rfl (sg.slot 3 (sg.anc 3 rfl))).symm.trans hwant
      exact ⟨cF hG, fun _ h => h⟩
  · intro xx ac1 wz hfr hsl hst
    exact hfin ac1 wz (hfr.size.trans hz) hfr.defers (fr_keep hfr [8, 141, 142, 143, 144, 145, 146, 147, 148, 149, 150, 151, 152, 153, 154, 155, 156] (by kernel_rfl)) (hsl 16 (by decide)) (Lib.hid hst)
end Go.Proofs.Ytfhhfmkfkoemjaa.Se6
