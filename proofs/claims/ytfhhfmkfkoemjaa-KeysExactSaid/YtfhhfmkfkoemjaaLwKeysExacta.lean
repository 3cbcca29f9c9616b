/- Every configuration and row of deeds: the walk. -/
import Derived.Test.YtfhhfmkfkoemjaaProg
import Derived.Below
import Derived.WalkKit
import Derived.KernelRfl
import Derived.RowKit3
import Derived.Deep.LoopGhost
import Derived.Deep.QuietTactic
import Derived.BigQuiet
import Derived.WideLaws
import Derived.Deep.DeepCutAuto
import Derived.Deep.CutBlock
import Derived.Lib.Hide
import Derived.Laws.BitsLemmas
import Derived.Laws.Bits64
import Derived.Laws.BitsAllLaws
import Derived.IntWalk
import Derived.Outline
import Derived.WalkSpells
import Derived.Test.YtfhhfmkfkoemjaaMem
import Derived.Test.YtfhhfmkfkoemjaaKyE
namespace Go.Proofs.Ytfhhfmkfkoemjaa.Se6
open Go.RowKit Go.Proofs.Ytfhhfmkfkoemjaa.Mem Go.Proofs.Ytfhhfmkfkoemjaa.Reg Go.Proofs.Ytfhhfmkfkoemjaa.Pk Go.Proofs.Ytfhhfmkfkoemjaa.Si
set_option linter.unusedVariables false
set_option linter.unusedSimpArgs false

theorem few_mk (c : Cfg) : mkR c ≤ 64 := by
  rcases Bool.eq_false_or_eq_true (checkV c != 0) with q | q
  · rw [(mk_bad q).2]; decide
  · rw [(mk_good q).2]
    have h1 : cfgOk c = true := by
      cases hc : cfgOk c with
      | true => rfl
      | false => rw [checkV_bad hc] at q; exact absurd q (by decide)
    unfold cfgOk at h1
    simp at h1
    omega
theorem few_rel2 {c : Cfg} {ps : List PairV} {l : List EntR} (h : RelK (mkC c) (mkR c) ps l) : l.length ≤ 1000000 := by
  have := h.few
  have := few_mk c
  omega
theorem few_rel {c : Cfg} {ps : List PairV} {l : List EntR} (h : RelK (mkC c) (mkR c) ps l) : ps.length ≤ 1000000 := by
  have := h.perm.length_eq
  rw [List.length_map] at this
  rw [this]
  exact few_rel2 h
theorem rel_keys {c : Cfg} {room : Int} {ps : List PairV} {l : List EntR} (h : RelK c room ps l) : Hid (∀ e ∈ l, 0 ≤ e.key ∧ e.key ≤ 18446744073709551615) := Lib.hid fun e he => ⟨(h.ok e he).2.2.1, (h.ok e he).2.2.2⟩
theorem rS_nilE (w : World) : (rS none 0 4 (([] : List EntR).map entRow)).holds w := ⟨.inl ⟨rfl, rfl⟩, Wf.nil _⟩
theorem good_mkC {c : Cfg} (h : (checkV c == 0) = true) : mkC c = c := (mk_good (by simp only [bne, h, Bool.not_true])).1
theorem bad_mkC {c : Cfg} (h : (checkV c == 0) = false) : mkC c = ⟨0, 0, 0, 0, 0, 0, 0, 0, 0, 0, 0, 0, 0, 0, 0, 0, 0, 0⟩ := (mk_bad (by simp only [bne, h, Bool.not_false])).1
theorem no_look {c : Cfg} {room : Int} {ps : List PairV} {l : List EntR} (h : RelK c room ps l) {now who key : Int} {body : ByteArray} (k0 : 0 ≤ key) (k1 : key ≤ 18446744073709551615) (n1 : now ≤ 9223372036854775807) :
    ((!((lookV c ps now who key body).1.toList == (lookR c l now who key body).1.toList)) || ((lookV c ps now who key body).2 != (lookR c l now who key body).2)) = false := by
  rw [look_eq h k0 k1 n1]
  simp
theorem no_good {c : Cfg} {key now : Int} (k0 : 0 ≤ key) (k1 : key ≤ 18446744073709551615) (n1 : now ≤ 9223372036854775807) : (!(isGoodV c key now == goodRV c key now)) = false := by
  rw [good_eq k0 k1 n1]
  simp
theorem no_count {c : Cfg} {room : Int} {ps : List PairV} {l : List EntR} (h : RelK c room ps l) (now : Int) : ((((ps.filter (keepB c now)).length : Nat) : Int) != (((l.filter (keepR c now)).length : Nat) : Int)) = false := by
  rw [rel_count h]
  simp
set_option maxRecDepth 20000 in
theorem exact_w_r0 (c : Cfg) (ra : Option Addr) (rc : Nat) (acts : List ActK) {wa wb : World} (H : Hid (Hp [] wa wb [rS none 0 4 (([] : List EntR).map entRow), rS none 0 4 (([] : List PairV).map rowOf), rS ra rc 5 (acts.map actRow)])) (ac0 : Act) (hz : ac0.tmps.size = 175) (so0 : ac0.eval (.tmp 0) = .agg (cA c)) {QR : Exit → Act → World → Prop} (hfin : ∀ (b3 : Nat) (ac1 : Act) (wz : World), ac1.tmps.size = 175 → ac1.defers = ac0.defers → (∀ t, ([3, 6] : List Nat).contains t = false → ac1.eval (.tmp t) = ac0.eval (.tmp t)) → ac1.eval (.tmp 3) = .pointer (some ⟨b3, 0, none⟩) → ac1.eval (.tmp 6) = .bool false →  Hid (Hp [] wa wz [rB b3 24 (cL c), rS none 0 4 (([] : List EntR).map entRow), rS none 0 4 (([] : List PairV).map rowOf), rS ra rc 5 (acts.map actRow)]) → QR .normal ac1 wz) : (regAt Try.f12 0).wp Try.prog QR ac0 wb := by
  refine wp_region_sq (by kernel_rfl) 175 hz (by kernel_rfl) (fun (xx : Nat) jx => match xx with | b3 => nth [.pointer (some ⟨b3, 0, none⟩), .bool false] jx) (fun (LL : Nat → Bool) (xx : Nat) ww => match xx with | b3 => Hp [] wa ww (bif LL 0 then [rB b3 24 (cL c), rS none 0 4 (([] : List EntR).map entRow), rS none 0 4 (([] : List PairV).map rowOf), rS ra rc 5 (acts.map actRow)] else [rS none 0 4 (([] : List EntR).map entRow), rS none 0 4 (([] : List PairV).map rowOf), rS ra rc 5 (acts.map actRow)])) default H.out ?_ (steps_al ?_) ?_ ?_
  · intro L1 L2 xx ww hL sg
    have lh0 := hL 0 (by decide)
    simp only [lh0] at sg
    exact sg
  · refine al_cons ?_ (al_cons ?_ (al_nil))
    · intro LL xx ac wc sg hst hwant QQ hgo
      revert sg hst hgo; revert xx; intro xold sg hst hgo
      have H := Lib.hid hst
      simp only [sg.self, cond_true, cond_false] at H
      refine hp_box rfl 24 _ rfl _ ((sg.free 0 (by kernel_rfl)).trans so0) _ (by rfl) H ?_
      intro wd b3 H2
      exact hgo _ b3 _ (sg.agree (x' := b3) (n := 2) rfl (by (iterate 2 (refine ix_cons (by first | exact fun _ => rfl | exact no sg.self | exact no (sg.des _ rfl)) ?_)); exact ix_nil)) rfl (by simp only [(show upd LL 0 0 = true from rfl), cond_true, cond_false]; exact H2.out)
    · intro LL xx ac wc sg hst hwant QQ hgo
      revert sg hst hgo; revert xx; intro b3 sg hst hgo
      exact op_val hwant hgo hst _ (exec_assign rfl rfl) rfl
  · exact skips [] (by kernel_rfl) (fun _ h => by cases h)
  · intro xx ac1 wz hfr hsl hst
    revert hsl hst; revert xx; intro b3 hsl hst
    exact hfin b3 ac1 wz (hfr.size.trans hz) hfr.defers (fr_keep hfr [3, 6] (by kernel_rfl)) (hsl 0 (by decide)) (hsl 1 (by decide)) (Lib.hid hst)
set_option maxRecDepth 20000 in
theorem exact_w_r1 (c : Cfg) (ra : Option Addr) (rc : Nat) (acts : List ActK) (b3 : Nat) {wa wb : World} (H : Hid (Hp [] wa wb [rB b3 24 (cL c), rS none 0 4 (([] : List EntR).map entRow), rS none 0 4 (([] : List PairV).map rowOf), rS ra rc 5 (acts.map actRow)])) (ac0 : Act) (hz : ac0.tmps.size = 175)  {QR : Exit → Act → World → Prop} (hfin : ∀ (ac1 : Act) (wz : World), ac1.tmps.size = 175 → ac1.defers = ac0.defers → (∀ t, ([20, 21] : List Nat).contains t = false → ac1.eval (.tmp t) = ac0.eval (.tmp t)) → ac1.eval (.tmp 21) = .bool false →  Hid (Hp [] wa wz [rB b3 24 (cL c), rS none 0 4 (([] : List EntR).map entRow), rS none 0 4 (([] : List PairV).map rowOf), rS ra rc 5 (acts.map actRow)]) → QR .normal ac1 wz) : (regAt Try.f12 1).wp Try.prog QR ac0 wb := by
  refine wp_region_sq (by kernel_rfl) 175 hz (by kernel_rfl) (fun (xx : Unit) jx => nth [.bool true, .bool false] jx) (fun (LL : Nat → Bool) (xx : Unit) ww => Hp [] wa ww [rB b3 24 (cL c), rS none 0 4 (([] : List EntR).map entRow), rS none 0 4 (([] : List PairV).map rowOf), rS ra rc 5 (acts.map actRow)]) () H.out ?_ (steps_al ?_) ?_ ?_
  · exact fun _ _ _ _ _ h => h
  · refine al_cons ?_ (al_cons ?_ (al_nil))
    · intro LL xx ac wc sg hst hwant QQ hgo
      refine op_call hwant hgo 44 _ (by simp only [execOp]; go_simp) (awake10 wc) ?_
      rintro er wd ⟨rfl, hof⟩
      exact ⟨_, (), rfl, fun _ _ => rfl, rfl, Hp.quiet hst hof⟩
    · intro LL xx ac wc sg hst hwant QQ hgo
      have se20 : ac.eval (.tmp 20) = _ := (sg.slot 0 (sg.anc 0 rfl))
      have sg20 := gt_of se20
      (try simp only [nth] at se20 sg20)
      exact op_val hwant hgo hst _ (by simp only [execOp, nth]; go_simp <;> omega) rfl
  · exact skips [] (by kernel_rfl) (fun _ h => by cases h)
  · intro xx ac1 wz hfr hsl hst
    exact hfin ac1 wz (hfr.size.trans hz) hfr.defers (fr_keep hfr [20, 21] (by kernel_rfl)) (hsl 1 (by decide)) (Lib.hid hst)
set_option maxRecDepth 20000 in
theorem exact_w_r3 (c : Cfg) (ra : Option Addr) (rc : Nat) (acts : List ActK) (b3 : Nat) {wa wb : World} (H : Hid (Hp [] wa wb [rB b3 24 (cL c), rS none 0 4 (([] : List EntR).map entRow), rS none 0 4 (([] : List PairV).map rowOf), rS ra rc 5 (acts.map actRow)])) (ac0 : Act) (hz : ac0.tmps.size = 175) (so3 : ac0.eval (.tmp 3) = .pointer (some ⟨b3, 0, none⟩)) {QR : Exit → Act → World → Prop} (hfin : ∀ (b7 : Nat) (ac1 : Act) (wz : World), ac1.tmps.size = 175 → ac1.defers = ac0.defers → (∀ t, ([7, 22, 23] : List Nat).contains t = false → ac1.eval (.tmp t) = ac0.eval (.tmp t)) → ac1.eval (.tmp 7) = .pointer (some ⟨b7, 0, none⟩) →  Hid (Hp [] wa wz [rB b7 84 (kL (mkC c) (mkR c) (.slice none (([] : List PairV).length) 0)), rB b3 24 (cL c), rS none 0 4 (([] : List EntR).map entRow), rS none 0 4 (([] : List PairV).map rowOf), rS ra rc 5 (acts.map actRow)]) → QR .normal ac1 wz) : (regAt Try.f12 3).wp Try.prog QR ac0 wb := by
  refine wp_region_sq (by kernel_rfl) 175 hz (by kernel_rfl) (fun (xx : Nat) jx => match xx with | b7 => nth [.agg (cA c), .agg (kA (mkC c) (mkR c) (.slice none (([] : List PairV).length) 0)), .pointer (some ⟨b7, 0, none⟩), undef] jx) (fun (LL : Nat → Bool) (xx : Nat) ww => match xx with | b7 => Hp [] wa ww (bif LL 3 then [rB b7 84 (kL (mkC c) (mkR c) (.slice none (([] : List PairV).length) 0)), rB b3 24 (cL c), rS none 0 4 (([] : List EntR).map entRow), rS none 0 4 (([] : List PairV).map rowOf), rS ra rc 5 (acts.map actRow)] else (bif LL 2 then [rB b7 84 [.int .i64 0, .int .i64 0, .int .i64 0, .int .i64 0, .int .i64 0, .int .i64 0, .int .i64 0, .int .i64 0, .int .i64 0, .int .i64 0, .int .i64 0, .int .i64 0, .int .i64 0, .int .i64 0, .int .i64 0, .int .i64 0, .int .i64 0, .int .u32 0, .int .i64 0, .slice none 0 0], rB b3 24 (cL c), rS none 0 4 (([] : List EntR).map entRow), rS none 0 4 (([] : List PairV).map rowOf), rS ra rc 5 (acts.map actRow)] else [rB b3 24 (cL c), rS none 0 4 (([] : List EntR).map entRow), rS none 0 4 (([] : List PairV).map rowOf), rS ra rc 5 (acts.map actRow)]))) default H.out ?_ (steps_al ?_) ?_ ?_
  · intro L1 L2 xx ww hL sg
    have lh2 := hL 2 (by decide)
    have lh3 := hL 3 (by decide)
    simp only [lh2, lh3] at sg
    exact sg
  · refine al_cons ?_ (al_cons ?_ (al_cons ?_ (al_cons ?_ (al_nil))))
    · intro LL xx ac wc sg hst hwant QQ hgo
      revert sg hst hgo; revert xx; intro b7 sg hst hgo
      have H := Lib.hid hst
      simp only [sg.des 2 rfl, sg.des 3 rfl, cond_true, cond_false] at H
      refine hpA_load tyapi_Config H rfl ((sg.free 3 (by kernel_rfl)).trans so3) hwant (by (repeat (first | exact List.Mem.head _ | apply List.Mem.tail))) (by rfl) rfl ?_
      exact hgo _ b7 _ (fun _ _ => rfl) rfl hst
    · intro LL xx ac wc sg hst hwant QQ hgo
      revert sg hst hgo; revert xx; intro b7 sg hst hgo
      have se22 : ac.eval (.tmp 22) = _ := (sg.slot 0 (sg.anc 0 rfl))
      have sg22 := gt_of se22
      (try simp only [nth] at se22 sg22)
      refine op_call hwant hgo 47 _ (by simp only [execOp]; go_simp) (makeC c wc) ?_
      rintro er wd ⟨rfl, hof⟩
      exact ⟨_, b7, rfl, fun _ _ => rfl, rfl, Hp.quiet hst hof⟩
    · intro LL xx ac wc sg hst hwant QQ hgo
      revert sg hst hgo; revert xx; intro xold sg hst hgo
      have H := Lib.hid hst
      simp only [sg.self, sg.des 3 rfl, cond_true, cond_false] at H
      refine hpA_alloc tykeys_Keys H rfl rfl ?_
      intro wd b7 H2
      exact hgo _ b7 _ (sg.agree (x' := b7) (n := 4) rfl (by (iterate 4 (refine ix_cons (by first | exact fun _ => rfl | exact no sg.self | exact no (sg.des _ rfl)) ?_)); exact ix_nil)) rfl (by simp only [(show upd LL 2 2 = true from rfl), (show upd LL 2 3 = LL 3 from rfl), sg.des 3 rfl, cond_true, cond_false]; exact H2.out)
    · intro LL xx ac wc sg hst hwant QQ hgo
      revert sg hst hgo; revert xx; intro b7 sg hst hgo
      have H := Lib.hid hst
      simp only [sg.anc 2 rfl, sg.self, cond_true, cond_false] at H
      refine hpA_store tykeys_Keys H rfl rfl (sg.slot 2 (sg.anc 2 rfl)) (sg.slot 1 (sg.anc 1 rfl)) rfl (by repeat (first | apply Put.head | apply Put.tail)) (by simp [kA, kL, rkA, rkL, cA, cL]) (by simp [kA, kL, rkA, rkL, cA, cL, Value.oneCell']) (by first | rfl | (simp only [spl]; rfl)) rfl ?_
      intro wd H2
      exact hgo _ b7 _ (sg.agree (x' := b7) (n := 4) rfl (by (iterate 4 (refine ix_cons (by first | exact fun _ => rfl | exact no sg.self | exact no (sg.des _ rfl)) ?_)); exact ix_nil)) rfl (by simp only [(show upd LL 3 2 = LL 2 from rfl), sg.anc 2 rfl, (show upd LL 3 3 = true from rfl), cond_true, cond_false]; exact H2.out)
  · exact skips [] (by kernel_rfl) (fun _ h => by cases h)
  · intro xx ac1 wz hfr hsl hst
    revert hsl hst; revert xx; intro b7 hsl hst
    exact hfin b7 ac1 wz (hfr.size.trans hz) hfr.defers (fr_keep hfr [7, 22, 23] (by kernel_rfl)) (hsl 2 (by decide)) (Lib.hid hst)
set_option maxRecDepth 20000 in
theorem exact_w_r4 (c : Cfg) (ra : Option Addr) (rc : Nat) (acts : List ActK) (b3 : Nat) (b7 : Nat) {wa wb : World} (H : Hid (Hp [] wa wb [rB b7 84 (kL (mkC c) (mkR c) (.slice none (([] : List PairV).length) 0)), rB b3 24 (cL c), rS none 0 4 (([] : List EntR).map entRow), rS none 0 4 (([] : List PairV).map rowOf), rS ra rc 5 (acts.map actRow)])) (ac0 : Act) (hz : ac0.tmps.size = 175)  {QR : Exit → Act → World → Prop} (hfin : ∀ (b8 : Nat) (ac1 : Act) (wz : World), ac1.tmps.size = 175 → ac1.defers = ac0.defers → (∀ t, ([8, 24] : List Nat).contains t = false → ac1.eval (.tmp t) = ac0.eval (.tmp t)) → ac1.eval (.tmp 8) = .pointer (some ⟨b8, 0, none⟩) →  Hid (Hp [] wa wz [rB b8 99 [.int .i64 0, .int .i64 0, .int .i64 0, .int .i64 0, .int .i64 0, .int .i64 0, .int .i64 0, .int .i64 0, .int .i64 0, .int .i64 0, .int .i64 0, .int .i64 0, .int .i64 0, .int .i64 0, .int .i64 0, .int .i64 0, .int .i64 0, .int .u32 0, .slice none 0 0], rB b7 84 (kL (mkC c) (mkR c) (.slice none (([] : List PairV).length) 0)), rB b3 24 (cL c), rS none 0 4 (([] : List EntR).map entRow), rS none 0 4 (([] : List PairV).map rowOf), rS ra rc 5 (acts.map actRow)]) → QR .normal ac1 wz) : (regAt Try.f12 4).wp Try.prog QR ac0 wb := by
  refine wp_region_sq (by kernel_rfl) 175 hz (by kernel_rfl) (fun (xx : Nat) jx => match xx with | b8 => nth [.agg #[.int .i64 0, .int .i64 0, .int .i64 0, .int .i64 0, .int .i64 0, .int .i64 0, .int .i64 0, .int .i64 0, .int .i64 0, .int .i64 0, .int .i64 0, .int .i64 0, .int .i64 0, .int .i64 0, .int .i64 0, .int .i64 0, .int .i64 0, .int .u32 0, .slice none 0 0], .pointer (some ⟨b8, 0, none⟩), undef] jx) (fun (LL : Nat → Bool) (xx : Nat) ww => match xx with | b8 => Hp [] wa ww (bif LL 2 then [rB b8 99 [.int .i64 0, .int .i64 0, .int .i64 0, .int .i64 0, .int .i64 0, .int .i64 0, .int .i64 0, .int .i64 0, .int .i64 0, .int .i64 0, .int .i64 0, .int .i64 0, .int .i64 0, .int .i64 0, .int .i64 0, .int .i64 0, .int .i64 0, .int .u32 0, .slice none 0 0], rB b7 84 (kL (mkC c) (mkR c) (.slice none (([] : List PairV).length) 0)), rB b3 24 (cL c), rS none 0 4 (([] : List EntR).map entRow), rS none 0 4 (([] : List PairV).map rowOf), rS ra rc 5 (acts.map actRow)] else (bif LL 1 then [rB b8 99 [.int .i64 0, .int .i64 0, .int .i64 0, .int .i64 0, .int .i64 0, .int .i64 0, .int .i64 0, .int .i64 0, .int .i64 0, .int .i64 0, .int .i64 0, .int .i64 0, .int .i64 0, .int .i64 0, .int .i64 0, .int .i64 0, .int .i64 0, .int .u32 0, .slice none 0 0], rB b7 84 (kL (mkC c) (mkR c) (.slice none (([] : List PairV).length) 0)), rB b3 24 (cL c), rS none 0 4 (([] : List EntR).map entRow), rS none 0 4 (([] : List PairV).map rowOf), rS ra rc 5 (acts.map actRow)] else [rB b7 84 (kL (mkC c) (mkR c) (.slice none (([] : List PairV).length) 0)), rB b3 24 (cL c), rS none 0 4 (([] : List EntR).map entRow), rS none 0 4 (([] : List PairV).map rowOf), rS ra rc 5 (acts.map actRow)]))) default H.out ?_ (steps_al ?_) ?_ ?_
  · intro L1 L2 xx ww hL sg
    have lh1 := hL 1 (by decide)
    have lh2 := hL 2 (by decide)
    simp only [lh1, lh2] at sg
    exact sg
  · refine al_cons ?_ (al_cons ?_ (al_cons ?_ (al_nil)))
    · intro LL xx ac wc sg hst hwant QQ hgo
      revert sg hst hgo; revert xx; intro b8 sg hst hgo
      exact op_val hwant hgo hst _ (by simp only [execOp, nth, kA, kL, rkA, rkL, cA, cL]; go_simp <;> omega) rfl
    · intro LL xx ac wc sg hst hwant QQ hgo
      revert sg hst hgo; revert xx; intro xold sg hst hgo
      have H := Lib.hid hst
      simp only [sg.self, sg.des 2 rfl, cond_true, cond_false] at H
      refine hpA_alloc tyhoistwayref10_Keys H rfl rfl ?_
      intro wd b8 H2
      exact hgo _ b8 _ (sg.agree (x' := b8) (n := 3) rfl (by (iterate 3 (refine ix_cons (by first | exact fun _ => rfl | exact no sg.self | exact no (sg.des _ rfl)) ?_)); exact ix_nil)) rfl (by simp only [(show upd LL 1 1 = true from rfl), (show upd LL 1 2 = LL 2 from rfl), sg.des 2 rfl, cond_true, cond_false]; exact H2.out)
    · intro LL xx ac wc sg hst hwant QQ hgo
      revert sg hst hgo; revert xx; intro b8 sg hst hgo
      have H := Lib.hid hst
      simp only [sg.anc 1 rfl, sg.self, cond_true, cond_false] at H
      refine hpA_store tyhoistwayref10_Keys H rfl rfl (sg.slot 1 (sg.anc 1 rfl)) (sg.slot 0 (sg.anc 0 rfl)) rfl (by repeat (first | apply Put.head | apply Put.tail)) (by simp [kA, kL, rkA, rkL, cA, cL]) (by simp [kA, kL, rkA, rkL, cA, cL, Value.oneCell']) (by first | rfl | (simp only [spl]; rfl)) rfl ?_
      intro wd H2
      exact hgo _ b8 _ (sg.agree (x' := b8) (n := 3) rfl (by (iterate 3 (refine ix_cons (by first | exact fun _ => rfl | exact no sg.self | exact no (sg.des _ rfl)) ?_)); exact ix_nil)) rfl (by simp only [(show upd LL 2 1 = LL 1 from rfl), sg.anc 1 rfl, (show upd LL 2 2 = true from rfl), cond_true, cond_false]; exact H2.out)
  · exact skips [] (by kernel_rfl) (fun _ h => by cases h)
  · intro xx ac1 wz hfr hsl hst
    revert hsl hst; revert xx; intro b8 hsl hst
    exact hfin b8 ac1 wz (hfr.size.trans hz) hfr.defers (fr_keep hfr [8, 24] (by kernel_rfl)) (hsl 1 (by decide)) (Lib.hid hst)
set_option maxRecDepth 20000 in
theorem exact_w_r5 (c : Cfg) (ra : Option Addr) (rc : Nat) (acts : List ActK) (b3 : Nat) (b7 : Nat) (b8 : Nat) {wa wb : World} (H : Hid (Hp [] wa wb [rB b8 99 [.int .i64 0, .int .i64 0, .int .i64 0, .int .i64 0, .int .i64 0, .int .i64 0, .int .i64 0, .int .i64 0, .int .i64 0, .int .i64 0, .int .i64 0, .int .i64 0, .int .i64 0, .int .i64 0, .int .i64 0, .int .i64 0, .int .i64 0, .int .u32 0, .slice none 0 0], rB b7 84 (kL (mkC c) (mkR c) (.slice none (([] : List PairV).length) 0)), rB b3 24 (cL c), rS none 0 4 (([] : List EntR).map entRow), rS none 0 4 (([] : List PairV).map rowOf), rS ra rc 5 (acts.map actRow)])) (ac0 : Act) (hz : ac0.tmps.size = 175) (so3 : ac0.eval (.tmp 3) = .pointer (some ⟨b3, 0, none⟩)) {QR : Exit → Act → World → Prop} (hfin : ∀ (ac1 : Act) (wz : World), ac1.tmps.size = 175 → ac1.defers = ac0.defers → (∀ t, ([25, 26] : List Nat).contains t = false → ac1.eval (.tmp t) = ac0.eval (.tmp t)) → ac1.eval (.tmp 26) = .bool (checkV c == 0) →  Hid (Hp [] wa wz [rB b8 99 [.int .i64 0, .int .i64 0, .int .i64 0, .int .i64 0, .int .i64 0, .int .i64 0, .int .i64 0, .int .i64 0, .int .i64 0, .int .i64 0, .int .i64 0, .int .i64 0, .int .i64 0, .int .i64 0, .int .i64 0, .int .i64 0, .int .i64 0, .int .u32 0, .slice none 0 0], rB b7 84 (kL (mkC c) (mkR c) (.slice none (([] : List PairV).length) 0)), rB b3 24 (cL c), rS none 0 4 (([] : List EntR).map entRow), rS none 0 4 (([] : List PairV).map rowOf), rS ra rc 5 (acts.map actRow)]) → QR .normal ac1 wz) : (regAt Try.f12 5).wp Try.prog QR ac0 wb := by
  refine wp_region_sq (by kernel_rfl) 175 hz (by kernel_rfl) (fun (xx : Unit) jx => nth [.agg (cA c), .bool (checkV c == 0)] jx) (fun (LL : Nat → Bool) (xx : Unit) ww => Hp [] wa ww [rB b8 99 [.int .i64 0, .int .i64 0, .int .i64 0, .int .i64 0, .int .i64 0, .int .i64 0, .int .i64 0, .int .i64 0, .int .i64 0, .int .i64 0, .int .i64 0, .int .i64 0, .int .i64 0, .int .i64 0, .int .i64 0, .int .i64 0, .int .i64 0, .int .u32 0, .slice none 0 0], rB b7 84 (kL (mkC c) (mkR c) (.slice none (([] : List PairV).length) 0)), rB b3 24 (cL c), rS none 0 4 (([] : List EntR).map entRow), rS none 0 4 (([] : List PairV).map rowOf), rS ra rc 5 (acts.map actRow)]) () H.out ?_ (steps_al ?_) ?_ ?_
  · exact fun _ _ _ _ _ h => h
  · refine al_cons ?_ (al_cons ?_ (al_nil))
    · intro LL xx ac wc sg hst hwant QQ hgo
      have H := Lib.hid hst
      refine hpA_load tyapi_Config H rfl ((sg.free 3 (by kernel_rfl)).trans so3) hwant (by (repeat (first | exact List.Mem.head _ | apply List.Mem.tail))) (by rfl) rfl ?_
      exact hgo _ () _ (fun _ _ => rfl) rfl hst
    · intro LL xx ac wc sg hst hwant QQ hgo
      have se25 : ac.eval (.tmp 25) = _ := (sg.slot 0 (sg.anc 0 rfl))
      have sg25 := gt_of se25
      (try simp only [nth] at se25 sg25)
      refine op_call hwant hgo 52 _ (by simp only [execOp]; go_simp) (goodR c wc) ?_
      rintro er wd ⟨rfl, hof⟩
      exact ⟨_, (), rfl, fun _ _ => rfl, rfl, Hp.quiet hst hof⟩
  · exact skips [] (by kernel_rfl) (fun _ h => by cases h)
  · intro xx ac1 wz hfr hsl hst
    exact hfin ac1 wz (hfr.size.trans hz) hfr.defers (fr_keep hfr [25, 26] (by kernel_rfl)) (hsl 1 (by decide)) (Lib.hid hst)
set_option maxRecDepth 20000 in
theorem exact_w_r7 (c : Cfg) (ra : Option Addr) (rc : Nat) (acts : List ActK) (b3 : Nat) (b7 : Nat) (b8 : Nat) {wa wb : World} (H : Hid (Hp [] wa wb [rB b8 99 (rkL (mkC c) (.slice none 0 0)), rB b7 84 (kL (mkC c) (mkR c) (.slice none (([] : List PairV).length) 0)), rB b3 24 (cL c), rS none 0 4 (([] : List EntR).map entRow), rS none 0 4 (([] : List PairV).map rowOf), rS ra rc 5 (acts.map actRow)])) (ac0 : Act) (hz : ac0.tmps.size = 175)  {QR : Exit → Act → World → Prop} (hfin : ∀ (ac1 : Act) (wz : World), ac1.tmps.size = 175 → ac1.defers = ac0.defers → (∀ t, ([9] : List Nat).contains t = false → ac1.eval (.tmp t) = ac0.eval (.tmp t)) → ac1.eval (.tmp 9) = .int .i64 0 →  Hid (Hp [] wa wz [rB b8 99 (rkL (mkC c) (.slice none 0 0)), rB b7 84 (kL (mkC c) (mkR c) (.slice none (([] : List PairV).length) 0)), rB b3 24 (cL c), rS none 0 4 (([] : List EntR).map entRow), rS none 0 4 (([] : List PairV).map rowOf), rS ra rc 5 (acts.map actRow)]) → QR .normal ac1 wz) : (regAt Try.f12 7).wp Try.prog QR ac0 wb := by
  refine wp_region_sq (by kernel_rfl) 175 hz (by kernel_rfl) (fun (xx : Unit) jx => nth [.int .i64 0] jx) (fun (LL : Nat → Bool) (xx : Unit) ww => Hp [] wa ww [rB b8 99 (rkL (mkC c) (.slice none 0 0)), rB b7 84 (kL (mkC c) (mkR c) (.slice none (([] : List PairV).length) 0)), rB b3 24 (cL c), rS none 0 4 (([] : List EntR).map entRow), rS none 0 4 (([] : List PairV).map rowOf), rS ra rc 5 (acts.map actRow)]) () H.out ?_ (steps_al ?_) ?_ ?_
  · exact fun _ _ _ _ _ h => h
  · refine al_cons ?_ (al_nil)
    · intro LL xx ac wc sg hst hwant QQ hgo
      exact op_val hwant hgo hst _ (exec_assign rfl rfl) rfl
  · exact skips [] (by kernel_rfl) (fun _ h => by cases h)
  · intro xx ac1 wz hfr hsl hst
    exact hfin ac1 wz (hfr.size.trans hz) hfr.defers (fr_keep hfr [9] (by kernel_rfl)) (hsl 0 (by decide)) (Lib.hid hst)
set_option maxRecDepth 20000 in
theorem exact_w_r8 (c : Cfg) (ra : Option Addr) (rc : Nat) (acts : List ActK) (b3 : Nat) (b7 : Nat) (b8 : Nat) (i : Nat) (a : Option Addr) (cc : Nat) (ps : List PairV) (la : Option Addr) (lc : Nat) (l : List EntR) (hi : i ≤ acts.length) (hi2 : i ≤ 60) {wa wb : World} (H : Hid (Hp [] wa wb [rB b8 99 (rkL (mkC c) (.slice la l.length lc)), rB b7 84 (kL (mkC c) (mkR c) (.slice a ps.length cc)), rB b3 24 (cL c), rS la lc 4 (l.map entRow), rS a cc 4 (ps.map rowOf), rS ra rc 5 (acts.map actRow)])) (ac0 : Act) (hz : ac0.tmps.size = 175) (so1 : ac0.eval (.tmp 1) = .slice ra acts.length rc) (so9 : ac0.eval (.tmp 9) = .int .i64 i) {QR : Exit → Act → World → Prop} (hfin : ∀ (ac1 : Act) (wz : World), ac1.tmps.size = 175 → ac1.defers = ac0.defers → (∀ t, ([29, 30, 31, 32, 33, 34, 35, 36] : List Nat).contains t = false → ac1.eval (.tmp t) = ac0.eval (.tmp t)) → ac1.eval (.tmp 36) = .bool ((decide (i < acts.length)) && (decide ((i : Int) < 60))) →  Hid (Hp [] wa wz [rB b8 99 (rkL (mkC c) (.slice la l.length lc)), rB b7 84 (kL (mkC c) (mkR c) (.slice a ps.length cc)), rB b3 24 (cL c), rS la lc 4 (l.map entRow), rS a cc 4 (ps.map rowOf), rS ra rc 5 (acts.map actRow)]) → QR .normal ac1 wz) : (regAt Try.f12 8).wp Try.prog QR ac0 wb := by
  refine wp_region_sq (by kernel_rfl) 175 hz (by kernel_rfl) (fun (xx : Unit) jx => nth [.int .i64 i, .slice ra acts.length rc, .int .i64 acts.length, .bool (decide (i < acts.length)), .bool (decide (i < acts.length)), bif (decide (i < acts.length)) then .int .i64 i else undef, bif (decide (i < acts.length)) then .bool (decide ((i : Int) < 60)) else undef, .bool ((decide (i < acts.length)) && (decide ((i : Int) < 60)))] jx) (fun (LL : Nat → Bool) (xx : Unit) ww => Hp [] wa ww [rB b8 99 (rkL (mkC c) (.slice la l.length lc)), rB b7 84 (kL (mkC c) (mkR c) (.slice a ps.length cc)), rB b3 24 (cL c), rS la lc 4 (l.map entRow), rS a cc 4 (ps.map rowOf), rS ra rc 5 (acts.map actRow)]) () H.out ?_ (steps_al ?_) ?_ ?_
  · exact fun _ _ _ _ _ h => h
  · refine al_cons ?_ (al_cons ?_ (al_cons ?_ (al_cons ?_ (al_cons ?_ (al_cons ?_ (al_cons ?_ (al_cons ?_ (al_nil))))))))
    · intro LL xx ac wc sg hst hwant QQ hgo
      exact op_val hwant hgo hst _ (exec_move rfl ((sg.free 9 (by kernel_rfl)).trans so9)) rfl
    · intro LL xx ac wc sg hst hwant QQ hgo
      exact op_val hwant hgo hst _ (exec_move rfl ((sg.free 1 (by kernel_rfl)).trans so1)) rfl
    · intro LL xx ac wc sg hst hwant QQ hgo
      have se30 : ac.eval (.tmp 30) = _ := (sg.slot 1 (sg.anc 1 rfl))
      have sg30 := gt_of se30
      (try simp only [nth] at se30 sg30)
      exact op_val hwant hgo hst _ (by simp only [execOp, nth]; go_simp <;> omega) rfl
    · intro LL xx ac wc sg hst hwant QQ hgo
      have se29 : ac.eval (.tmp 29) = _ := (sg.slot 0 (sg.anc 0 rfl))
      have sg29 := gt_of se29
      have se31 : ac.eval (.tmp 31) = _ := (sg.slot 2 (sg.anc 2 rfl))
      have sg31 := gt_of se31
      (try simp only [nth] at se29 sg29 se31 sg31)
      exact op_val hwant hgo hst _ (by simp only [execOp, nth]; go_simp <;> omega) rfl
    · intro LL xx ac wc sg hst hwant QQ hgo
      exact op_val hwant hgo hst _ (exec_move rfl (sg.slot 3 (sg.anc 3 rfl))) rfl
    · intro LL xx ac wc sg hst hwant QQ hgo
      have hG : (decide (i < acts.length)) = true := (want_t rfl rfl (sg.slot 4 (sg.anc 4 rfl))).symm.trans hwant
      exact op_val hwant hgo hst _ (exec_move rfl ((sg.free 9 (by kernel_rfl)).trans so9)) (cI hG)
    · intro LL xx ac wc sg hst hwant QQ hgo
      have hG : (decide (i < acts.length)) = true := (want_t rfl rfl (sg.slot 4 (sg.anc 4 rfl))).symm.trans hwant
      have se34 : ac.eval (.tmp 34) = _ := (cT (sg.slot 5 (sg.anc 5 rfl)) hG)
      have sg34 := gt_of se34
      (try simp only [nth] at se34 sg34)
      exact op_val hwant hgo hst _ (by simp only [execOp, nth]; go_simp <;> omega) (cI hG)
    · intro LL xx ac wc sg hst hwant QQ hgo
      exact op_val hwant hgo hst (.bool ((decide (i < acts.length)) && (decide ((i : Int) < 60)))) (exec_and (Y := decide ((i : Int) < 60)) rfl (sg.slot 4 (sg.anc 4 rfl)) (fun qq => cT (sg.slot 6 (sg.anc 6 rfl)) qq)) rfl
  · refine skips [5, 6] (by kernel_rfl) ?_
    refine List.forall_mem_cons.2 ⟨?_, List.forall_mem_cons.2 ⟨?_, fun _ h => by cases h⟩⟩
    · intro oo hop LL xx ac sg hwant
      cases Option.some.inj hop
      have hG : (decide (i < acts.length)) = false := (want_t rfl rfl (sg.slot 4 (sg.anc 4 rfl))).symm.trans hwant
      exact ⟨cF hG, fun _ h => h⟩
    · intro oo hop LL xx ac sg hwant
      cases Option.some.inj hop
      have hG : (decide (i < acts.length)) = false := (want_t rfl rfl (sg.slot 4 (sg.anc 4 rfl))).symm.trans hwant
      exact ⟨cF hG, fun _ h => h⟩
  · intro xx ac1 wz hfr hsl hst
    exact hfin ac1 wz (hfr.size.trans hz) hfr.defers (fr_keep hfr [29, 30, 31, 32, 33, 34, 35, 36] (by kernel_rfl)) (hsl 7 (by decide)) (Lib.hid hst)
set_option maxRecDepth 20000 in
theorem exact_w_r10 (c : Cfg) (rc : Nat) (acts : List ActK) (b3 : Nat) (b7 : Nat) (b8 : Nat) (i : Nat) (a : Option Addr) (cc : Nat) (ps : List PairV) (la : Option Addr) (lc : Nat) (l : List EntR) (hi : i ≤ acts.length) (hi2 : i ≤ 60) (z1ld : i < acts.length) (z1rd : (i : Int) < 60) (y : Addr) (x : ActK) (HR : Hid ((acts.map actRow)[i]? = some [.int .i64 x.kind, .int .i64 x.now, .int .i64 x.who, .int .u64 x.key, .string x.body])) (hk0 : 0 ≤ x.key) (hk1 : x.key ≤ 18446744073709551615) (hxn : x.now ≤ 9223372036854775807) {wa wb : World} (H : Hid (Hp [] wa wb [rB b8 99 (rkL (mkC c) (.slice la l.length lc)), rB b7 84 (kL (mkC c) (mkR c) (.slice a ps.length cc)), rB b3 24 (cL c), rS la lc 4 (l.map entRow), rS a cc 4 (ps.map rowOf), rS (some y) rc 5 (acts.map actRow)])) (ac0 : Act) (hz : ac0.tmps.size = 175) (so1 : ac0.eval (.tmp 1) = .slice (some y) acts.length rc) (so9 : ac0.eval (.tmp 9) = .int .i64 i) {QR : Exit → Act → World → Prop} (hfin : ∀ (b10 : Nat) (ac1 : Act) (wz : World), ac1.tmps.size = 175 → ac1.defers = ac0.defers → (∀ t, ([10, 39, 40, 41, 42] : List Nat).contains t = false → ac1.eval (.tmp t) = ac0.eval (.tmp t)) → ac1.eval (.tmp 10) = .pointer (some ⟨b10, 0, none⟩) →  Hid (Hp [] wa wz [rB b10 87 [.int .i64 x.kind, .int .i64 x.now, .int .i64 x.who, .int .u64 x.key, .string x.body], rB b8 99 (rkL (mkC c) (.slice la l.length lc)), rB b7 84 (kL (mkC c) (mkR c) (.slice a ps.length cc)), rB b3 24 (cL c), rS la lc 4 (l.map entRow), rS a cc 4 (ps.map rowOf), rS (some y) rc 5 (acts.map actRow)]) → QR .normal ac1 wz) : (regAt Try.f12 10).wp Try.prog QR ac0 wb := by
  refine wp_region_sq (by kernel_rfl) 175 hz (by kernel_rfl) (fun (xx : Nat) jx => match xx with | b10 => nth [.slice (some y) acts.length rc, .int .i64 i, .pointer (some (y.add (i * 5))), .agg #[.int .i64 x.kind, .int .i64 x.now, .int .i64 x.who, .int .u64 x.key, .string x.body], .pointer (some ⟨b10, 0, none⟩), undef] jx) (fun (LL : Nat → Bool) (xx : Nat) ww => match xx with | b10 => Hp [] wa ww (bif LL 5 then [rB b10 87 [.int .i64 x.kind, .int .i64 x.now, .int .i64 x.who, .int .u64 x.key, .string x.body], rB b8 99 (rkL (mkC c) (.slice la l.length lc)), rB b7 84 (kL (mkC c) (mkR c) (.slice a ps.length cc)), rB b3 24 (cL c), rS la lc 4 (l.map entRow), rS a cc 4 (ps.map rowOf), rS (some y) rc 5 (acts.map actRow)] else (bif LL 4 then [rB b10 87 [.int .i64 0, .int .i64 0, .int .i64 0, .int .u64 0, .string (⟨#[]⟩ : ByteArray)], rB b8 99 (rkL (mkC c) (.slice la l.length lc)), rB b7 84 (kL (mkC c) (mkR c) (.slice a ps.length cc)), rB b3 24 (cL c), rS la lc 4 (l.map entRow), rS a cc 4 (ps.map rowOf), rS (some y) rc 5 (acts.map actRow)] else [rB b8 99 (rkL (mkC c) (.slice la l.length lc)), rB b7 84 (kL (mkC c) (mkR c) (.slice a ps.length cc)), rB b3 24 (cL c), rS la lc 4 (l.map entRow), rS a cc 4 (ps.map rowOf), rS (some y) rc 5 (acts.map actRow)]))) default H.out ?_ (steps_al ?_) ?_ ?_
  · intro L1 L2 xx ww hL sg
    have lh4 := hL 4 (by decide)
    have lh5 := hL 5 (by decide)
    simp only [lh4, lh5] at sg
    exact sg
  · refine al_cons ?_ (al_cons ?_ (al_cons ?_ (al_cons ?_ (al_cons ?_ (al_cons ?_ (al_nil))))))
    · intro LL xx ac wc sg hst hwant QQ hgo
      revert sg hst hgo; revert xx; intro b10 sg hst hgo
      exact op_val hwant hgo hst _ (exec_move rfl ((sg.free 1 (by kernel_rfl)).trans so1)) rfl
    · intro LL xx ac wc sg hst hwant QQ hgo
      revert sg hst hgo; revert xx; intro b10 sg hst hgo
      exact op_val hwant hgo hst _ (exec_move rfl ((sg.free 9 (by kernel_rfl)).trans so9)) rfl
    · intro LL xx ac wc sg hst hwant QQ hgo
      revert sg hst hgo; revert xx; intro b10 sg hst hgo
      have se39 : ac.eval (.tmp 39) = _ := (sg.slot 0 (sg.anc 0 rfl))
      have sg39 := gt_of se39
      have se40 : ac.eval (.tmp 40) = _ := (sg.slot 1 (sg.anc 1 rfl))
      have sg40 := gt_of se40
      (try simp only [nth] at se39 sg39 se40 sg40)
      exact op_val hwant hgo hst _ (by simp only [execOp, nth]; go_simp <;> omega) rfl
    · intro LL xx ac wc sg hst hwant QQ hgo
      revert sg hst hgo; revert xx; intro b10 sg hst hgo
      have H := Lib.hid hst
      simp only [sg.des 4 rfl, sg.des 5 rfl, cond_true, cond_false] at H
      refine hpS_load tyhoistwaylaw10_Act H rfl (sg.slot 2 (sg.anc 2 rfl)) hwant (by (repeat (first | exact List.Mem.head _ | apply List.Mem.tail))) HR.out rfl ?_
      exact hgo _ b10 _ (fun _ _ => rfl) rfl hst
    · intro LL xx ac wc sg hst hwant QQ hgo
      revert sg hst hgo; revert xx; intro xold sg hst hgo
      have H := Lib.hid hst
      simp only [sg.self, sg.des 5 rfl, cond_true, cond_false] at H
      refine hpA_alloc tyhoistwaylaw10_Act H rfl rfl ?_
      intro wd b10 H2
      exact hgo _ b10 _ (sg.agree (x' := b10) (n := 6) rfl (by (iterate 6 (refine ix_cons (by first | exact fun _ => rfl | exact no sg.self | exact no (sg.des _ rfl)) ?_)); exact ix_nil)) rfl (by simp only [(show upd LL 4 4 = true from rfl), (show upd LL 4 5 = LL 5 from rfl), sg.des 5 rfl, cond_true, cond_false]; exact H2.out)
    · intro LL xx ac wc sg hst hwant QQ hgo
      revert sg hst hgo; revert xx; intro b10 sg hst hgo
      have H := Lib.hid hst
      simp only [sg.anc 4 rfl, sg.self, cond_true, cond_false] at H
      refine hpA_store tyhoistwaylaw10_Act H rfl rfl (sg.slot 4 (sg.anc 4 rfl)) (sg.slot 3 (sg.anc 3 rfl)) rfl (by repeat (first | apply Put.head | apply Put.tail)) (by simp [kA, kL, rkA, rkL, cA, cL]) (by simp [kA, kL, rkA, rkL, cA, cL, Value.oneCell']) (by first | rfl | (simp only [spl]; rfl)) rfl ?_
      intro wd H2
      exact hgo _ b10 _ (sg.agree (x' := b10) (n := 6) rfl (by (iterate 6 (refine ix_cons (by first | exact fun _ => rfl | exact no sg.self | exact no (sg.des _ rfl)) ?_)); exact ix_nil)) rfl (by simp only [(show upd LL 5 4 = LL 4 from rfl), sg.anc 4 rfl, (show upd LL 5 5 = true from rfl), cond_true, cond_false]; exact H2.out)
  · exact skips [] (by kernel_rfl) (fun _ h => by cases h)
  · intro xx ac1 wz hfr hsl hst
    revert hsl hst; revert xx; intro b10 hsl hst
    exact hfin b10 ac1 wz (hfr.size.trans hz) hfr.defers (fr_keep hfr [10, 39, 40, 41, 42] (by kernel_rfl)) (hsl 4 (by decide)) (Lib.hid hst)
set_option maxRecDepth 20000 in
theorem exact_w_r11 (c : Cfg) (rc : Nat) (acts : List ActK) (b3 : Nat) (b7 : Nat) (b8 : Nat) (i : Nat) (a : Option Addr) (cc : Nat) (ps : List PairV) (la : Option Addr) (lc : Nat) (l : List EntR) (hi : i ≤ acts.length) (hi2 : i ≤ 60) (z1ld : i < acts.length) (z1rd : (i : Int) < 60) (y : Addr) (x : ActK) (hk0 : 0 ≤ x.key) (hk1 : x.key ≤ 18446744073709551615) (hxn : x.now ≤ 9223372036854775807) (b10 : Nat) {wa wb : World} (H : Hid (Hp [] wa wb [rB b10 87 [.int .i64 x.kind, .int .i64 x.now, .int .i64 x.who, .int .u64 x.key, .string x.body], rB b8 99 (rkL (mkC c) (.slice la l.length lc)), rB b7 84 (kL (mkC c) (mkR c) (.slice a ps.length cc)), rB b3 24 (cL c), rS la lc 4 (l.map entRow), rS a cc 4 (ps.map rowOf), rS (some y) rc 5 (acts.map actRow)])) (ac0 : Act) (hz : ac0.tmps.size = 175) (so10 : ac0.eval (.tmp 10) = .pointer (some ⟨b10, 0, none⟩)) {QR : Exit → Act → World → Prop} (hfin : ∀ (ac1 : Act) (wz : World), ac1.tmps.size = 175 → ac1.defers = ac0.defers → (∀ t, ([43, 44, 45, 46] : List Nat).contains t = false → ac1.eval (.tmp t) = ac0.eval (.tmp t)) → ac1.eval (.tmp 46) = .bool (decide (40 < (x.body.size : Int))) →  Hid (Hp [] wa wz [rB b10 87 [.int .i64 x.kind, .int .i64 x.now, .int .i64 x.who, .int .u64 x.key, .string x.body], rB b8 99 (rkL (mkC c) (.slice la l.length lc)), rB b7 84 (kL (mkC c) (mkR c) (.slice a ps.length cc)), rB b3 24 (cL c), rS la lc 4 (l.map entRow), rS a cc 4 (ps.map rowOf), rS (some y) rc 5 (acts.map actRow)]) → QR .normal ac1 wz) : (regAt Try.f12 11).wp Try.prog QR ac0 wb := by
  refine wp_region_sq (by kernel_rfl) 175 hz (by kernel_rfl) (fun (xx : Unit) jx => nth [.pointer (some ⟨b10, 4, none⟩), .string x.body, .int .i64 x.body.size, .bool (decide (40 < (x.body.size : Int)))] jx) (fun (LL : Nat → Bool) (xx : Unit) ww => Hp [] wa ww [rB b10 87 [.int .i64 x.kind, .int .i64 x.now, .int .i64 x.who, .int .u64 x.key, .string x.body], rB b8 99 (rkL (mkC c) (.slice la l.length lc)), rB b7 84 (kL (mkC c) (mkR c) (.slice a ps.length cc)), rB b3 24 (cL c), rS la lc 4 (l.map entRow), rS a cc 4 (ps.map rowOf), rS (some y) rc 5 (acts.map actRow)]) () H.out ?_ (steps_al ?_) ?_ ?_
  · exact fun _ _ _ _ _ h => h
  · refine al_cons ?_ (al_cons ?_ (al_cons ?_ (al_cons ?_ (al_nil))))
    · intro LL xx ac wc sg hst hwant QQ hgo
      have se10 : ac.eval (.tmp 10) = _ := ((sg.free 10 (by kernel_rfl)).trans so10)
      have sg10 := gt_of se10
      exact op_val hwant hgo hst _ (by simp only [execOp, nth]; go_simp <;> omega) rfl
    · intro LL xx ac wc sg hst hwant QQ hgo
      have H := Lib.hid hst
      refine hpA_load1 tystring H rfl (sg.slot 0 (sg.anc 0 rfl)) hwant (by (repeat (first | exact List.Mem.head _ | apply List.Mem.tail))) (by rfl) ?_
      exact hgo _ () _ (fun _ _ => rfl) rfl hst
    · intro LL xx ac wc sg hst hwant QQ hgo
      have se44 : ac.eval (.tmp 44) = _ := (sg.slot 1 (sg.anc 1 rfl))
      have sg44 := gt_of se44
      (try simp only [nth] at se44 sg44)
      exact op_val hwant hgo hst _ (by simp only [execOp, nth]; go_simp <;> omega) rfl
    · intro LL xx ac wc sg hst hwant QQ hgo
      have se45 : ac.eval (.tmp 45) = _ := (sg.slot 2 (sg.anc 2 rfl))
      have sg45 := gt_of se45
      (try simp only [nth] at se45 sg45)
      exact op_val hwant hgo hst _ (by simp only [execOp, nth]; go_simp <;> omega) rfl
  · exact skips [] (by kernel_rfl) (fun _ h => by cases h)
  · intro xx ac1 wz hfr hsl hst
    exact hfin ac1 wz (hfr.size.trans hz) hfr.defers (fr_keep hfr [43, 44, 45, 46] (by kernel_rfl)) (hsl 3 (by decide)) (Lib.hid hst)
set_option maxRecDepth 20000 in
theorem exact_w_r12 (c : Cfg) (rc : Nat) (acts : List ActK) (b3 : Nat) (b7 : Nat) (b8 : Nat) (i : Nat) (a : Option Addr) (cc : Nat) (ps : List PairV) (la : Option Addr) (lc : Nat) (l : List EntR) (hi : i ≤ acts.length) (hi2 : i ≤ 60) (z1ld : i < acts.length) (z1rd : (i : Int) < 60) (y : Addr) (x : ActK) (hk0 : 0 ≤ x.key) (hk1 : x.key ≤ 18446744073709551615) (hxn : x.now ≤ 9223372036854775807) (b10 : Nat) (z2d : 40 < (x.body.size : Int)) {wa wb : World} (H : Hid (Hp [] wa wb [rB b10 87 [.int .i64 x.kind, .int .i64 x.now, .int .i64 x.who, .int .u64 x.key, .string x.body], rB b8 99 (rkL (mkC c) (.slice la l.length lc)), rB b7 84 (kL (mkC c) (mkR c) (.slice a ps.length cc)), rB b3 24 (cL c), rS la lc 4 (l.map entRow), rS a cc 4 (ps.map rowOf), rS (some y) rc 5 (acts.map actRow)])) (ac0 : Act) (hz : ac0.tmps.size = 175)  {QR : Exit → Act → World → Prop} (hfin : ∀ (ac1 : Act) (wz : World), ac1.tmps.size = 175 → ac1.defers = ac0.defers → (∀ t, ([6] : List Nat).contains t = false → ac1.eval (.tmp t) = ac0.eval (.tmp t)) → ac1.eval (.tmp 6) = .bool true →  Hid (Hp [] wa wz [rB b10 87 [.int .i64 x.kind, .int .i64 x.now, .int .i64 x.who, .int .u64 x.key, .string x.body], rB b8 99 (rkL (mkC c) (.slice la l.length lc)), rB b7 84 (kL (mkC c) (mkR c) (.slice a ps.length cc)), rB b3 24 (cL c), rS la lc 4 (l.map entRow), rS a cc 4 (ps.map rowOf), rS (some y) rc 5 (acts.map actRow)]) → QR .normal ac1 wz) : (regAt Try.f12 12).wp Try.prog QR ac0 wb := by
  refine wp_region_sq (by kernel_rfl) 175 hz (by kernel_rfl) (fun (xx : Unit) jx => nth [.bool true] jx) (fun (LL : Nat → Bool) (xx : Unit) ww => Hp [] wa ww [rB b10 87 [.int .i64 x.kind, .int .i64 x.now, .int .i64 x.who, .int .u64 x.key, .string x.body], rB b8 99 (rkL (mkC c) (.slice la l.length lc)), rB b7 84 (kL (mkC c) (mkR c) (.slice a ps.length cc)), rB b3 24 (cL c), rS la lc 4 (l.map entRow), rS a cc 4 (ps.map rowOf), rS (some y) rc 5 (acts.map actRow)]) () H.out ?_ (steps_al ?_) ?_ ?_
  · exact fun _ _ _ _ _ h => h
  · refine al_cons ?_ (al_nil)
    · intro LL xx ac wc sg hst hwant QQ hgo
      exact op_val hwant hgo hst _ (exec_assign rfl rfl) rfl
  · exact skips [] (by kernel_rfl) (fun _ h => by cases h)
  · intro xx ac1 wz hfr hsl hst
    exact hfin ac1 wz (hfr.size.trans hz) hfr.defers (fr_keep hfr [6] (by kernel_rfl)) (hsl 0 (by decide)) (Lib.hid hst)
set_option maxRecDepth 20000 in
theorem exact_w_r13 (c : Cfg) (rc : Nat) (acts : List ActK) (b3 : Nat) (b7 : Nat) (b8 : Nat) (i : Nat) (a : Option Addr) (cc : Nat) (ps : List PairV) (la : Option Addr) (lc : Nat) (l : List EntR) (hi : i ≤ acts.length) (hi2 : i ≤ 60) (z1ld : i < acts.length) (z1rd : (i : Int) < 60) (y : Addr) (x : ActK) (hk0 : 0 ≤ x.key) (hk1 : x.key ≤ 18446744073709551615) (hxn : x.now ≤ 9223372036854775807) (b10 : Nat) (z2d : ¬ (40 < (x.body.size : Int))) {wa wb : World} (H : Hid (Hp [] wa wb [rB b10 87 [.int .i64 x.kind, .int .i64 x.now, .int .i64 x.who, .int .u64 x.key, .string x.body], rB b8 99 (rkL (mkC c) (.slice la l.length lc)), rB b7 84 (kL (mkC c) (mkR c) (.slice a ps.length cc)), rB b3 24 (cL c), rS la lc 4 (l.map entRow), rS a cc 4 (ps.map rowOf), rS (some y) rc 5 (acts.map actRow)])) (ac0 : Act) (hz : ac0.tmps.size = 175) (so3 : ac0.eval (.tmp 3) = .pointer (some ⟨b3, 0, none⟩)) (so10 : ac0.eval (.tmp 10) = .pointer (some ⟨b10, 0, none⟩)) {QR : Exit → Act → World → Prop} (hfin : ∀ (ac1 : Act) (wz : World), ac1.tmps.size = 175 → ac1.defers = ac0.defers → (∀ t, ([47, 48, 49, 50, 51, 52, 53, 54, 55, 56, 57, 58, 59, 60, 61, 62, 63, 64, 65, 66, 67, 68] : List Nat).contains t = false → ac1.eval (.tmp t) = ac0.eval (.tmp t)) → ac1.eval (.tmp 68) = .bool (!((isGoodV c x.key x.now) == (goodRV c x.key x.now))) →  Hid (Hp [] wa wz [rB b10 87 [.int .i64 x.kind, .int .i64 x.now, .int .i64 x.who, .int .u64 x.key, .string x.body], rB b8 99 (rkL (mkC c) (.slice la l.length lc)), rB b7 84 (kL (mkC c) (mkR c) (.slice a ps.length cc)), rB b3 24 (cL c), rS la lc 4 (l.map entRow), rS a cc 4 (ps.map rowOf), rS (some y) rc 5 (acts.map actRow)]) → QR .normal ac1 wz) : (regAt Try.f12 13).wp Try.prog QR ac0 wb := by
  refine wp_region_st mixedP ⟨[0, 0, 1, 0, 1, 2, 0, 0, 1, 0, 1, 3, 4, 5, 6, 7, 8, 6, 7, 9, 10, 11], by kernel_rfl⟩ [[], [], [1], [], [3], [0, 1, 2, 3, 4], [], [], [7], [], [9], [0, 1, 2, 3, 4, 5, 6, 7, 8, 9, 10], [0, 1, 2, 3, 4, 5, 6, 7, 8, 9, 10, 11], [0, 1, 2, 3, 4, 5, 6, 7, 8, 9, 10, 11, 12], [0, 1, 2, 3, 4, 5, 6, 7, 8, 9, 10, 11, 12, 13], [0, 1, 2, 3, 4, 5, 6, 7, 8, 9, 10, 11, 12, 13, 14], [0, 1, 2, 3, 4, 5, 6, 7, 8, 9, 10, 11, 12, 13, 14, 15], [0, 1, 2, 3, 4, 5, 6, 7, 8, 9, 10, 11, 12, 13], [0, 1, 2, 3, 4, 5, 6, 7, 8, 9, 10, 11, 12, 13, 17], [0, 1, 2, 3, 4, 5, 6, 7, 8, 9, 10, 11, 12, 13, 14, 15, 16, 17, 18], [0, 1, 2, 3, 4, 5, 6, 7, 8, 9, 10, 11, 12, 13, 14, 15, 16, 17, 18, 19], [0, 1, 2, 3, 4, 5, 6, 7, 8, 9, 10, 11, 12, 13, 14, 15, 16, 17, 18, 19, 20]] (by kernel_rfl) (by kernel_rfl) 175 hz (by kernel_rfl) (fun (xx : Unit) jx => nth [.agg (cA c), .pointer (some ⟨b10, 3, none⟩), .int .u64 x.key, .pointer (some ⟨b10, 1, none⟩), .int .i64 x.now, .bool (isGoodV c x.key x.now), .agg (cA c), .pointer (some ⟨b10, 3, none⟩), .int .u64 x.key, .pointer (some ⟨b10, 1, none⟩), .int .i64 x.now, .bool (goodRV c x.key x.now), .bool (!((isGoodV c x.key x.now) == (goodRV c x.key x.now))), .bool (!((isGoodV c x.key x.now) == (goodRV c x.key x.now))), bif !(!((isGoodV c x.key x.now) == (goodRV c x.key x.now))) then .pointer (some ⟨b10, 3, none⟩) else undef, bif !(!((isGoodV c x.key x.now) == (goodRV c x.key x.now))) then .int .u64 x.key else undef, bif !(!((isGoodV c x.key x.now) == (goodRV c x.key x.now))) then .int .i64 (x.key / 4294967296) else undef, bif !(!((isGoodV c x.key x.now) == (goodRV c x.key x.now))) then .pointer (some ⟨b10, 3, none⟩) else undef, bif !(!((isGoodV c x.key x.now) == (goodRV c x.key x.now))) then .int .u64 x.key else undef, bif !(!((isGoodV c x.key x.now) == (goodRV c x.key x.now))) then .int .i64 (x.key / 4294967296) else undef, bif !(!((isGoodV c x.key x.now) == (goodRV c x.key x.now))) then .bool false else undef, .bool (!((isGoodV c x.key x.now) == (goodRV c x.key x.now)))] jx) (fun (LL : Nat → Bool) (xx : Unit) ww => Hp [] wa ww [rB b10 87 [.int .i64 x.kind, .int .i64 x.now, .int .i64 x.who, .int .u64 x.key, .string x.body], rB b8 99 (rkL (mkC c) (.slice la l.length lc)), rB b7 84 (kL (mkC c) (mkR c) (.slice a ps.length cc)), rB b3 24 (cL c), rS la lc 4 (l.map entRow), rS a cc 4 (ps.map rowOf), rS (some y) rc 5 (acts.map actRow)]) () H.out.drew ?_ (steps_al ?_) ?_ ?_
  · exact fun _ _ _ _ _ h => h
  · refine al_cons ?_ (al_cons ?_ (al_cons ?_ (al_cons ?_ (al_cons ?_ (al_cons ?_ (al_cons ?_ (al_cons ?_ (al_cons ?_ (al_cons ?_ (al_cons ?_ (al_cons ?_ (al_cons ?_ (al_cons ?_ (al_cons ?_ (al_cons ?_ (al_cons ?_ (al_cons ?_ (al_cons ?_ (al_cons ?_ (al_cons ?_ (al_cons ?_ (al_nil))))))))))))))))))))))
    · intro LL xx ac wc sg hst hwant QQ hgo
      have H := Lib.hid hst
      refine hpA_load tyapi_Config H rfl ((sg.free 3 (by kernel_rfl)).trans so3) hwant (by (repeat (first | exact List.Mem.head _ | apply List.Mem.tail))) (by rfl) rfl ?_
      exact hgo _ () _ (fun _ _ => rfl) rfl hst
    · intro LL xx ac wc sg hst hwant QQ hgo
      have se10 : ac.eval (.tmp 10) = _ := ((sg.free 10 (by kernel_rfl)).trans so10)
      have sg10 := gt_of se10
      exact op_val hwant hgo hst _ (by simp only [execOp, nth]; go_simp <;> omega) rfl
    · intro LL xx ac wc sg hst hwant QQ hgo
      have H := Lib.hid hst
      refine hpA_load1 tyuint64 H rfl (sg.slot 1 (sg.anc 1 rfl)) hwant (by (repeat (first | exact List.Mem.head _ | apply List.Mem.tail))) (by rfl) ?_
      exact hgo _ () _ (fun _ _ => rfl) rfl hst
    · intro LL xx ac wc sg hst hwant QQ hgo
      have se10 : ac.eval (.tmp 10) = _ := ((sg.free 10 (by kernel_rfl)).trans so10)
      have sg10 := gt_of se10
      exact op_val hwant hgo hst _ (by simp only [execOp, nth]; go_simp <;> omega) rfl
    · intro LL xx ac wc sg hst hwant QQ hgo
      have H := Lib.hid hst
      refine hpA_load1 tyint H rfl (sg.slot 3 (sg.anc 3 rfl)) hwant (by (repeat (first | exact List.Mem.head _ | apply List.Mem.tail))) (by rfl) ?_
      exact hgo _ () _ (fun _ _ => rfl) rfl hst
    · intro LL xx ac wc sg hst hwant QQ hgo
      have se47 : ac.eval (.tmp 47) = _ := (sg.slot 0 (sg.anc 0 rfl))
      have sg47 := gt_of se47
      have se49 : ac.eval (.tmp 49) = _ := (sg.slot 2 (sg.anc 2 rfl))
      have sg49 := gt_of se49
      have se51 : ac.eval (.tmp 51) = _ := (sg.slot 4 (sg.anc 4 rfl))
      have sg51 := gt_of se51
      (try simp only [nth] at se47 sg47 se49 sg49 se51 sg51)
      refine op_call hwant hgo 49 _ (by simp only [execOp]; go_simp) (isGoodC c x.key x.now wc hk0 hk1) ?_
      rintro er wd ⟨rfl, hof⟩
      exact ⟨_, (), rfl, fun _ _ => rfl, rfl, Hp.quiet hst hof⟩
    · intro LL xx ac wc sg hst hwant QQ hgo
      have H := Lib.hid hst
      refine hpA_load tyapi_Config H rfl ((sg.free 3 (by kernel_rfl)).trans so3) hwant (by (repeat (first | exact List.Mem.head _ | apply List.Mem.tail))) (by rfl) rfl ?_
      exact hgo _ () _ (fun _ _ => rfl) rfl hst
    · intro LL xx ac wc sg hst hwant QQ hgo
      have se10 : ac.eval (.tmp 10) = _ := ((sg.free 10 (by kernel_rfl)).trans so10)
      have sg10 := gt_of se10
      exact op_val hwant hgo hst _ (by simp only [execOp, nth]; go_simp <;> omega) rfl
    · intro LL xx ac wc sg hst hwant QQ hgo
      have H := Lib.hid hst
      refine hpA_load1 tyuint64 H rfl (sg.slot 7 (sg.anc 7 rfl)) hwant (by (repeat (first | exact List.Mem.head _ | apply List.Mem.tail))) (by rfl) ?_
      exact hgo _ () _ (fun _ _ => rfl) rfl hst
    · intro LL xx ac wc sg hst hwant QQ hgo
      have se10 : ac.eval (.tmp 10) = _ := ((sg.free 10 (by kernel_rfl)).trans so10)
      have sg10 := gt_of se10
      exact op_val hwant hgo hst _ (by simp only [execOp, nth]; go_simp <;> omega) rfl
    · intro LL xx ac wc sg hst hwant QQ hgo
      have H := Lib.hid hst
      refine hpA_load1 tyint H rfl (sg.slot 9 (sg.anc 9 rfl)) hwant (by (repeat (first | exact List.Mem.head _ | apply List.Mem.tail))) (by rfl) ?_
      exact hgo _ () _ (fun _ _ => rfl) rfl hst
    · intro LL xx ac wc sg hst hwant QQ hgo
      have se53 : ac.eval (.tmp 53) = _ := (sg.slot 6 (sg.anc 6 rfl))
      have sg53 := gt_of se53
      have se55 : ac.eval (.tmp 55) = _ := (sg.slot 8 (sg.anc 8 rfl))
      have sg55 := gt_of se55
      have se57 : ac.eval (.tmp 57) = _ := (sg.slot 10 (sg.anc 10 rfl))
      have sg57 := gt_of se57
      (try simp only [nth] at se53 sg53 se55 sg55 se57 sg57)
      refine op_call hwant hgo 53 _ (by simp only [execOp]; go_simp) (goodR10 c x.key x.now wc hk0 hk1) ?_
      rintro er wd ⟨rfl, hof⟩
      exact ⟨_, (), rfl, fun _ _ => rfl, rfl, Hp.quiet hst hof⟩
    · intro LL xx ac wc sg hst hwant QQ hgo
      have se52 : ac.eval (.tmp 52) = _ := (sg.slot 5 (sg.anc 5 rfl))
      have sg52 := gt_of se52
      have se58 : ac.eval (.tmp 58) = _ := (sg.slot 11 (sg.anc 11 rfl))
      have sg58 := gt_of se58
      (try simp only [nth] at se52 sg52 se58 sg58)
      exact op_val hwant hgo hst _ (by simp only [execOp, nth]; go_simp <;> omega) rfl
    · intro LL xx ac wc sg hst hwant QQ hgo
      exact op_val hwant hgo hst _ (exec_move rfl (sg.slot 12 (sg.anc 12 rfl))) rfl
    · intro LL xx ac wc sg hst hwant QQ hgo
      have hG : (!(!((isGoodV c x.key x.now) == (goodRV c x.key x.now)))) = true := (want_f rfl rfl (sg.slot 13 (sg.anc 13 rfl))).symm.trans hwant
      have se10 : ac.eval (.tmp 10) = _ := ((sg.free 10 (by kernel_rfl)).trans so10)
      have sg10 := gt_of se10
      exact op_val hwant hgo hst _ (by simp only [execOp, nth]; go_simp <;> omega) (cI hG)
    · intro LL xx ac wc sg hst hwant QQ hgo
      have hG : (!(!((isGoodV c x.key x.now) == (goodRV c x.key x.now)))) = true := (want_f rfl rfl (sg.slot 13 (sg.anc 13 rfl))).symm.trans hwant
      have H := Lib.hid hst
      refine hpA_load1 tyuint64 H rfl (cT (sg.slot 14 (sg.anc 14 rfl)) hG) hwant (by (repeat (first | exact List.Mem.head _ | apply List.Mem.tail))) (by rfl) ?_
      exact hgo _ () _ (fun _ _ => rfl) (cI hG) hst
    · intro LL xx ac wc sg hst hwant QQ hgo
      have hG : (!(!((isGoodV c x.key x.now) == (goodRV c x.key x.now)))) = true := (want_f rfl rfl (sg.slot 13 (sg.anc 13 rfl))).symm.trans hwant
      have se62 : ac.eval (.tmp 62) = _ := (cT (sg.slot 15 (sg.anc 15 rfl)) hG)
      have sg62 := gt_of se62
      (try simp only [nth] at se62 sg62)
      refine op_call hwant hgo 46 _ (by simp only [execOp]; go_simp) (stampC x.key wc hk0 hk1) ?_
      rintro er wd ⟨rfl, hof⟩
      exact ⟨_, (), rfl, fun _ _ => rfl, (cI hG), Hp.quiet hst hof⟩
    · intro LL xx ac wc sg hst hwant QQ hgo
      have hG : (!(!((isGoodV c x.key x.now) == (goodRV c x.key x.now)))) = true := (want_f rfl rfl (sg.slot 13 (sg.anc 13 rfl))).symm.trans hwant
      have se10 : ac.eval (.tmp 10) = _ := ((sg.free 10 (by kernel_rfl)).trans so10)
      have sg10 := gt_of se10
      exact op_val hwant hgo hst _ (by simp only [execOp, nth]; go_simp <;> omega) (cI hG)
    · intro LL xx ac wc sg hst hwant QQ hgo
      have hG : (!(!((isGoodV c x.key x.now) == (goodRV c x.key x.now)))) = true := (want_f rfl rfl (sg.slot 13 (sg.anc 13 rfl))).symm.trans hwant
      have H := Lib.hid hst
      refine hpA_load1 tyuint64 H rfl (cT (sg.slot 17 (sg.anc 17 rfl)) hG) hwant (by (repeat (first | exact List.Mem.head _ | apply List.Mem.tail))) (by rfl) ?_
      exact hgo _ () _ (fun _ _ => rfl) (cI hG) hst
    · intro LL xx ac wc sg hst hwant QQ hgo
      have hG : (!(!((isGoodV c x.key x.now) == (goodRV c x.key x.now)))) = true := (want_f rfl rfl (sg.slot 13 (sg.anc 13 rfl))).symm.trans hwant
      have se65 : ac.eval (.tmp 65) = _ := (cT (sg.slot 18 (sg.anc 18 rfl)) hG)
      have sg65 := gt_of se65
      (try simp only [nth] at se65 sg65)
      refine op_call hwant hgo 54 _ (by simp only [execOp]; go_simp) (stampR x.key wc hk0 hk1) ?_
      rintro er wd ⟨rfl, hof⟩
      exact ⟨_, (), rfl, fun _ _ => rfl, (cI hG), Hp.quiet hst hof⟩
    · intro LL xx ac wc sg hst hwant QQ hgo
      have hG : (!(!((isGoodV c x.key x.now) == (goodRV c x.key x.now)))) = true := (want_f rfl rfl (sg.slot 13 (sg.anc 13 rfl))).symm.trans hwant
      have se63 : ac.eval (.tmp 63) = _ := (cT (sg.slot 16 (sg.anc 16 rfl)) hG)
      have sg63 := gt_of se63
      have se66 : ac.eval (.tmp 66) = _ := (cT (sg.slot 19 (sg.anc 19 rfl)) hG)
      have sg66 := gt_of se66
      (try simp only [nth] at se63 sg63 se66 sg66)
      exact op_val hwant hgo hst _ (by simp only [execOp, nth]; go_simp <;> omega) (cI hG)
    · intro LL xx ac wc sg hst hwant QQ hgo
      exact op_val hwant hgo hst (.bool ((!((isGoodV c x.key x.now) == (goodRV c x.key x.now))) || false)) (exec_or (Y := false) rfl (sg.slot 13 (sg.anc 13 rfl)) (fun qq => cT (sg.slot 20 (sg.anc 20 rfl)) (bk qq))) (congrArg Value.bool (by first | assumption | (simp; done)))
  · refine skips [14, 15, 16, 17, 18, 19, 20] (by kernel_rfl) ?_
    refine List.forall_mem_cons.2 ⟨?_, List.forall_mem_cons.2 ⟨?_, List.forall_mem_cons.2 ⟨?_, List.forall_mem_cons.2 ⟨?_, List.forall_mem_cons.2 ⟨?_, List.forall_mem_cons.2 ⟨?_, List.forall_mem_cons.2 ⟨?_, fun _ h => by cases h⟩⟩⟩⟩⟩⟩⟩
    · intro oo hop LL xx ac sg hwant
      cases Option.some.inj hop
      have hG : (!(!((isGoodV c x.key x.now) == (goodRV c x.key x.now)))) = false := (want_f rfl rfl (sg.slot 13 (sg.anc 13 rfl))).symm.trans hwant
      exact ⟨cF hG, fun _ h => h⟩
    · intro oo hop LL xx ac sg hwant
      cases Option.some.inj hop
      have hG : (!(!((isGoodV c x.key x.now) == (goodRV c x.key x.now)))) = false := (want_f rfl rfl (sg.slot 13 (sg.anc 13 rfl))).symm.trans hwant
      exact ⟨cF hG, fun _ h => h⟩
    · intro oo hop LL xx ac sg hwant
      cases Option.some.inj hop
      have hG : (!(!((isGoodV c x.key x.now) == (goodRV c x.key x.now)))) = false := (want_f rfl rfl (sg.slot 13 (sg.anc 13 rfl))).symm.trans hwant
      exact ⟨cF hG, fun _ h => h⟩
    · intro oo hop LL xx ac sg hwant
      cases Option.some.inj hop
      have hG : (!(!((isGoodV c x.key x.now) == (goodRV c x.key x.now)))) = false := (want_f rfl rfl (sg.slot 13 (sg.anc 13 rfl))).symm.trans hwant
      exact ⟨cF hG, fun _ h => h⟩
    · intro oo hop LL xx ac sg hwant
      cases Option.some.inj hop
      have hG : (!(!((isGoodV c x.key x.now) == (goodRV c x.key x.now)))) = false := (want_f rfl rfl (sg.slot 13 (sg.anc 13 rfl))).symm.trans hwant
      exact ⟨cF hG, fun _ h => h⟩
    · intro oo hop LL xx ac sg hwant
      cases Option.some.inj hop
      have hG : (!(!((isGoodV c x.key x.now) == (goodRV c x.key x.now)))) = false := (want_f rfl rfl (sg.slot 13 (sg.anc 13 rfl))).symm.trans hwant
      exact ⟨cF hG, fun _ h => h⟩
    · intro oo hop LL xx ac sg hwant
      cases Option.some.inj hop
      have hG : (!(!((isGoodV c x.key x.now) == (goodRV c x.key x.now)))) = false := (want_f rfl rfl (sg.slot 13 (sg.anc 13 rfl))).symm.trans hwant
      exact ⟨cF hG, fun _ h => h⟩
  · intro xx ac1 wz hfr hsl hst
    exact hfin ac1 wz (hfr.size.trans hz) hfr.defers (fr_keep hfr [47, 48, 49, 50, 51, 52, 53, 54, 55, 56, 57, 58, 59, 60, 61, 62, 63, 64, 65, 66, 67, 68] (by kernel_rfl)) (hsl 21 (by decide)) (Lib.hid hst)
set_option maxRecDepth 20000 in
theorem exact_w_r15 (c : Cfg) (rc : Nat) (acts : List ActK) (b3 : Nat) (b7 : Nat) (b8 : Nat) (i : Nat) (a : Option Addr) (cc : Nat) (ps : List PairV) (la : Option Addr) (lc : Nat) (l : List EntR) (hi : i ≤ acts.length) (hi2 : i ≤ 60) (hrel : Hid (RelK (mkC c) (mkR c) ps l)) (z1ld : i < acts.length) (z1rd : (i : Int) < 60) (y : Addr) (x : ActK) (hk0 : 0 ≤ x.key) (hk1 : x.key ≤ 18446744073709551615) (hxn : x.now ≤ 9223372036854775807) (b10 : Nat) (z2d : ¬ (40 < (x.body.size : Int))) {wa wb : World} (H : Hid (Hp [] wa wb [rB b10 87 [.int .i64 x.kind, .int .i64 x.now, .int .i64 x.who, .int .u64 x.key, .string x.body], rB b8 99 (rkL (mkC c) (.slice la l.length lc)), rB b7 84 (kL (mkC c) (mkR c) (.slice a ps.length cc)), rB b3 24 (cL c), rS la lc 4 (l.map entRow), rS a cc 4 (ps.map rowOf), rS (some y) rc 5 (acts.map actRow)])) (ac0 : Act) (hz : ac0.tmps.size = 175) (so7 : ac0.eval (.tmp 7) = .pointer (some ⟨b7, 0, none⟩)) (so10 : ac0.eval (.tmp 10) = .pointer (some ⟨b10, 0, none⟩)) {QR : Exit → Act → World → Prop} (hfin : ∀ (ac1 : Act) (wz : World), ac1.tmps.size = 175 → ac1.defers = ac0.defers → (∀ t, ([11, 12, 69, 70, 71, 72, 73, 74, 75, 76, 77, 78, 79, 80, 81] : List Nat).contains t = false → ac1.eval (.tmp t) = ac0.eval (.tmp t)) → ac1.eval (.tmp 11) = .string ((lookV (mkC c) ps x.now x.who x.key x.body).1) → ac1.eval (.tmp 12) = .int .i64 ((lookV (mkC c) ps x.now x.who x.key x.body).2) →  Hid (Hp [] wa wz [rB b10 87 [.int .i64 x.kind, .int .i64 x.now, .int .i64 x.who, .int .u64 x.key, .string x.body], rB b8 99 (rkL (mkC c) (.slice la l.length lc)), rB b7 84 (kL (mkC c) (mkR c) (.slice a ps.length cc)), rB b3 24 (cL c), rS la lc 4 (l.map entRow), rS a cc 4 (ps.map rowOf), rS (some y) rc 5 (acts.map actRow)]) → QR .normal ac1 wz) : (regAt Try.f12 15).wp Try.prog QR ac0 wb := by
  refine wp_region_sq (by kernel_rfl) 175 hz (by kernel_rfl) (fun (xx : Unit) jx => nth [.agg (kA (mkC c) (mkR c) (.slice a ps.length cc)), .pointer (some ⟨b10, 1, none⟩), .int .i64 x.now, .pointer (some ⟨b10, 2, none⟩), .int .i64 x.who, .pointer (some ⟨b10, 3, none⟩), .int .u64 x.key, .pointer (some ⟨b10, 4, none⟩), .string x.body, .tuple #[.string ((lookV (mkC c) ps x.now x.who x.key x.body).1), .int .i64 ((lookV (mkC c) ps x.now x.who x.key x.body).2)], .tuple #[.string ((lookV (mkC c) ps x.now x.who x.key x.body).1), .int .i64 ((lookV (mkC c) ps x.now x.who x.key x.body).2)], .string ((lookV (mkC c) ps x.now x.who x.key x.body).1), .int .i64 ((lookV (mkC c) ps x.now x.who x.key x.body).2), .string ((lookV (mkC c) ps x.now x.who x.key x.body).1), .int .i64 ((lookV (mkC c) ps x.now x.who x.key x.body).2)] jx) (fun (LL : Nat → Bool) (xx : Unit) ww => Hp [] wa ww [rB b10 87 [.int .i64 x.kind, .int .i64 x.now, .int .i64 x.who, .int .u64 x.key, .string x.body], rB b8 99 (rkL (mkC c) (.slice la l.length lc)), rB b7 84 (kL (mkC c) (mkR c) (.slice a ps.length cc)), rB b3 24 (cL c), rS la lc 4 (l.map entRow), rS a cc 4 (ps.map rowOf), rS (some y) rc 5 (acts.map actRow)]) () H.out ?_ (steps_al ?_) ?_ ?_
  · exact fun _ _ _ _ _ h => h
  · refine al_cons ?_ (al_cons ?_ (al_cons ?_ (al_cons ?_ (al_cons ?_ (al_cons ?_ (al_cons ?_ (al_cons ?_ (al_cons ?_ (al_cons ?_ (al_cons ?_ (al_cons ?_ (al_cons ?_ (al_cons ?_ (al_cons ?_ (al_nil)))))))))))))))
    · intro LL xx ac wc sg hst hwant QQ hgo
      have H := Lib.hid hst
      refine hpA_load tykeys_Keys H rfl ((sg.free 7 (by kernel_rfl)).trans so7) hwant (by (repeat (first | exact List.Mem.head _ | apply List.Mem.tail))) (by rfl) rfl ?_
      exact hgo _ () _ (fun _ _ => rfl) rfl hst
    · intro LL xx ac wc sg hst hwant QQ hgo
      have se10 : ac.eval (.tmp 10) = _ := ((sg.free 10 (by kernel_rfl)).trans so10)
      have sg10 := gt_of se10
      exact op_val hwant hgo hst _ (by simp only [execOp, nth]; go_simp <;> omega) rfl
    · intro LL xx ac wc sg hst hwant QQ hgo
      have H := Lib.hid hst
      refine hpA_load1 tyint H rfl (sg.slot 1 (sg.anc 1 rfl)) hwant (by (repeat (first | exact List.Mem.head _ | apply List.Mem.tail))) (by rfl) ?_
      exact hgo _ () _ (fun _ _ => rfl) rfl hst
    · intro LL xx ac wc sg hst hwant QQ hgo
      have se10 : ac.eval (.tmp 10) = _ := ((sg.free 10 (by kernel_rfl)).trans so10)
      have sg10 := gt_of se10
      exact op_val hwant hgo hst _ (by simp only [execOp, nth]; go_simp <;> omega) rfl
    · intro LL xx ac wc sg hst hwant QQ hgo
      have H := Lib.hid hst
      refine hpA_load1 tyint H rfl (sg.slot 3 (sg.anc 3 rfl)) hwant (by (repeat (first | exact List.Mem.head _ | apply List.Mem.tail))) (by rfl) ?_
      exact hgo _ () _ (fun _ _ => rfl) rfl hst
    · intro LL xx ac wc sg hst hwant QQ hgo
      have se10 : ac.eval (.tmp 10) = _ := ((sg.free 10 (by kernel_rfl)).trans so10)
      have sg10 := gt_of se10
      exact op_val hwant hgo hst _ (by simp only [execOp, nth]; go_simp <;> omega) rfl
    · intro LL xx ac wc sg hst hwant QQ hgo
      have H := Lib.hid hst
      refine hpA_load1 tyuint64 H rfl (sg.slot 5 (sg.anc 5 rfl)) hwant (by (repeat (first | exact List.Mem.head _ | apply List.Mem.tail))) (by rfl) ?_
      exact hgo _ () _ (fun _ _ => rfl) rfl hst
    · intro LL xx ac wc sg hst hwant QQ hgo
      have se10 : ac.eval (.tmp 10) = _ := ((sg.free 10 (by kernel_rfl)).trans so10)
      have sg10 := gt_of se10
      exact op_val hwant hgo hst _ (by simp only [execOp, nth]; go_simp <;> omega) rfl
    · intro LL xx ac wc sg hst hwant QQ hgo
      have H := Lib.hid hst
      refine hpA_load1 tystring H rfl (sg.slot 7 (sg.anc 7 rfl)) hwant (by (repeat (first | exact List.Mem.head _ | apply List.Mem.tail))) (by rfl) ?_
      exact hgo _ () _ (fun _ _ => rfl) rfl hst
    · intro LL xx ac wc sg hst hwant QQ hgo
      have se70 : ac.eval (.tmp 70) = _ := (sg.slot 0 (sg.anc 0 rfl))
      have sg70 := gt_of se70
      have se72 : ac.eval (.tmp 72) = _ := (sg.slot 2 (sg.anc 2 rfl))
      have sg72 := gt_of se72
      have se74 : ac.eval (.tmp 74) = _ := (sg.slot 4 (sg.anc 4 rfl))
      have sg74 := gt_of se74
      have se76 : ac.eval (.tmp 76) = _ := (sg.slot 6 (sg.anc 6 rfl))
      have sg76 := gt_of se76
      have se78 : ac.eval (.tmp 78) = _ := (sg.slot 8 (sg.anc 8 rfl))
      have sg78 := gt_of se78
      (try simp only [nth] at se70 sg70 se72 sg72 se74 sg74 se76 sg76 se78 sg78)
      have H := Lib.hid hst
      refine op_call hwant hgo 48 _ (by simp only [execOp]; go_simp) (lookC (mkC c) (mkR c) a cc ps x.now x.who x.key x.body wc (hp_held H (by (repeat (first | exact List.Mem.head _ | apply List.Mem.tail)))) hk0 hk1 (Lib.hid hrel.out.sorted) (few_rel hrel.out)) ?_
      rintro er wd ⟨rfl, hof⟩
      exact ⟨_, (), rfl, fun _ _ => rfl, rfl, Hp.quiet hst hof⟩
    · intro LL xx ac wc sg hst hwant QQ hgo
      exact op_val hwant hgo hst _ (exec_move rfl (sg.slot 9 (sg.anc 9 rfl))) rfl
    · intro LL xx ac wc sg hst hwant QQ hgo
      have se69 : ac.eval (.tmp 69) = _ := (sg.slot 10 (sg.anc 10 rfl))
      have sg69 := gt_of se69
      (try simp only [nth] at se69 sg69)
      exact op_val hwant hgo hst _ (by simp only [execOp, nth]; go_simp <;> omega) rfl
    · intro LL xx ac wc sg hst hwant QQ hgo
      have se69 : ac.eval (.tmp 69) = _ := (sg.slot 10 (sg.anc 10 rfl))
      have sg69 := gt_of se69
      (try simp only [nth] at se69 sg69)
      exact op_val hwant hgo hst _ (by simp only [execOp, nth]; go_simp <;> omega) rfl
    · intro LL xx ac wc sg hst hwant QQ hgo
      exact op_val hwant hgo hst _ (exec_assign rfl (sg.slot 11 (sg.anc 11 rfl))) rfl
    · intro LL xx ac wc sg hst hwant QQ hgo
      exact op_val hwant hgo hst _ (exec_assign rfl (sg.slot 12 (sg.anc 12 rfl))) rfl
  · exact skips [] (by kernel_rfl) (fun _ h => by cases h)
  · intro xx ac1 wz hfr hsl hst
    exact hfin ac1 wz (hfr.size.trans hz) hfr.defers (fr_keep hfr [11, 12, 69, 70, 71, 72, 73, 74, 75, 76, 77, 78, 79, 80, 81] (by kernel_rfl)) (hsl 13 (by decide)) (hsl 14 (by decide)) (Lib.hid hst)
set_option maxRecDepth 20000 in
theorem exact_w_r16 (c : Cfg) (rc : Nat) (acts : List ActK) (b3 : Nat) (b7 : Nat) (b8 : Nat) (i : Nat) (a : Option Addr) (cc : Nat) (ps : List PairV) (la : Option Addr) (lc : Nat) (l : List EntR) (hi : i ≤ acts.length) (hi2 : i ≤ 60) (hrel : Hid (RelK (mkC c) (mkR c) ps l)) (z1ld : i < acts.length) (z1rd : (i : Int) < 60) (y : Addr) (x : ActK) (hk0 : 0 ≤ x.key) (hk1 : x.key ≤ 18446744073709551615) (hxn : x.now ≤ 9223372036854775807) (b10 : Nat) (z2d : ¬ (40 < (x.body.size : Int))) {wa wb : World} (H : Hid (Hp [] wa wb [rB b10 87 [.int .i64 x.kind, .int .i64 x.now, .int .i64 x.who, .int .u64 x.key, .string x.body], rB b8 99 (rkL (mkC c) (.slice la l.length lc)), rB b7 84 (kL (mkC c) (mkR c) (.slice a ps.length cc)), rB b3 24 (cL c), rS la lc 4 (l.map entRow), rS a cc 4 (ps.map rowOf), rS (some y) rc 5 (acts.map actRow)])) (ac0 : Act) (hz : ac0.tmps.size = 175) (so8 : ac0.eval (.tmp 8) = .pointer (some ⟨b8, 0, none⟩)) (so10 : ac0.eval (.tmp 10) = .pointer (some ⟨b10, 0, none⟩)) {QR : Exit → Act → World → Prop} (hfin : ∀ (ac1 : Act) (wz : World), ac1.tmps.size = 175 → ac1.defers = ac0.defers → (∀ t, ([13, 14, 82, 83, 84, 85, 86, 87, 88, 89, 90, 91, 92, 93, 94] : List Nat).contains t = false → ac1.eval (.tmp t) = ac0.eval (.tmp t)) → ac1.eval (.tmp 13) = .string ((lookR (mkC c) l x.now x.who x.key x.body).1) → ac1.eval (.tmp 14) = .int .i64 ((lookR (mkC c) l x.now x.who x.key x.body).2) →  Hid (Hp [] wa wz [rB b10 87 [.int .i64 x.kind, .int .i64 x.now, .int .i64 x.who, .int .u64 x.key, .string x.body], rB b8 99 (rkL (mkC c) (.slice la l.length lc)), rB b7 84 (kL (mkC c) (mkR c) (.slice a ps.length cc)), rB b3 24 (cL c), rS la lc 4 (l.map entRow), rS a cc 4 (ps.map rowOf), rS (some y) rc 5 (acts.map actRow)]) → QR .normal ac1 wz) : (regAt Try.f12 16).wp Try.prog QR ac0 wb := by
  refine wp_region_sq (by kernel_rfl) 175 hz (by kernel_rfl) (fun (xx : Unit) jx => nth [.agg (rkA (mkC c) (.slice la l.length lc)), .pointer (some ⟨b10, 1, none⟩), .int .i64 x.now, .pointer (some ⟨b10, 2, none⟩), .int .i64 x.who, .pointer (some ⟨b10, 3, none⟩), .int .u64 x.key, .pointer (some ⟨b10, 4, none⟩), .string x.body, .tuple #[.string ((lookR (mkC c) l x.now x.who x.key x.body).1), .int .i64 ((lookR (mkC c) l x.now x.who x.key x.body).2)], .tuple #[.string ((lookR (mkC c) l x.now x.who x.key x.body).1), .int .i64 ((lookR (mkC c) l x.now x.who x.key x.body).2)], .string ((lookR (mkC c) l x.now x.who x.key x.body).1), .int .i64 ((lookR (mkC c) l x.now x.who x.key x.body).2), .string ((lookR (mkC c) l x.now x.who x.key x.body).1), .int .i64 ((lookR (mkC c) l x.now x.who x.key x.body).2)] jx) (fun (LL : Nat → Bool) (xx : Unit) ww => Hp [] wa ww [rB b10 87 [.int .i64 x.kind, .int .i64 x.now, .int .i64 x.who, .int .u64 x.key, .string x.body], rB b8 99 (rkL (mkC c) (.slice la l.length lc)), rB b7 84 (kL (mkC c) (mkR c) (.slice a ps.length cc)), rB b3 24 (cL c), rS la lc 4 (l.map entRow), rS a cc 4 (ps.map rowOf), rS (some y) rc 5 (acts.map actRow)]) () H.out ?_ (steps_al ?_) ?_ ?_
  · exact fun _ _ _ _ _ h => h
  · refine al_cons ?_ (al_cons ?_ (al_cons ?_ (al_cons ?_ (al_cons ?_ (al_cons ?_ (al_cons ?_ (al_cons ?_ (al_cons ?_ (al_cons ?_ (al_cons ?_ (al_cons ?_ (al_cons ?_ (al_cons ?_ (al_cons ?_ (al_nil)))))))))))))))
    · intro LL xx ac wc sg hst hwant QQ hgo
      have H := Lib.hid hst
      refine hpA_load tyhoistwayref10_Keys H rfl ((sg.free 8 (by kernel_rfl)).trans so8) hwant (by (repeat (first | exact List.Mem.head _ | apply List.Mem.tail))) (by rfl) rfl ?_
      exact hgo _ () _ (fun _ _ => rfl) rfl hst
    · intro LL xx ac wc sg hst hwant QQ hgo
      have se10 : ac.eval (.tmp 10) = _ := ((sg.free 10 (by kernel_rfl)).trans so10)
      have sg10 := gt_of se10
      exact op_val hwant hgo hst _ (by simp only [execOp, nth]; go_simp <;> omega) rfl
    · intro LL xx ac wc sg hst hwant QQ hgo
      have H := Lib.hid hst
      refine hpA_load1 tyint H rfl (sg.slot 1 (sg.anc 1 rfl)) hwant (by (repeat (first | exact List.Mem.head _ | apply List.Mem.tail))) (by rfl) ?_
      exact hgo _ () _ (fun _ _ => rfl) rfl hst
    · intro LL xx ac wc sg hst hwant QQ hgo
      have se10 : ac.eval (.tmp 10) = _ := ((sg.free 10 (by kernel_rfl)).trans so10)
      have sg10 := gt_of se10
      exact op_val hwant hgo hst _ (by simp only [execOp, nth]; go_simp <;> omega) rfl
    · intro LL xx ac wc sg hst hwant QQ hgo
      have H := Lib.hid hst
      refine hpA_load1 tyint H rfl (sg.slot 3 (sg.anc 3 rfl)) hwant (by (repeat (first | exact List.Mem.head _ | apply List.Mem.tail))) (by rfl) ?_
      exact hgo _ () _ (fun _ _ => rfl) rfl hst
    · intro LL xx ac wc sg hst hwant QQ hgo
      have se10 : ac.eval (.tmp 10) = _ := ((sg.free 10 (by kernel_rfl)).trans so10)
      have sg10 := gt_of se10
      exact op_val hwant hgo hst _ (by simp only [execOp, nth]; go_simp <;> omega) rfl
    · intro LL xx ac wc sg hst hwant QQ hgo
      have H := Lib.hid hst
      refine hpA_load1 tyuint64 H rfl (sg.slot 5 (sg.anc 5 rfl)) hwant (by (repeat (first | exact List.Mem.head _ | apply List.Mem.tail))) (by rfl) ?_
      exact hgo _ () _ (fun _ _ => rfl) rfl hst
    · intro LL xx ac wc sg hst hwant QQ hgo
      have se10 : ac.eval (.tmp 10) = _ := ((sg.free 10 (by kernel_rfl)).trans so10)
      have sg10 := gt_of se10
      exact op_val hwant hgo hst _ (by simp only [execOp, nth]; go_simp <;> omega) rfl
    · intro LL xx ac wc sg hst hwant QQ hgo
      have H := Lib.hid hst
      refine hpA_load1 tystring H rfl (sg.slot 7 (sg.anc 7 rfl)) hwant (by (repeat (first | exact List.Mem.head _ | apply List.Mem.tail))) (by rfl) ?_
      exact hgo _ () _ (fun _ _ => rfl) rfl hst
    · intro LL xx ac wc sg hst hwant QQ hgo
      have se83 : ac.eval (.tmp 83) = _ := (sg.slot 0 (sg.anc 0 rfl))
      have sg83 := gt_of se83
      have se85 : ac.eval (.tmp 85) = _ := (sg.slot 2 (sg.anc 2 rfl))
      have sg85 := gt_of se85
      have se87 : ac.eval (.tmp 87) = _ := (sg.slot 4 (sg.anc 4 rfl))
      have sg87 := gt_of se87
      have se89 : ac.eval (.tmp 89) = _ := (sg.slot 6 (sg.anc 6 rfl))
      have sg89 := gt_of se89
      have se91 : ac.eval (.tmp 91) = _ := (sg.slot 8 (sg.anc 8 rfl))
      have sg91 := gt_of se91
      (try simp only [nth] at se83 sg83 se85 sg85 se87 sg87 se89 sg89 se91 sg91)
      have H := Lib.hid hst
      refine op_call hwant hgo 55 _ (by simp only [execOp]; go_simp) (lookRC (mkC c) la lc l x.now x.who x.key x.body wc (hp_held H (by (repeat (first | exact List.Mem.head _ | apply List.Mem.tail)))) hk0 hk1 (few_rel2 hrel.out) (rel_keys hrel.out)) ?_
      rintro er wd ⟨rfl, hof⟩
      exact ⟨_, (), rfl, fun _ _ => rfl, rfl, Hp.quiet hst hof⟩
    · intro LL xx ac wc sg hst hwant QQ hgo
      exact op_val hwant hgo hst _ (exec_move rfl (sg.slot 9 (sg.anc 9 rfl))) rfl
    · intro LL xx ac wc sg hst hwant QQ hgo
      have se82 : ac.eval (.tmp 82) = _ := (sg.slot 10 (sg.anc 10 rfl))
      have sg82 := gt_of se82
      (try simp only [nth] at se82 sg82)
      exact op_val hwant hgo hst _ (by simp only [execOp, nth]; go_simp <;> omega) rfl
    · intro LL xx ac wc sg hst hwant QQ hgo
      have se82 : ac.eval (.tmp 82) = _ := (sg.slot 10 (sg.anc 10 rfl))
      have sg82 := gt_of se82
      (try simp only [nth] at se82 sg82)
      exact op_val hwant hgo hst _ (by simp only [execOp, nth]; go_simp <;> omega) rfl
    · intro LL xx ac wc sg hst hwant QQ hgo
      exact op_val hwant hgo hst _ (exec_assign rfl (sg.slot 11 (sg.anc 11 rfl))) rfl
    · intro LL xx ac wc sg hst hwant QQ hgo
      exact op_val hwant hgo hst _ (exec_assign rfl (sg.slot 12 (sg.anc 12 rfl))) rfl
  · exact skips [] (by kernel_rfl) (fun _ h => by cases h)
  · intro xx ac1 wz hfr hsl hst
    exact hfin ac1 wz (hfr.size.trans hz) hfr.defers (fr_keep hfr [13, 14, 82, 83, 84, 85, 86, 87, 88, 89, 90, 91, 92, 93, 94] (by kernel_rfl)) (hsl 13 (by decide)) (hsl 14 (by decide)) (Lib.hid hst)
set_option maxRecDepth 20000 in
theorem exact_w_r17 (c : Cfg) (rc : Nat) (acts : List ActK) (b3 : Nat) (b7 : Nat) (b8 : Nat) (i : Nat) (a : Option Addr) (cc : Nat) (ps : List PairV) (la : Option Addr) (lc : Nat) (l : List EntR) (hi : i ≤ acts.length) (hi2 : i ≤ 60) (z1ld : i < acts.length) (z1rd : (i : Int) < 60) (y : Addr) (x : ActK) (hk0 : 0 ≤ x.key) (hk1 : x.key ≤ 18446744073709551615) (hxn : x.now ≤ 9223372036854775807) (b10 : Nat) (z2d : ¬ (40 < (x.body.size : Int))) {wa wb : World} (H : Hid (Hp [] wa wb [rB b10 87 [.int .i64 x.kind, .int .i64 x.now, .int .i64 x.who, .int .u64 x.key, .string x.body], rB b8 99 (rkL (mkC c) (.slice la l.length lc)), rB b7 84 (kL (mkC c) (mkR c) (.slice a ps.length cc)), rB b3 24 (cL c), rS la lc 4 (l.map entRow), rS a cc 4 (ps.map rowOf), rS (some y) rc 5 (acts.map actRow)])) (ac0 : Act) (hz : ac0.tmps.size = 175) (so11 : ac0.eval (.tmp 11) = .string ((lookV (mkC c) ps x.now x.who x.key x.body).1)) (so12 : ac0.eval (.tmp 12) = .int .i64 ((lookV (mkC c) ps x.now x.who x.key x.body).2)) (so13 : ac0.eval (.tmp 13) = .string ((lookR (mkC c) l x.now x.who x.key x.body).1)) (so14 : ac0.eval (.tmp 14) = .int .i64 ((lookR (mkC c) l x.now x.who x.key x.body).2)) {QR : Exit → Act → World → Prop} (hfin : ∀ (ac1 : Act) (wz : World), ac1.tmps.size = 175 → ac1.defers = ac0.defers → (∀ t, ([95, 96, 97, 98, 99, 100, 101, 102] : List Nat).contains t = false → ac1.eval (.tmp t) = ac0.eval (.tmp t)) → ac1.eval (.tmp 102) = .bool ((!(((lookV (mkC c) ps x.now x.who x.key x.body).1).toList == ((lookR (mkC c) l x.now x.who x.key x.body).1).toList)) || (((lookV (mkC c) ps x.now x.who x.key x.body).2) != ((lookR (mkC c) l x.now x.who x.key x.body).2))) →  Hid (Hp [] wa wz [rB b10 87 [.int .i64 x.kind, .int .i64 x.now, .int .i64 x.who, .int .u64 x.key, .string x.body], rB b8 99 (rkL (mkC c) (.slice la l.length lc)), rB b7 84 (kL (mkC c) (mkR c) (.slice a ps.length cc)), rB b3 24 (cL c), rS la lc 4 (l.map entRow), rS a cc 4 (ps.map rowOf), rS (some y) rc 5 (acts.map actRow)]) → QR .normal ac1 wz) : (regAt Try.f12 17).wp Try.prog QR ac0 wb := by
  refine wp_region_sq (by kernel_rfl) 175 hz (by kernel_rfl) (fun (xx : Unit) jx => nth [.string ((lookV (mkC c) ps x.now x.who x.key x.body).1), .string ((lookR (mkC c) l x.now x.who x.key x.body).1), .bool (!(((lookV (mkC c) ps x.now x.who x.key x.body).1).toList == ((lookR (mkC c) l x.now x.who x.key x.body).1).toList)), .bool (!(((lookV (mkC c) ps x.now x.who x.key x.body).1).toList == ((lookR (mkC c) l x.now x.who x.key x.body).1).toList)), bif !(!(((lookV (mkC c) ps x.now x.who x.key x.body).1).toList == ((lookR (mkC c) l x.now x.who x.key x.body).1).toList)) then .int .i64 ((lookV (mkC c) ps x.now x.who x.key x.body).2) else undef, bif !(!(((lookV (mkC c) ps x.now x.who x.key x.body).1).toList == ((lookR (mkC c) l x.now x.who x.key x.body).1).toList)) then .int .i64 ((lookR (mkC c) l x.now x.who x.key x.body).2) else undef, bif !(!(((lookV (mkC c) ps x.now x.who x.key x.body).1).toList == ((lookR (mkC c) l x.now x.who x.key x.body).1).toList)) then .bool (((lookV (mkC c) ps x.now x.who x.key x.body).2) != ((lookR (mkC c) l x.now x.who x.key x.body).2)) else undef, .bool ((!(((lookV (mkC c) ps x.now x.who x.key x.body).1).toList == ((lookR (mkC c) l x.now x.who x.key x.body).1).toList)) || (((lookV (mkC c) ps x.now x.who x.key x.body).2) != ((lookR (mkC c) l x.now x.who x.key x.body).2)))] jx) (fun (LL : Nat → Bool) (xx : Unit) ww => Hp [] wa ww [rB b10 87 [.int .i64 x.kind, .int .i64 x.now, .int .i64 x.who, .int .u64 x.key, .string x.body], rB b8 99 (rkL (mkC c) (.slice la l.length lc)), rB b7 84 (kL (mkC c) (mkR c) (.slice a ps.length cc)), rB b3 24 (cL c), rS la lc 4 (l.map entRow), rS a cc 4 (ps.map rowOf), rS (some y) rc 5 (acts.map actRow)]) () H.out ?_ (steps_al ?_) ?_ ?_
  · exact fun _ _ _ _ _ h => h
  · refine al_cons ?_ (al_cons ?_ (al_cons ?_ (al_cons ?_ (al_cons ?_ (al_cons ?_ (al_cons ?_ (al_cons ?_ (al_nil))))))))
    · intro LL xx ac wc sg hst hwant QQ hgo
      exact op_val hwant hgo hst _ (exec_move rfl ((sg.free 11 (by kernel_rfl)).trans so11)) rfl
    · intro LL xx ac wc sg hst hwant QQ hgo
      exact op_val hwant hgo hst _ (exec_move rfl ((sg.free 13 (by kernel_rfl)).trans so13)) rfl
    · intro LL xx ac wc sg hst hwant QQ hgo
      have se95 : ac.eval (.tmp 95) = _ := (sg.slot 0 (sg.anc 0 rfl))
      have sg95 := gt_of se95
      have se96 : ac.eval (.tmp 96) = _ := (sg.slot 1 (sg.anc 1 rfl))
      have sg96 := gt_of se96
      (try simp only [nth] at se95 sg95 se96 sg96)
      exact op_val hwant hgo hst _ (by simp only [execOp, nth]; go_simp <;> omega) rfl
    · intro LL xx ac wc sg hst hwant QQ hgo
      exact op_val hwant hgo hst _ (exec_move rfl (sg.slot 2 (sg.anc 2 rfl))) rfl
    · intro LL xx ac wc sg hst hwant QQ hgo
      have hG : (!(!(((lookV (mkC c) ps x.now x.who x.key x.body).1).toList == ((lookR (mkC c) l x.now x.who x.key x.body).1).toList))) = true := (want_f rfl rfl (sg.slot 3 (sg.anc 3 rfl))).symm.trans hwant
      exact op_val hwant hgo hst _ (exec_move rfl ((sg.free 12 (by kernel_rfl)).trans so12)) (cI hG)
    · intro LL xx ac wc sg hst hwant QQ hgo
      have hG : (!(!(((lookV (mkC c) ps x.now x.who x.key x.body).1).toList == ((lookR (mkC c) l x.now x.who x.key x.body).1).toList))) = true := (want_f rfl rfl (sg.slot 3 (sg.anc 3 rfl))).symm.trans hwant
      exact op_val hwant hgo hst _ (exec_move rfl ((sg.free 14 (by kernel_rfl)).trans so14)) (cI hG)
    · intro LL xx ac wc sg hst hwant QQ hgo
      have hG : (!(!(((lookV (mkC c) ps x.now x.who x.key x.body).1).toList == ((lookR (mkC c) l x.now x.who x.key x.body).1).toList))) = true := (want_f rfl rfl (sg.slot 3 (sg.anc 3 rfl))).symm.trans hwant
      have se99 : ac.eval (.tmp 99) = _ := (cT (sg.slot 4 (sg.anc 4 rfl)) hG)
      have sg99 := gt_of se99
      have se100 : ac.eval (.tmp 100) = _ := (cT (sg.slot 5 (sg.anc 5 rfl)) hG)
      have sg100 := gt_of se100
      (try simp only [nth] at se99 sg99 se100 sg100)
      exact op_val hwant hgo hst _ (by simp only [execOp, nth]; go_simp <;> omega) (cI hG)
    · intro LL xx ac wc sg hst hwant QQ hgo
      exact op_val hwant hgo hst (.bool ((!(((lookV (mkC c) ps x.now x.who x.key x.body).1).toList == ((lookR (mkC c) l x.now x.who x.key x.body).1).toList)) || (((lookV (mkC c) ps x.now x.who x.key x.body).2) != ((lookR (mkC c) l x.now x.who x.key x.body).2)))) (exec_or (Y := ((lookV (mkC c) ps x.now x.who x.key x.body).2) != ((lookR (mkC c) l x.now x.who x.key x.body).2)) rfl (sg.slot 3 (sg.anc 3 rfl)) (fun qq => cT (sg.slot 6 (sg.anc 6 rfl)) (bk qq))) rfl
  · refine skips [4, 5, 6] (by kernel_rfl) ?_
    refine List.forall_mem_cons.2 ⟨?_, List.forall_mem_cons.2 ⟨?_, List.forall_mem_cons.2 ⟨?_, fun _ h => by cases h⟩⟩⟩
    · intro oo hop LL xx ac sg hwant
      cases Option.some.inj hop
      have hG : (!(!(((lookV (mkC c) ps x.now x.who x.key x.body).1).toList == ((lookR (mkC c) l x.now x.who x.key x.body).1).toList))) = false := (want_f rfl rfl (sg.slot 3 (sg.anc 3 rfl))).symm.trans hwant
      exact ⟨cF hG, fun _ h => h⟩
    · intro oo hop LL xx ac sg hwant
      cases Option.some.inj hop
      have hG : (!(!(((lookV (mkC c) ps x.now x.who x.key x.body).1).toList == ((lookR (mkC c) l x.now x.who x.key x.body).1).toList))) = false := (want_f rfl rfl (sg.slot 3 (sg.anc 3 rfl))).symm.trans hwant
      exact ⟨cF hG, fun _ h => h⟩
    · intro oo hop LL xx ac sg hwant
      cases Option.some.inj hop
      have hG : (!(!(((lookV (mkC c) ps x.now x.who x.key x.body).1).toList == ((lookR (mkC c) l x.now x.who x.key x.body).1).toList))) = false := (want_f rfl rfl (sg.slot 3 (sg.anc 3 rfl))).symm.trans hwant
      exact ⟨cF hG, fun _ h => h⟩
  · intro xx ac1 wz hfr hsl hst
    exact hfin ac1 wz (hfr.size.trans hz) hfr.defers (fr_keep hfr [95, 96, 97, 98, 99, 100, 101, 102] (by kernel_rfl)) (hsl 7 (by decide)) (Lib.hid hst)
set_option maxRecDepth 20000 in
theorem exact_w_r19 (c : Cfg) (rc : Nat) (acts : List ActK) (b3 : Nat) (b7 : Nat) (b8 : Nat) (i : Nat) (a : Option Addr) (cc : Nat) (ps : List PairV) (la : Option Addr) (lc : Nat) (l : List EntR) (hi : i ≤ acts.length) (hi2 : i ≤ 60) (z1ld : i < acts.length) (z1rd : (i : Int) < 60) (y : Addr) (x : ActK) (hk0 : 0 ≤ x.key) (hk1 : x.key ≤ 18446744073709551615) (hxn : x.now ≤ 9223372036854775807) (b10 : Nat) (z2d : ¬ (40 < (x.body.size : Int))) {wa wb : World} (H : Hid (Hp [] wa wb [rB b10 87 [.int .i64 x.kind, .int .i64 x.now, .int .i64 x.who, .int .u64 x.key, .string x.body], rB b8 99 (rkL (mkC c) (.slice la l.length lc)), rB b7 84 (kL (mkC c) (mkR c) (.slice a ps.length cc)), rB b3 24 (cL c), rS la lc 4 (l.map entRow), rS a cc 4 (ps.map rowOf), rS (some y) rc 5 (acts.map actRow)])) (ac0 : Act) (hz : ac0.tmps.size = 175) (so10 : ac0.eval (.tmp 10) = .pointer (some ⟨b10, 0, none⟩)) {QR : Exit → Act → World → Prop} (hfin : ∀ (ac1 : Act) (wz : World), ac1.tmps.size = 175 → ac1.defers = ac0.defers → (∀ t, ([103, 104, 105, 106, 107, 108, 109, 110] : List Nat).contains t = false → ac1.eval (.tmp t) = ac0.eval (.tmp t)) → ac1.eval (.tmp 110) = .bool ((x.kind == 1) || (x.kind == 2)) →  Hid (Hp [] wa wz [rB b10 87 [.int .i64 x.kind, .int .i64 x.now, .int .i64 x.who, .int .u64 x.key, .string x.body], rB b8 99 (rkL (mkC c) (.slice la l.length lc)), rB b7 84 (kL (mkC c) (mkR c) (.slice a ps.length cc)), rB b3 24 (cL c), rS la lc 4 (l.map entRow), rS a cc 4 (ps.map rowOf), rS (some y) rc 5 (acts.map actRow)]) → QR .normal ac1 wz) : (regAt Try.f12 19).wp Try.prog QR ac0 wb := by
  refine wp_region_sq (by kernel_rfl) 175 hz (by kernel_rfl) (fun (xx : Unit) jx => nth [.pointer (some ⟨b10, 0, none⟩), .int .i64 x.kind, .bool (x.kind == 1), .bool (x.kind == 1), bif !(x.kind == 1) then .pointer (some ⟨b10, 0, none⟩) else undef, bif !(x.kind == 1) then .int .i64 x.kind else undef, bif !(x.kind == 1) then .bool (x.kind == 2) else undef, .bool ((x.kind == 1) || (x.kind == 2))] jx) (fun (LL : Nat → Bool) (xx : Unit) ww => Hp [] wa ww [rB b10 87 [.int .i64 x.kind, .int .i64 x.now, .int .i64 x.who, .int .u64 x.key, .string x.body], rB b8 99 (rkL (mkC c) (.slice la l.length lc)), rB b7 84 (kL (mkC c) (mkR c) (.slice a ps.length cc)), rB b3 24 (cL c), rS la lc 4 (l.map entRow), rS a cc 4 (ps.map rowOf), rS (some y) rc 5 (acts.map actRow)]) () H.out ?_ (steps_al ?_) ?_ ?_
  · exact fun _ _ _ _ _ h => h
  · refine al_cons ?_ (al_cons ?_ (al_cons ?_ (al_cons ?_ (al_cons ?_ (al_cons ?_ (al_cons ?_ (al_cons ?_ (al_nil))))))))
    · intro LL xx ac wc sg hst hwant QQ hgo
      have se10 : ac.eval (.tmp 10) = _ := ((sg.free 10 (by kernel_rfl)).trans so10)
      have sg10 := gt_of se10
      exact op_val hwant hgo hst _ (by simp only [execOp, nth]; go_simp <;> omega) rfl
    · intro LL xx ac wc sg hst hwant QQ hgo
      have H := Lib.hid hst
      refine hpA_load1 tyint H rfl (sg.slot 0 (sg.anc 0 rfl)) hwant (by (repeat (first | exact List.Mem.head _ | apply List.Mem.tail))) (by rfl) ?_
      exact hgo _ () _ (fun _ _ => rfl) rfl hst
    · intro LL xx ac wc sg hst hwant QQ hgo
      have se104 : ac.eval (.tmp 104) = _ := (sg.slot 1 (sg.anc 1 rfl))
      have sg104 := gt_of se104
      (try simp only [nth] at se104 sg104)
      exact op_val hwant hgo hst _ (by simp only [execOp, nth]; go_simp <;> omega) rfl
    · intro LL xx ac wc sg hst hwant QQ hgo
      exact op_val hwant hgo hst _ (exec_move rfl (sg.slot 2 (sg.anc 2 rfl))) rfl
    · intro LL xx ac wc sg hst hwant QQ hgo
      have hG : (!(x.kind == 1)) = true := (want_f rfl rfl (sg.slot 3 (sg.anc 3 rfl))).symm.trans hwant
      have se10 : ac.eval (.tmp 10) = _ := ((sg.free 10 (by kernel_rfl)).trans so10)
      have sg10 := gt_of se10
      exact op_val hwant hgo hst _ (by simp only [execOp, nth]; go_simp <;> omega) (cI hG)
    · intro LL xx ac wc sg hst hwant QQ hgo
      have hG : (!(x.kind == 1)) = true := (want_f rfl rfl (sg.slot 3 (sg.anc 3 rfl))).symm.trans hwant
      have H := Lib.hid hst
      refine hpA_load1 tyint H rfl (cT (sg.slot 4 (sg.anc 4 rfl)) hG) hwant (by (repeat (first | exact List.Mem.head _ | apply List.Mem.tail))) (by rfl) ?_
      exact hgo _ () _ (fun _ _ => rfl) (cI hG) hst
    · intro LL xx ac wc sg hst hwant QQ hgo
      have hG : (!(x.kind == 1)) = true := (want_f rfl rfl (sg.slot 3 (sg.anc 3 rfl))).symm.trans hwant
      have se108 : ac.eval (.tmp 108) = _ := (cT (sg.slot 5 (sg.anc 5 rfl)) hG)
      have sg108 := gt_of se108
      (try simp only [nth] at se108 sg108)
      exact op_val hwant hgo hst _ (by simp only [execOp, nth]; go_simp <;> omega) (cI hG)
    · intro LL xx ac wc sg hst hwant QQ hgo
      exact op_val hwant hgo hst (.bool ((x.kind == 1) || (x.kind == 2))) (exec_or (Y := x.kind == 2) rfl (sg.slot 3 (sg.anc 3 rfl)) (fun qq => cT (sg.slot 6 (sg.anc 6 rfl)) (bk qq))) rfl
  · refine skips [4, 5, 6] (by kernel_rfl) ?_
    refine List.forall_mem_cons.2 ⟨?_, List.forall_mem_cons.2 ⟨?_, List.forall_mem_cons.2 ⟨?_, fun _ h => by cases h⟩⟩⟩
    · intro oo hop LL xx ac sg hwant
      cases Option.some.inj hop
      have hG : (!(x.kind == 1)) = false := (want_f rfl rfl (sg.slot 3 (sg.anc 3 rfl))).symm.trans hwant
      exact ⟨cF hG, fun _ h => h⟩
    · intro oo hop LL xx ac sg hwant
      cases Option.some.inj hop
      have hG : (!(x.kind == 1)) = false := (want_f rfl rfl (sg.slot 3 (sg.anc 3 rfl))).symm.trans hwant
      exact ⟨cF hG, fun _ h => h⟩
    · intro oo hop LL xx ac sg hwant
      cases Option.some.inj hop
      have hG : (!(x.kind == 1)) = false := (want_f rfl rfl (sg.slot 3 (sg.anc 3 rfl))).symm.trans hwant
      exact ⟨cF hG, fun _ h => h⟩
  · intro xx ac1 wz hfr hsl hst
    exact hfin ac1 wz (hfr.size.trans hz) hfr.defers (fr_keep hfr [103, 104, 105, 106, 107, 108, 109, 110] (by kernel_rfl)) (hsl 7 (by decide)) (Lib.hid hst)
set_option maxRecDepth 20000 in
theorem exact_w_r27 (c : Cfg) (rc : Nat) (acts : List ActK) (tt : Int) (b3 : Nat) (b7 : Nat) (b8 : Nat) (i : Nat) (hi : i ≤ acts.length) (hi2 : i ≤ 60) (z1ld : i < acts.length) (z1rd : (i : Int) < 60) (y : Addr) (x : ActK) (hk0 : 0 ≤ x.key) (hk1 : x.key ≤ 18446744073709551615) (hxn : x.now ≤ 9223372036854775807) (b10 : Nat) (z2d : ¬ (40 < (x.body.size : Int))) (a2 : Option Addr) (cc2 : Nat) (ps2 : List PairV) (la2 : Option Addr) (lc2 : Nat) (l2 : List EntR) {wa wb : World} (H : Hid (Hp [] wa wb [rB b10 87 [.int .i64 x.kind, .int .i64 x.now, .int .i64 x.who, .int .u64 x.key, .string x.body], rB b8 99 (rkL (mkC c) (.slice la2 l2.length lc2)), rB b7 84 (kL (mkC c) (mkR c) (.slice a2 ps2.length cc2)), rB b3 24 (cL c), rS la2 lc2 4 (l2.map entRow), rS a2 cc2 4 (ps2.map rowOf), rS (some y) rc 5 (acts.map actRow)])) (ac0 : Act) (hz : ac0.tmps.size = 175) (so2 : ac0.eval (.tmp 2) = .int .i64 tt) {QR : Exit → Act → World → Prop} (hfin : ∀ (ac1 : Act) (wz : World), ac1.tmps.size = 175 → ac1.defers = ac0.defers → (∀ t, ([19, 160] : List Nat).contains t = false → ac1.eval (.tmp t) = ac0.eval (.tmp t)) → ac1.eval (.tmp 19) = .int .i64 tt →  Hid (Hp [] wa wz [rB b10 87 [.int .i64 x.kind, .int .i64 x.now, .int .i64 x.who, .int .u64 x.key, .string x.body], rB b8 99 (rkL (mkC c) (.slice la2 l2.length lc2)), rB b7 84 (kL (mkC c) (mkR c) (.slice a2 ps2.length cc2)), rB b3 24 (cL c), rS la2 lc2 4 (l2.map entRow), rS a2 cc2 4 (ps2.map rowOf), rS (some y) rc 5 (acts.map actRow)]) → QR .normal ac1 wz) : (regAt Try.f12 27).wp Try.prog QR ac0 wb := by
  refine wp_region_sq (by kernel_rfl) 175 hz (by kernel_rfl) (fun (xx : Unit) jx => nth [.int .i64 tt, .int .i64 tt] jx) (fun (LL : Nat → Bool) (xx : Unit) ww => Hp [] wa ww [rB b10 87 [.int .i64 x.kind, .int .i64 x.now, .int .i64 x.who, .int .u64 x.key, .string x.body], rB b8 99 (rkL (mkC c) (.slice la2 l2.length lc2)), rB b7 84 (kL (mkC c) (mkR c) (.slice a2 ps2.length cc2)), rB b3 24 (cL c), rS la2 lc2 4 (l2.map entRow), rS a2 cc2 4 (ps2.map rowOf), rS (some y) rc 5 (acts.map actRow)]) () H.out ?_ (steps_al ?_) ?_ ?_
  · exact fun _ _ _ _ _ h => h
  · refine al_cons ?_ (al_cons ?_ (al_nil))
    · intro LL xx ac wc sg hst hwant QQ hgo
      exact op_val hwant hgo hst _ (exec_move rfl ((sg.free 2 (by kernel_rfl)).trans so2)) rfl
    · intro LL xx ac wc sg hst hwant QQ hgo
      exact op_val hwant hgo hst _ (exec_assign rfl (sg.slot 0 (sg.anc 0 rfl))) rfl
  · exact skips [] (by kernel_rfl) (fun _ h => by cases h)
  · intro xx ac1 wz hfr hsl hst
    exact hfin ac1 wz (hfr.size.trans hz) hfr.defers (fr_keep hfr [19, 160] (by kernel_rfl)) (hsl 1 (by decide)) (Lib.hid hst)
set_option maxRecDepth 20000 in
theorem exact_w_r28 (c : Cfg) (rc : Nat) (acts : List ActK) (tt : Int) (b3 : Nat) (b7 : Nat) (b8 : Nat) (i : Nat) (hi : i ≤ acts.length) (hi2 : i ≤ 60) (z1ld : i < acts.length) (z1rd : (i : Int) < 60) (y : Addr) (x : ActK) (hk0 : 0 ≤ x.key) (hk1 : x.key ≤ 18446744073709551615) (hxn : x.now ≤ 9223372036854775807) (b10 : Nat) (z2d : ¬ (40 < (x.body.size : Int))) (a2 : Option Addr) (cc2 : Nat) (ps2 : List PairV) (la2 : Option Addr) (lc2 : Nat) (l2 : List EntR) {wa wb : World} (H : Hid (Hp [] wa wb [rB b10 87 [.int .i64 x.kind, .int .i64 x.now, .int .i64 x.who, .int .u64 x.key, .string x.body], rB b8 99 (rkL (mkC c) (.slice la2 l2.length lc2)), rB b7 84 (kL (mkC c) (mkR c) (.slice a2 ps2.length cc2)), rB b3 24 (cL c), rS la2 lc2 4 (l2.map entRow), rS a2 cc2 4 (ps2.map rowOf), rS (some y) rc 5 (acts.map actRow)])) (ac0 : Act) (hz : ac0.tmps.size = 175) (so2 : ac0.eval (.tmp 2) = .int .i64 tt) {QR : Exit → Act → World → Prop} (hfin : ∀ (ac1 : Act) (wz : World), ac1.tmps.size = 175 → ac1.defers = ac0.defers → (∀ t, ([161, 162, 163, 164, 165, 166] : List Nat).contains t = false → ac1.eval (.tmp t) = ac0.eval (.tmp t)) → ac1.eval (.tmp 166) = .bool ((decide (tt < (-1099511627776))) || (decide (1099511627776 < tt))) →  Hid (Hp [] wa wz [rB b10 87 [.int .i64 x.kind, .int .i64 x.now, .int .i64 x.who, .int .u64 x.key, .string x.body], rB b8 99 (rkL (mkC c) (.slice la2 l2.length lc2)), rB b7 84 (kL (mkC c) (mkR c) (.slice a2 ps2.length cc2)), rB b3 24 (cL c), rS la2 lc2 4 (l2.map entRow), rS a2 cc2 4 (ps2.map rowOf), rS (some y) rc 5 (acts.map actRow)]) → QR .normal ac1 wz) : (regAt Try.f12 28).wp Try.prog QR ac0 wb := by
  refine wp_region_sq (by kernel_rfl) 175 hz (by kernel_rfl) (fun (xx : Unit) jx => nth [.int .i64 tt, .bool (decide (tt < (-1099511627776))), .bool (decide (tt < (-1099511627776))), bif !(decide (tt < (-1099511627776))) then .int .i64 tt else undef, bif !(decide (tt < (-1099511627776))) then .bool (decide (1099511627776 < tt)) else undef, .bool ((decide (tt < (-1099511627776))) || (decide (1099511627776 < tt)))] jx) (fun (LL : Nat → Bool) (xx : Unit) ww => Hp [] wa ww [rB b10 87 [.int .i64 x.kind, .int .i64 x.now, .int .i64 x.who, .int .u64 x.key, .string x.body], rB b8 99 (rkL (mkC c) (.slice la2 l2.length lc2)), rB b7 84 (kL (mkC c) (mkR c) (.slice a2 ps2.length cc2)), rB b3 24 (cL c), rS la2 lc2 4 (l2.map entRow), rS a2 cc2 4 (ps2.map rowOf), rS (some y) rc 5 (acts.map actRow)]) () H.out ?_ (steps_al ?_) ?_ ?_
  · exact fun _ _ _ _ _ h => h
  · refine al_cons ?_ (al_cons ?_ (al_cons ?_ (al_cons ?_ (al_cons ?_ (al_cons ?_ (al_nil))))))
    · intro LL xx ac wc sg hst hwant QQ hgo
      exact op_val hwant hgo hst _ (exec_move rfl ((sg.free 2 (by kernel_rfl)).trans so2)) rfl
    · intro LL xx ac wc sg hst hwant QQ hgo
      have se161 : ac.eval (.tmp 161) = _ := (sg.slot 0 (sg.anc 0 rfl))
      have sg161 := gt_of se161
      (try simp only [nth] at se161 sg161)
      exact op_val hwant hgo hst _ (by simp only [execOp, nth]; go_simp <;> omega) rfl
    · intro LL xx ac wc sg hst hwant QQ hgo
      exact op_val hwant hgo hst _ (exec_move rfl (sg.slot 1 (sg.anc 1 rfl))) rfl
    · intro LL xx ac wc sg hst hwant QQ hgo
      have hG : (!(decide (tt < (-1099511627776)))) = true := (want_f rfl rfl (sg.slot 2 (sg.anc 2 rfl))).symm.trans hwant
      exact op_val hwant hgo hst _ (exec_move rfl ((sg.free 2 (by kernel_rfl)).trans so2)) (cI hG)
    · intro LL xx ac wc sg hst hwant QQ hgo
      have hG : (!(decide (tt < (-1099511627776)))) = true := (want_f rfl rfl (sg.slot 2 (sg.anc 2 rfl))).symm.trans hwant
      have se164 : ac.eval (.tmp 164) = _ := (cT (sg.slot 3 (sg.anc 3 rfl)) hG)
      have sg164 := gt_of se164
      (try simp only [nth] at se164 sg164)
      exact op_val hwant hgo hst _ (by simp only [execOp, nth]; go_simp <;> omega) (cI hG)
    · intro LL xx ac wc sg hst hwant QQ hgo
      exact op_val hwant hgo hst (.bool ((decide (tt < (-1099511627776))) || (decide (1099511627776 < tt)))) (exec_or (Y := decide (1099511627776 < tt)) rfl (sg.slot 2 (sg.anc 2 rfl)) (fun qq => cT (sg.slot 4 (sg.anc 4 rfl)) (bk qq))) rfl
  · refine skips [3, 4] (by kernel_rfl) ?_
    refine List.forall_mem_cons.2 ⟨?_, List.forall_mem_cons.2 ⟨?_, fun _ h => by cases h⟩⟩
    · intro oo hop LL xx ac sg hwant
      cases Option.some.inj hop
      have hG : (!(decide (tt < (-1099511627776)))) = false := (want_f rfl rfl (sg.slot 2 (sg.anc 2 rfl))).symm.trans hwant
      exact ⟨cF hG, fun _ h => h⟩
    · intro oo hop LL xx ac sg hwant
      cases Option.some.inj hop
      have hG : (!(decide (tt < (-1099511627776)))) = false := (want_f rfl rfl (sg.slot 2 (sg.anc 2 rfl))).symm.trans hwant
      exact ⟨cF hG, fun _ h => h⟩
  · intro xx ac1 wz hfr hsl hst
    exact hfin ac1 wz (hfr.size.trans hz) hfr.defers (fr_keep hfr [161, 162, 163, 164, 165, 166] (by kernel_rfl)) (hsl 5 (by decide)) (Lib.hid hst)
set_option maxRecDepth 20000 in
theorem exact_w_r30 (c : Cfg) (rc : Nat) (acts : List ActK) (b3 : Nat) (b7 : Nat) (b8 : Nat) (i : Nat) (hi : i ≤ acts.length) (hi2 : i ≤ 60) (z1ld : i < acts.length) (z1rd : (i : Int) < 60) (y : Addr) (x : ActK) (hk0 : 0 ≤ x.key) (hk1 : x.key ≤ 18446744073709551615) (hxn : x.now ≤ 9223372036854775807) (b10 : Nat) (z2d : ¬ (40 < (x.body.size : Int))) (a2 : Option Addr) (cc2 : Nat) (ps2 : List PairV) (la2 : Option Addr) (lc2 : Nat) (l2 : List EntR) (hrel : Hid (RelK (mkC c) (mkR c) ps2 l2)) (nw : Int) {wa wb : World} (H : Hid (Hp [] wa wb [rB b10 87 [.int .i64 x.kind, .int .i64 x.now, .int .i64 x.who, .int .u64 x.key, .string x.body], rB b8 99 (rkL (mkC c) (.slice la2 l2.length lc2)), rB b7 84 (kL (mkC c) (mkR c) (.slice a2 ps2.length cc2)), rB b3 24 (cL c), rS la2 lc2 4 (l2.map entRow), rS a2 cc2 4 (ps2.map rowOf), rS (some y) rc 5 (acts.map actRow)])) (ac0 : Act) (hz : ac0.tmps.size = 175) (so7 : ac0.eval (.tmp 7) = .pointer (some ⟨b7, 0, none⟩)) (so8 : ac0.eval (.tmp 8) = .pointer (some ⟨b8, 0, none⟩)) (so19 : ac0.eval (.tmp 19) = .int .i64 nw) {QR : Exit → Act → World → Prop} (hfin : ∀ (a30_5 : Option Addr) (c30_5 : Nat) (ac1 : Act) (wz : World), ac1.tmps.size = 175 → ac1.defers = ac0.defers → (∀ t, ([167, 168, 169, 170, 171, 172, 173, 174] : List Nat).contains t = false → ac1.eval (.tmp t) = ac0.eval (.tmp t)) → ac1.eval (.tmp 174) = .bool (((ps2.filter (keepB (mkC c) nw)).length : Int) != ((l2.filter (keepR (mkC c) nw)).length : Int)) →  Hid (Hp [] wa wz [rA a30_5 c30_5 136 4 ((l2.filter (keepR (mkC c) nw)).map entRow), rB b10 87 [.int .i64 x.kind, .int .i64 x.now, .int .i64 x.who, .int .u64 x.key, .string x.body], rB b8 99 (rkL (mkC c) (.slice la2 l2.length lc2)), rB b7 84 (kL (mkC c) (mkR c) (.slice a2 ps2.length cc2)), rB b3 24 (cL c), rS la2 lc2 4 (l2.map entRow), rS a2 cc2 4 (ps2.map rowOf), rS (some y) rc 5 (acts.map actRow)]) → QR .normal ac1 wz) : (regAt Try.f12 30).wp Try.prog QR ac0 wb := by
  refine wp_region_st mixedP ⟨[0, 0, 1, 0, 0, 2, 3, 4], by kernel_rfl⟩ [[], [], [0, 1], [], [], [0, 1, 2, 3, 4], [0, 1, 2, 3, 4, 5], [0, 1, 2, 3, 4, 5, 6]] (by kernel_rfl) (by kernel_rfl) 175 hz (by kernel_rfl) (fun (xx : Option Addr × Nat) jx => match xx with | (a30_5, c30_5) => nth [.agg (kA (mkC c) (mkR c) (.slice a2 ps2.length cc2)), .int .i64 nw, .int .i64 ((ps2.filter (keepB (mkC c) nw)).length), .agg (rkA (mkC c) (.slice la2 l2.length lc2)), .int .i64 nw, .slice a30_5 ((l2.filter (keepR (mkC c) nw)).length) c30_5, .int .i64 ((l2.filter (keepR (mkC c) nw)).length), .bool (((ps2.filter (keepB (mkC c) nw)).length : Int) != ((l2.filter (keepR (mkC c) nw)).length : Int))] jx) (fun (LL : Nat → Bool) (xx : Option Addr × Nat) ww => match xx with | (a30_5, c30_5) => Hp [] wa ww (bif LL 5 then [rA a30_5 c30_5 136 4 ((l2.filter (keepR (mkC c) nw)).map entRow), rB b10 87 [.int .i64 x.kind, .int .i64 x.now, .int .i64 x.who, .int .u64 x.key, .string x.body], rB b8 99 (rkL (mkC c) (.slice la2 l2.length lc2)), rB b7 84 (kL (mkC c) (mkR c) (.slice a2 ps2.length cc2)), rB b3 24 (cL c), rS la2 lc2 4 (l2.map entRow), rS a2 cc2 4 (ps2.map rowOf), rS (some y) rc 5 (acts.map actRow)] else [rB b10 87 [.int .i64 x.kind, .int .i64 x.now, .int .i64 x.who, .int .u64 x.key, .string x.body], rB b8 99 (rkL (mkC c) (.slice la2 l2.length lc2)), rB b7 84 (kL (mkC c) (mkR c) (.slice a2 ps2.length cc2)), rB b3 24 (cL c), rS la2 lc2 4 (l2.map entRow), rS a2 cc2 4 (ps2.map rowOf), rS (some y) rc 5 (acts.map actRow)])) (default, default) H.out.drew ?_ (steps_al ?_) ?_ ?_
  · intro L1 L2 xx ww hL sg
    have lh5 := hL 5 (by decide)
    simp only [lh5] at sg
    exact sg
  · refine al_cons ?_ (al_cons ?_ (al_cons ?_ (al_cons ?_ (al_cons ?_ (al_cons ?_ (al_cons ?_ (al_cons ?_ (al_nil))))))))
    · intro LL xx ac wc sg hst hwant QQ hgo
      obtain ⟨a30_5, c30_5⟩ := xx
      have H := Lib.hid hst
      simp only [sg.des 5 rfl, cond_true, cond_false] at H
      refine hpA_load tykeys_Keys H rfl ((sg.free 7 (by kernel_rfl)).trans so7) hwant (by (repeat (first | exact List.Mem.head _ | apply List.Mem.tail))) (by rfl) rfl ?_
      exact hgo _ (a30_5, c30_5) _ (fun _ _ => rfl) rfl hst
    · intro LL xx ac wc sg hst hwant QQ hgo
      obtain ⟨a30_5, c30_5⟩ := xx
      exact op_val hwant hgo hst _ (exec_move rfl ((sg.free 19 (by kernel_rfl)).trans so19)) rfl
    · intro LL xx ac wc sg hst hwant QQ hgo
      obtain ⟨a30_5, c30_5⟩ := xx
      have se167 : ac.eval (.tmp 167) = _ := (sg.slot 0 (sg.anc 0 rfl))
      have sg167 := gt_of se167
      have se168 : ac.eval (.tmp 168) = _ := (sg.slot 1 (sg.anc 1 rfl))
      have sg168 := gt_of se168
      (try simp only [nth] at se167 sg167 se168 sg168)
      have H := Lib.hid hst
      simp only [sg.des 5 rfl, cond_true, cond_false] at H
      refine op_call hwant hgo 51 _ (by simp only [execOp]; go_simp) (countC (mkC c) (mkR c) a2 cc2 ps2 nw wc (hp_held H (by (repeat (first | exact List.Mem.head _ | apply List.Mem.tail)))) (few_rel hrel.out)) ?_
      rintro er wd ⟨rfl, hof⟩
      exact ⟨_, (a30_5, c30_5), rfl, fun _ _ => rfl, rfl, Hp.quiet hst hof⟩
    · intro LL xx ac wc sg hst hwant QQ hgo
      obtain ⟨a30_5, c30_5⟩ := xx
      have H := Lib.hid hst
      simp only [sg.des 5 rfl, cond_true, cond_false] at H
      refine hpA_load tyhoistwayref10_Keys H rfl ((sg.free 8 (by kernel_rfl)).trans so8) hwant (by (repeat (first | exact List.Mem.head _ | apply List.Mem.tail))) (by rfl) rfl ?_
      exact hgo _ (a30_5, c30_5) _ (fun _ _ => rfl) rfl hst
    · intro LL xx ac wc sg hst hwant QQ hgo
      obtain ⟨a30_5, c30_5⟩ := xx
      exact op_val hwant hgo hst _ (exec_move rfl ((sg.free 19 (by kernel_rfl)).trans so19)) rfl
    · intro LL xx ac wc sg hst hwant QQ hgo
      obtain ⟨_, _⟩ := xx
      have se170 : ac.eval (.tmp 170) = _ := (sg.slot 3 (sg.anc 3 rfl))
      have sg170 := gt_of se170
      have se171 : ac.eval (.tmp 171) = _ := (sg.slot 4 (sg.anc 4 rfl))
      have sg171 := gt_of se171
      (try simp only [nth] at se170 sg170 se171 sg171)
      have H := Lib.hid hst
      simp only [sg.self, cond_true, cond_false] at H
      refine op_call hwant hgo 58 _ (by simp only [execOp]; go_simp) (countsR (mkC c) la2 lc2 l2 nw wc (hp_held H (by (repeat (first | exact List.Mem.head _ | apply List.Mem.tail)))) (few_rel2 hrel.out) (rel_keys hrel.out)) ?_
      rintro er wd ⟨a30_5, c30_5, rfl, hA, hfA, hof⟩
      have H2 := hp_gotA H hof hA hfA
      exact ⟨_, (a30_5, c30_5), rfl, (sg.agree (x' := (a30_5, c30_5)) (n := 8) rfl (by (iterate 8 (refine ix_cons (by first | exact fun _ => rfl | exact no sg.self | exact no (sg.des _ rfl)) ?_)); exact ix_nil)), rfl, (by simp only [(show upd LL 5 5 = true from rfl), cond_true, cond_false]; exact H2.out)⟩
    · intro LL xx ac wc sg hst hwant QQ hgo
      obtain ⟨a30_5, c30_5⟩ := xx
      have se172 : ac.eval (.tmp 172) = _ := (sg.slot 5 (sg.anc 5 rfl))
      have sg172 := gt_of se172
      (try simp only [nth] at se172 sg172)
      exact op_val hwant hgo hst _ (by simp only [execOp, nth]; go_simp <;> omega) rfl
    · intro LL xx ac wc sg hst hwant QQ hgo
      obtain ⟨a30_5, c30_5⟩ := xx
      have se169 : ac.eval (.tmp 169) = _ := (sg.slot 2 (sg.anc 2 rfl))
      have sg169 := gt_of se169
      have se173 : ac.eval (.tmp 173) = _ := (sg.slot 6 (sg.anc 6 rfl))
      have sg173 := gt_of se173
      (try simp only [nth] at se169 sg169 se173 sg173)
      exact op_val hwant hgo hst _ (by simp only [execOp, nth]; go_simp <;> omega) rfl
  · exact skips [] (by kernel_rfl) (fun _ h => by cases h)
  · intro xx ac1 wz hfr hsl hst
    obtain ⟨a30_5, c30_5⟩ := xx
    exact hfin a30_5 c30_5 ac1 wz (hfr.size.trans hz) hfr.defers (fr_keep hfr [167, 168, 169, 170, 171, 172, 173, 174] (by kernel_rfl)) (hsl 7 (by decide)) (Lib.hid hst)
set_option maxRecDepth 20000 in
theorem exact_w_r9 (c : Cfg) (rc : Nat) (acts : List ActK) (b3 : Nat) (b7 : Nat) (b8 : Nat) (i : Nat) (hi : i ≤ acts.length) (hi2 : i ≤ 60) (z1ld : i < acts.length) (z1rd : (i : Int) < 60) (y : Addr) (x : ActK) (hk0 : 0 ≤ x.key) (hk1 : x.key ≤ 18446744073709551615) (hxn : x.now ≤ 9223372036854775807) (b10 : Nat) (z2d : ¬ (40 < (x.body.size : Int))) (a2 : Option Addr) (cc2 : Nat) (ps2 : List PairV) (la2 : Option Addr) (lc2 : Nat) (l2 : List EntR) (nw : Int) (a30_5 : Option Addr) (c30_5 : Nat) {wa wb : World} (H : Hid (Hp [] wa wb [rA a30_5 c30_5 136 4 ((l2.filter (keepR (mkC c) nw)).map entRow), rB b10 87 [.int .i64 x.kind, .int .i64 x.now, .int .i64 x.who, .int .u64 x.key, .string x.body], rB b8 99 (rkL (mkC c) (.slice la2 l2.length lc2)), rB b7 84 (kL (mkC c) (mkR c) (.slice a2 ps2.length cc2)), rB b3 24 (cL c), rS la2 lc2 4 (l2.map entRow), rS a2 cc2 4 (ps2.map rowOf), rS (some y) rc 5 (acts.map actRow)])) (ac0 : Act) (hz : ac0.tmps.size = 175) (so9 : ac0.eval (.tmp 9) = .int .i64 i) {QR : Exit → Act → World → Prop} (hfin : ∀ (ac1 : Act) (wz : World), ac1.tmps.size = 175 → ac1.defers = ac0.defers → (∀ t, ([9, 37, 38] : List Nat).contains t = false → ac1.eval (.tmp t) = ac0.eval (.tmp t)) → ac1.eval (.tmp 9) = .int .i64 (i + 1) →  Hid (Hp [] wa wz [rA a30_5 c30_5 136 4 ((l2.filter (keepR (mkC c) nw)).map entRow), rB b10 87 [.int .i64 x.kind, .int .i64 x.now, .int .i64 x.who, .int .u64 x.key, .string x.body], rB b8 99 (rkL (mkC c) (.slice la2 l2.length lc2)), rB b7 84 (kL (mkC c) (mkR c) (.slice a2 ps2.length cc2)), rB b3 24 (cL c), rS la2 lc2 4 (l2.map entRow), rS a2 cc2 4 (ps2.map rowOf), rS (some y) rc 5 (acts.map actRow)]) → QR .normal ac1 wz) : (regAt Try.f12 9).wp Try.prog QR ac0 wb := by
  refine wp_region_sq (by kernel_rfl) 175 hz (by kernel_rfl) (fun (xx : Unit) jx => nth [.int .i64 i, .int .i64 (i + 1), .int .i64 (i + 1)] jx) (fun (LL : Nat → Bool) (xx : Unit) ww => Hp [] wa ww [rA a30_5 c30_5 136 4 ((l2.filter (keepR (mkC c) nw)).map entRow), rB b10 87 [.int .i64 x.kind, .int .i64 x.now, .int .i64 x.who, .int .u64 x.key, .string x.body], rB b8 99 (rkL (mkC c) (.slice la2 l2.length lc2)), rB b7 84 (kL (mkC c) (mkR c) (.slice a2 ps2.length cc2)), rB b3 24 (cL c), rS la2 lc2 4 (l2.map entRow), rS a2 cc2 4 (ps2.map rowOf), rS (some y) rc 5 (acts.map actRow)]) () H.out ?_ (steps_al ?_) ?_ ?_
  · exact fun _ _ _ _ _ h => h
  · refine al_cons ?_ (al_cons ?_ (al_cons ?_ (al_nil)))
    · intro LL xx ac wc sg hst hwant QQ hgo
      exact op_val hwant hgo hst _ (exec_move rfl ((sg.yet 9 2 (sg.des 2 rfl) (by kernel_rfl)).trans so9)) rfl
    · intro LL xx ac wc sg hst hwant QQ hgo
      have se37 : ac.eval (.tmp 37) = _ := (sg.slot 0 (sg.anc 0 rfl))
      have sg37 := gt_of se37
      (try simp only [nth] at se37 sg37)
      have hnw : IntKind.i64.wrap (i + 1 : Int) = i + 1 := IntWalk.i64_in _ (by omega)
      exact op_val hwant hgo hst _ (by simp only [execOp, nth]; go_simp <;> omega) rfl
    · intro LL xx ac wc sg hst hwant QQ hgo
      exact op_val hwant hgo hst _ (exec_assign rfl (sg.slot 1 (sg.anc 1 rfl))) rfl
  · exact skips [] (by kernel_rfl) (fun _ h => by cases h)
  · intro xx ac1 wz hfr hsl hst
    exact hfin ac1 wz (hfr.size.trans hz) hfr.defers (fr_keep hfr [9, 37, 38] (by kernel_rfl)) (hsl 2 (by decide)) (Lib.hid hst)
set_option maxRecDepth 20000 in
theorem exact_w_r29 (c : Cfg) (rc : Nat) (acts : List ActK) (b3 : Nat) (b7 : Nat) (b8 : Nat) (i : Nat) (hi : i ≤ acts.length) (hi2 : i ≤ 60) (z1ld : i < acts.length) (z1rd : (i : Int) < 60) (y : Addr) (x : ActK) (hk0 : 0 ≤ x.key) (hk1 : x.key ≤ 18446744073709551615) (hxn : x.now ≤ 9223372036854775807) (b10 : Nat) (z2d : ¬ (40 < (x.body.size : Int))) (a2 : Option Addr) (cc2 : Nat) (ps2 : List PairV) (la2 : Option Addr) (lc2 : Nat) (l2 : List EntR) {wa wb : World} (H : Hid (Hp [] wa wb [rB b10 87 [.int .i64 x.kind, .int .i64 x.now, .int .i64 x.who, .int .u64 x.key, .string x.body], rB b8 99 (rkL (mkC c) (.slice la2 l2.length lc2)), rB b7 84 (kL (mkC c) (mkR c) (.slice a2 ps2.length cc2)), rB b3 24 (cL c), rS la2 lc2 4 (l2.map entRow), rS a2 cc2 4 (ps2.map rowOf), rS (some y) rc 5 (acts.map actRow)])) (ac0 : Act) (hz : ac0.tmps.size = 175)  {QR : Exit → Act → World → Prop} (hfin : ∀ (ac1 : Act) (wz : World), ac1.tmps.size = 175 → ac1.defers = ac0.defers → (∀ t, ([19] : List Nat).contains t = false → ac1.eval (.tmp t) = ac0.eval (.tmp t)) → ac1.eval (.tmp 19) = .int .i64 7 →  Hid (Hp [] wa wz [rB b10 87 [.int .i64 x.kind, .int .i64 x.now, .int .i64 x.who, .int .u64 x.key, .string x.body], rB b8 99 (rkL (mkC c) (.slice la2 l2.length lc2)), rB b7 84 (kL (mkC c) (mkR c) (.slice a2 ps2.length cc2)), rB b3 24 (cL c), rS la2 lc2 4 (l2.map entRow), rS a2 cc2 4 (ps2.map rowOf), rS (some y) rc 5 (acts.map actRow)]) → QR .normal ac1 wz) : (regAt Try.f12 29).wp Try.prog QR ac0 wb := by
  refine wp_region_sq (by kernel_rfl) 175 hz (by kernel_rfl) (fun (xx : Unit) jx => nth [.int .i64 7] jx) (fun (LL : Nat → Bool) (xx : Unit) ww => Hp [] wa ww [rB b10 87 [.int .i64 x.kind, .int .i64 x.now, .int .i64 x.who, .int .u64 x.key, .string x.body], rB b8 99 (rkL (mkC c) (.slice la2 l2.length lc2)), rB b7 84 (kL (mkC c) (mkR c) (.slice a2 ps2.length cc2)), rB b3 24 (cL c), rS la2 lc2 4 (l2.map entRow), rS a2 cc2 4 (ps2.map rowOf), rS (some y) rc 5 (acts.map actRow)]) () H.out ?_ (steps_al ?_) ?_ ?_
  · exact fun _ _ _ _ _ h => h
  · refine al_cons ?_ (al_nil)
    · intro LL xx ac wc sg hst hwant QQ hgo
      exact op_val hwant hgo hst _ (exec_assign rfl rfl) rfl
  · exact skips [] (by kernel_rfl) (fun _ h => by cases h)
  · intro xx ac1 wz hfr hsl hst
    exact hfin ac1 wz (hfr.size.trans hz) hfr.defers (fr_keep hfr [19] (by kernel_rfl)) (hsl 0 (by decide)) (Lib.hid hst)
set_option maxRecDepth 20000 in
theorem exact_w_r20 (c : Cfg) (rc : Nat) (acts : List ActK) (b3 : Nat) (b7 : Nat) (b8 : Nat) (i : Nat) (a : Option Addr) (cc : Nat) (ps : List PairV) (la : Option Addr) (lc : Nat) (l : List EntR) (hi : i ≤ acts.length) (hi2 : i ≤ 60) (hrel : Hid (RelK (mkC c) (mkR c) ps l)) (z1ld : i < acts.length) (z1rd : (i : Int) < 60) (y : Addr) (x : ActK) (hk0 : 0 ≤ x.key) (hk1 : x.key ≤ 18446744073709551615) (hxn : x.now ≤ 9223372036854775807) (b10 : Nat) (z2d : ¬ (40 < (x.body.size : Int))) (y8 : ((lookV (mkC c) ps x.now x.who x.key x.body).2 != 1) = true) {wa wb : World} (H : Hid (Hp [] wa wb [rB b10 87 [.int .i64 x.kind, .int .i64 x.now, .int .i64 x.who, .int .u64 x.key, .string x.body], rB b8 99 (rkL (mkC c) (.slice la l.length lc)), rB b7 84 (kL (mkC c) (mkR c) (.slice a ps.length cc)), rB b3 24 (cL c), rS la lc 4 (l.map entRow), rS a cc 4 (ps.map rowOf), rS (some y) rc 5 (acts.map actRow)])) (ac0 : Act) (hz : ac0.tmps.size = 175) (so7 : ac0.eval (.tmp 7) = .pointer (some ⟨b7, 0, none⟩)) (so10 : ac0.eval (.tmp 10) = .pointer (some ⟨b10, 0, none⟩)) {QR : Exit → Act → World → Prop} (hfin : ∀ (b15 : Nat) (ac1 : Act) (wz : World), ac1.tmps.size = 175 → ac1.defers = ac0.defers → (∀ t, ([15, 16, 111, 112, 113, 114, 115, 116, 117, 118, 119, 120, 121, 122, 123, 124, 125, 126] : List Nat).contains t = false → ac1.eval (.tmp t) = ac0.eval (.tmp t)) → ac1.eval (.tmp 15) = .pointer (some ⟨b15, 0, none⟩) → ac1.eval (.tmp 16) = .int .i64 7 →  Hid (Hp [] wa wz [rB b15 84 [.int .i64 0, .int .i64 0, .int .i64 0, .int .i64 0, .int .i64 0, .int .i64 0, .int .i64 0, .int .i64 0, .int .i64 0, .int .i64 0, .int .i64 0, .int .i64 0, .int .i64 0, .int .i64 0, .int .i64 0, .int .i64 0, .int .i64 0, .int .u32 0, .int .i64 0, .slice none 0 0], rB b10 87 [.int .i64 x.kind, .int .i64 x.now, .int .i64 x.who, .int .u64 x.key, .string x.body], rB b8 99 (rkL (mkC c) (.slice la l.length lc)), rB b7 84 (kL (mkC c) (mkR c) (.slice a ps.length cc)), rB b3 24 (cL c), rS la lc 4 (l.map entRow), rS a cc 4 (ps.map rowOf), rS (some y) rc 5 (acts.map actRow)]) → QR .normal ac1 wz) : (regAt Try.f12 20).wp Try.prog QR ac0 wb := by
  refine wp_region_sq (by kernel_rfl) 175 hz (by kernel_rfl) (fun (xx : Nat) jx => match xx with | b15 => nth [.agg (kA (mkC c) (mkR c) (.slice a ps.length cc)), .pointer (some ⟨b10, 1, none⟩), .int .i64 x.now, .pointer (some ⟨b10, 2, none⟩), .int .i64 x.who, .pointer (some ⟨b10, 3, none⟩), .int .u64 x.key, .pointer (some ⟨b10, 4, none⟩), .string x.body, .pointer (some ⟨b10, 4, none⟩), .string x.body, .string (x.body ++ (⟨#[33]⟩ : ByteArray)), .tuple #[.agg #[.int .i64 0, .int .i64 0, .int .i64 0, .int .i64 0, .int .i64 0, .int .i64 0, .int .i64 0, .int .i64 0, .int .i64 0, .int .i64 0, .int .i64 0, .int .i64 0, .int .i64 0, .int .i64 0, .int .i64 0, .int .i64 0, .int .i64 0, .int .u32 0, .int .i64 0, .slice none 0 0], .int .i64 7], .tuple #[.agg #[.int .i64 0, .int .i64 0, .int .i64 0, .int .i64 0, .int .i64 0, .int .i64 0, .int .i64 0, .int .i64 0, .int .i64 0, .int .i64 0, .int .i64 0, .int .i64 0, .int .i64 0, .int .i64 0, .int .i64 0, .int .i64 0, .int .i64 0, .int .u32 0, .int .i64 0, .slice none 0 0], .int .i64 7], .agg #[.int .i64 0, .int .i64 0, .int .i64 0, .int .i64 0, .int .i64 0, .int .i64 0, .int .i64 0, .int .i64 0, .int .i64 0, .int .i64 0, .int .i64 0, .int .i64 0, .int .i64 0, .int .i64 0, .int .i64 0, .int .i64 0, .int .i64 0, .int .u32 0, .int .i64 0, .slice none 0 0], .int .i64 7, .pointer (some ⟨b15, 0, none⟩), undef, .int .i64 7] jx) (fun (LL : Nat → Bool) (xx : Nat) ww => match xx with | b15 => Hp [] wa ww (bif LL 17 then [rB b15 84 [.int .i64 0, .int .i64 0, .int .i64 0, .int .i64 0, .int .i64 0, .int .i64 0, .int .i64 0, .int .i64 0, .int .i64 0, .int .i64 0, .int .i64 0, .int .i64 0, .int .i64 0, .int .i64 0, .int .i64 0, .int .i64 0, .int .i64 0, .int .u32 0, .int .i64 0, .slice none 0 0], rB b10 87 [.int .i64 x.kind, .int .i64 x.now, .int .i64 x.who, .int .u64 x.key, .string x.body], rB b8 99 (rkL (mkC c) (.slice la l.length lc)), rB b7 84 (kL (mkC c) (mkR c) (.slice a ps.length cc)), rB b3 24 (cL c), rS la lc 4 (l.map entRow), rS a cc 4 (ps.map rowOf), rS (some y) rc 5 (acts.map actRow)] else (bif LL 16 then [rB b15 84 [.int .i64 0, .int .i64 0, .int .i64 0, .int .i64 0, .int .i64 0, .int .i64 0, .int .i64 0, .int .i64 0, .int .i64 0, .int .i64 0, .int .i64 0, .int .i64 0, .int .i64 0, .int .i64 0, .int .i64 0, .int .i64 0, .int .i64 0, .int .u32 0, .int .i64 0, .slice none 0 0], rB b10 87 [.int .i64 x.kind, .int .i64 x.now, .int .i64 x.who, .int .u64 x.key, .string x.body], rB b8 99 (rkL (mkC c) (.slice la l.length lc)), rB b7 84 (kL (mkC c) (mkR c) (.slice a ps.length cc)), rB b3 24 (cL c), rS la lc 4 (l.map entRow), rS a cc 4 (ps.map rowOf), rS (some y) rc 5 (acts.map actRow)] else [rB b10 87 [.int .i64 x.kind, .int .i64 x.now, .int .i64 x.who, .int .u64 x.key, .string x.body], rB b8 99 (rkL (mkC c) (.slice la l.length lc)), rB b7 84 (kL (mkC c) (mkR c) (.slice a ps.length cc)), rB b3 24 (cL c), rS la lc 4 (l.map entRow), rS a cc 4 (ps.map rowOf), rS (some y) rc 5 (acts.map actRow)]))) default H.out ?_ (steps_al ?_) ?_ ?_
  · intro L1 L2 xx ww hL sg
    have lh16 := hL 16 (by decide)
    have lh17 := hL 17 (by decide)
    simp only [lh16, lh17] at sg
    exact sg
  · refine al_cons ?_ (al_cons ?_ (al_cons ?_ (al_cons ?_ (al_cons ?_ (al_cons ?_ (al_cons ?_ (al_cons ?_ (al_cons ?_ (al_cons ?_ (al_cons ?_ (al_cons ?_ (al_cons ?_ (al_cons ?_ (al_cons ?_ (al_cons ?_ (al_cons ?_ (al_cons ?_ (al_cons ?_ (al_nil)))))))))))))))))))
    · intro LL xx ac wc sg hst hwant QQ hgo
      revert sg hst hgo; revert xx; intro b15 sg hst hgo
      have H := Lib.hid hst
      simp only [sg.des 16 rfl, sg.des 17 rfl, cond_true, cond_false] at H
      refine hpA_load tykeys_Keys H rfl ((sg.free 7 (by kernel_rfl)).trans so7) hwant (by (repeat (first | exact List.Mem.head _ | apply List.Mem.tail))) (by rfl) rfl ?_
      exact hgo _ b15 _ (fun _ _ => rfl) rfl hst
    · intro LL xx ac wc sg hst hwant QQ hgo
      revert sg hst hgo; revert xx; intro b15 sg hst hgo
      have se10 : ac.eval (.tmp 10) = _ := ((sg.free 10 (by kernel_rfl)).trans so10)
      have sg10 := gt_of se10
      exact op_val hwant hgo hst _ (by simp only [execOp, nth]; go_simp <;> omega) rfl
    · intro LL xx ac wc sg hst hwant QQ hgo
      revert sg hst hgo; revert xx; intro b15 sg hst hgo
      have H := Lib.hid hst
      simp only [sg.des 16 rfl, sg.des 17 rfl, cond_true, cond_false] at H
      refine hpA_load1 tyint H rfl (sg.slot 1 (sg.anc 1 rfl)) hwant (by (repeat (first | exact List.Mem.head _ | apply List.Mem.tail))) (by rfl) ?_
      exact hgo _ b15 _ (fun _ _ => rfl) rfl hst
    · intro LL xx ac wc sg hst hwant QQ hgo
      revert sg hst hgo; revert xx; intro b15 sg hst hgo
      have se10 : ac.eval (.tmp 10) = _ := ((sg.free 10 (by kernel_rfl)).trans so10)
      have sg10 := gt_of se10
      exact op_val hwant hgo hst _ (by simp only [execOp, nth]; go_simp <;> omega) rfl
    · intro LL xx ac wc sg hst hwant QQ hgo
      revert sg hst hgo; revert xx; intro b15 sg hst hgo
      have H := Lib.hid hst
      simp only [sg.des 16 rfl, sg.des 17 rfl, cond_true, cond_false] at H
      refine hpA_load1 tyint H rfl (sg.slot 3 (sg.anc 3 rfl)) hwant (by (repeat (first | exact List.Mem.head _ | apply List.Mem.tail))) (by rfl) ?_
      exact hgo _ b15 _ (fun _ _ => rfl) rfl hst
    · intro LL xx ac wc sg hst hwant QQ hgo
      revert sg hst hgo; revert xx; intro b15 sg hst hgo
      have se10 : ac.eval (.tmp 10) = _ := ((sg.free 10 (by kernel_rfl)).trans so10)
      have sg10 := gt_of se10
      exact op_val hwant hgo hst _ (by simp only [execOp, nth]; go_simp <;> omega) rfl
    · intro LL xx ac wc sg hst hwant QQ hgo
      revert sg hst hgo; revert xx; intro b15 sg hst hgo
      have H := Lib.hid hst
      simp only [sg.des 16 rfl, sg.des 17 rfl, cond_true, cond_false] at H
      refine hpA_load1 tyuint64 H rfl (sg.slot 5 (sg.anc 5 rfl)) hwant (by (repeat (first | exact List.Mem.head _ | apply List.Mem.tail))) (by rfl) ?_
      exact hgo _ b15 _ (fun _ _ => rfl) rfl hst
    · intro LL xx ac wc sg hst hwant QQ hgo
      revert sg hst hgo; revert xx; intro b15 sg hst hgo
      have se10 : ac.eval (.tmp 10) = _ := ((sg.free 10 (by kernel_rfl)).trans so10)
      have sg10 := gt_of se10
      exact op_val hwant hgo hst _ (by simp only [execOp, nth]; go_simp <;> omega) rfl
    · intro LL xx ac wc sg hst hwant QQ hgo
      revert sg hst hgo; revert xx; intro b15 sg hst hgo
      have H := Lib.hid hst
      simp only [sg.des 16 rfl, sg.des 17 rfl, cond_true, cond_false] at H
      refine hpA_load1 tystring H rfl (sg.slot 7 (sg.anc 7 rfl)) hwant (by (repeat (first | exact List.Mem.head _ | apply List.Mem.tail))) (by rfl) ?_
      exact hgo _ b15 _ (fun _ _ => rfl) rfl hst
    · intro LL xx ac wc sg hst hwant QQ hgo
      revert sg hst hgo; revert xx; intro b15 sg hst hgo
      have se10 : ac.eval (.tmp 10) = _ := ((sg.free 10 (by kernel_rfl)).trans so10)
      have sg10 := gt_of se10
      exact op_val hwant hgo hst _ (by simp only [execOp, nth]; go_simp <;> omega) rfl
    · intro LL xx ac wc sg hst hwant QQ hgo
      revert sg hst hgo; revert xx; intro b15 sg hst hgo
      have H := Lib.hid hst
      simp only [sg.des 16 rfl, sg.des 17 rfl, cond_true, cond_false] at H
      refine hpA_load1 tystring H rfl (sg.slot 9 (sg.anc 9 rfl)) hwant (by (repeat (first | exact List.Mem.head _ | apply List.Mem.tail))) (by rfl) ?_
      exact hgo _ b15 _ (fun _ _ => rfl) rfl hst
    · intro LL xx ac wc sg hst hwant QQ hgo
      revert sg hst hgo; revert xx; intro b15 sg hst hgo
      have se122 : ac.eval (.tmp 122) = _ := (sg.slot 10 (sg.anc 10 rfl))
      have sg122 := gt_of se122
      (try simp only [nth] at se122 sg122)
      exact op_val hwant hgo hst _ (by simp only [execOp, nth]; go_simp <;> omega) rfl
    · intro LL xx ac wc sg hst hwant QQ hgo
      revert sg hst hgo; revert xx; intro b15 sg hst hgo
      have se112 : ac.eval (.tmp 112) = _ := (sg.slot 0 (sg.anc 0 rfl))
      have sg112 := gt_of se112
      have se114 : ac.eval (.tmp 114) = _ := (sg.slot 2 (sg.anc 2 rfl))
      have sg114 := gt_of se114
      have se116 : ac.eval (.tmp 116) = _ := (sg.slot 4 (sg.anc 4 rfl))
      have sg116 := gt_of se116
      have se118 : ac.eval (.tmp 118) = _ := (sg.slot 6 (sg.anc 6 rfl))
      have sg118 := gt_of se118
      have se120 : ac.eval (.tmp 120) = _ := (sg.slot 8 (sg.anc 8 rfl))
      have sg120 := gt_of se120
      have se123 : ac.eval (.tmp 123) = _ := (sg.slot 11 (sg.anc 11 rfl))
      have sg123 := gt_of se123
      (try simp only [nth] at se112 sg112 se114 sg114 se116 sg116 se118 sg118 se120 sg120 se123 sg123)
      have H := Lib.hid hst
      simp only [sg.des 16 rfl, sg.des 17 rfl, cond_true, cond_false] at H
      refine op_call hwant hgo 50 _ (by simp only [execOp]; go_simp) (withNo (mkC c) (mkR c) a cc ps x.now x.who x.key x.body (x.body ++ (⟨#[33]⟩ : ByteArray)) wc (hp_held H (by (repeat (first | exact List.Mem.head _ | apply List.Mem.tail)))) hk0 hk1 (Lib.hid hrel.out.sorted) (few_rel hrel.out) y8) ?_
      rintro er wd ⟨rfl, hof⟩
      exact ⟨_, b15, rfl, fun _ _ => rfl, rfl, Hp.quiet hst hof⟩
    · intro LL xx ac wc sg hst hwant QQ hgo
      revert sg hst hgo; revert xx; intro b15 sg hst hgo
      exact op_val hwant hgo hst _ (exec_move rfl (sg.slot 12 (sg.anc 12 rfl))) rfl
    · intro LL xx ac wc sg hst hwant QQ hgo
      revert sg hst hgo; revert xx; intro b15 sg hst hgo
      have se111 : ac.eval (.tmp 111) = _ := (sg.slot 13 (sg.anc 13 rfl))
      have sg111 := gt_of se111
      (try simp only [nth] at se111 sg111)
      exact op_val hwant hgo hst _ (by simp only [execOp, nth]; go_simp <;> omega) rfl
    · intro LL xx ac wc sg hst hwant QQ hgo
      revert sg hst hgo; revert xx; intro b15 sg hst hgo
      have se111 : ac.eval (.tmp 111) = _ := (sg.slot 13 (sg.anc 13 rfl))
      have sg111 := gt_of se111
      (try simp only [nth] at se111 sg111)
      exact op_val hwant hgo hst _ (by simp only [execOp, nth]; go_simp <;> omega) rfl
    · intro LL xx ac wc sg hst hwant QQ hgo
      revert sg hst hgo; revert xx; intro xold sg hst hgo
      have H := Lib.hid hst
      simp only [sg.self, sg.des 17 rfl, cond_true, cond_false] at H
      refine hpA_alloc tykeys_Keys H rfl rfl ?_
      intro wd b15 H2
      exact hgo _ b15 _ (sg.agree (x' := b15) (n := 19) rfl (by (iterate 19 (refine ix_cons (by first | exact fun _ => rfl | exact no sg.self | exact no (sg.des _ rfl)) ?_)); exact ix_nil)) rfl (by simp only [(show upd LL 16 16 = true from rfl), (show upd LL 16 17 = LL 17 from rfl), sg.des 17 rfl, cond_true, cond_false]; exact H2.out)
    · intro LL xx ac wc sg hst hwant QQ hgo
      revert sg hst hgo; revert xx; intro b15 sg hst hgo
      have H := Lib.hid hst
      simp only [sg.anc 16 rfl, sg.self, cond_true, cond_false] at H
      refine hpA_store tykeys_Keys H rfl rfl (sg.slot 16 (sg.anc 16 rfl)) (sg.slot 14 (sg.anc 14 rfl)) rfl (by repeat (first | apply Put.head | apply Put.tail)) (by simp [kA, kL, rkA, rkL, cA, cL]) (by simp [kA, kL, rkA, rkL, cA, cL, Value.oneCell']) (by first | rfl | (simp only [spl]; rfl)) rfl ?_
      intro wd H2
      exact hgo _ b15 _ (sg.agree (x' := b15) (n := 19) rfl (by (iterate 19 (refine ix_cons (by first | exact fun _ => rfl | exact no sg.self | exact no (sg.des _ rfl)) ?_)); exact ix_nil)) rfl (by simp only [(show upd LL 17 16 = LL 16 from rfl), sg.anc 16 rfl, (show upd LL 17 17 = true from rfl), cond_true, cond_false]; exact H2.out)
    · intro LL xx ac wc sg hst hwant QQ hgo
      revert sg hst hgo; revert xx; intro b15 sg hst hgo
      exact op_val hwant hgo hst _ (exec_assign rfl (sg.slot 15 (sg.anc 15 rfl))) rfl
  · exact skips [] (by kernel_rfl) (fun _ h => by cases h)
  · intro xx ac1 wz hfr hsl hst
    revert hsl hst; revert xx; intro b15 hsl hst
    exact hfin b15 ac1 wz (hfr.size.trans hz) hfr.defers (fr_keep hfr [15, 16, 111, 112, 113, 114, 115, 116, 117, 118, 119, 120, 121, 122, 123, 124, 125, 126] (by kernel_rfl)) (hsl 16 (by decide)) (hsl 18 (by decide)) (Lib.hid hst)
set_option maxRecDepth 20000 in
theorem exact_w_r21 (c : Cfg) (rc : Nat) (acts : List ActK) (b3 : Nat) (b7 : Nat) (b8 : Nat) (i : Nat) (a : Option Addr) (cc : Nat) (ps : List PairV) (la : Option Addr) (lc : Nat) (l : List EntR) (hi : i ≤ acts.length) (hi2 : i ≤ 60) (hrel : Hid (RelK (mkC c) (mkR c) ps l)) (z1ld : i < acts.length) (z1rd : (i : Int) < 60) (y : Addr) (x : ActK) (hk0 : 0 ≤ x.key) (hk1 : x.key ≤ 18446744073709551615) (hxn : x.now ≤ 9223372036854775807) (b10 : Nat) (z2d : ¬ (40 < (x.body.size : Int))) (b15 : Nat) (hrx : ((lookR (mkC c) l x.now x.who x.key x.body).2 != 1) = true) {wa wb : World} (H : Hid (Hp [] wa wb [rB b15 84 [.int .i64 0, .int .i64 0, .int .i64 0, .int .i64 0, .int .i64 0, .int .i64 0, .int .i64 0, .int .i64 0, .int .i64 0, .int .i64 0, .int .i64 0, .int .i64 0, .int .i64 0, .int .i64 0, .int .i64 0, .int .i64 0, .int .i64 0, .int .u32 0, .int .i64 0, .slice none 0 0], rB b10 87 [.int .i64 x.kind, .int .i64 x.now, .int .i64 x.who, .int .u64 x.key, .string x.body], rB b8 99 (rkL (mkC c) (.slice la l.length lc)), rB b7 84 (kL (mkC c) (mkR c) (.slice a ps.length cc)), rB b3 24 (cL c), rS la lc 4 (l.map entRow), rS a cc 4 (ps.map rowOf), rS (some y) rc 5 (acts.map actRow)])) (ac0 : Act) (hz : ac0.tmps.size = 175) (so8 : ac0.eval (.tmp 8) = .pointer (some ⟨b8, 0, none⟩)) (so10 : ac0.eval (.tmp 10) = .pointer (some ⟨b10, 0, none⟩)) {QR : Exit → Act → World → Prop} (hfin : ∀ (b17 : Nat) (ac1 : Act) (wz : World), ac1.tmps.size = 175 → ac1.defers = ac0.defers → (∀ t, ([17, 18, 127, 128, 129, 130, 131, 132, 133, 134, 135, 136, 137, 138, 139, 140, 141, 142] : List Nat).contains t = false → ac1.eval (.tmp t) = ac0.eval (.tmp t)) → ac1.eval (.tmp 17) = .pointer (some ⟨b17, 0, none⟩) → ac1.eval (.tmp 18) = .int .i64 7 →  Hid (Hp [] wa wz [rB b17 99 [.int .i64 0, .int .i64 0, .int .i64 0, .int .i64 0, .int .i64 0, .int .i64 0, .int .i64 0, .int .i64 0, .int .i64 0, .int .i64 0, .int .i64 0, .int .i64 0, .int .i64 0, .int .i64 0, .int .i64 0, .int .i64 0, .int .i64 0, .int .u32 0, .slice none 0 0], rB b15 84 [.int .i64 0, .int .i64 0, .int .i64 0, .int .i64 0, .int .i64 0, .int .i64 0, .int .i64 0, .int .i64 0, .int .i64 0, .int .i64 0, .int .i64 0, .int .i64 0, .int .i64 0, .int .i64 0, .int .i64 0, .int .i64 0, .int .i64 0, .int .u32 0, .int .i64 0, .slice none 0 0], rB b10 87 [.int .i64 x.kind, .int .i64 x.now, .int .i64 x.who, .int .u64 x.key, .string x.body], rB b8 99 (rkL (mkC c) (.slice la l.length lc)), rB b7 84 (kL (mkC c) (mkR c) (.slice a ps.length cc)), rB b3 24 (cL c), rS la lc 4 (l.map entRow), rS a cc 4 (ps.map rowOf), rS (some y) rc 5 (acts.map actRow)]) → QR .normal ac1 wz) : (regAt Try.f12 21).wp Try.prog QR ac0 wb := by
  refine wp_region_sq (by kernel_rfl) 175 hz (by kernel_rfl) (fun (xx : Nat) jx => match xx with | b17 => nth [.agg (rkA (mkC c) (.slice la l.length lc)), .pointer (some ⟨b10, 1, none⟩), .int .i64 x.now, .pointer (some ⟨b10, 2, none⟩), .int .i64 x.who, .pointer (some ⟨b10, 3, none⟩), .int .u64 x.key, .pointer (some ⟨b10, 4, none⟩), .string x.body, .pointer (some ⟨b10, 4, none⟩), .string x.body, .string (x.body ++ (⟨#[33]⟩ : ByteArray)), .tuple #[.agg #[.int .i64 0, .int .i64 0, .int .i64 0, .int .i64 0, .int .i64 0, .int .i64 0, .int .i64 0, .int .i64 0, .int .i64 0, .int .i64 0, .int .i64 0, .int .i64 0, .int .i64 0, .int .i64 0, .int .i64 0, .int .i64 0, .int .i64 0, .int .u32 0, .slice none 0 0], .int .i64 7], .tuple #[.agg #[.int .i64 0, .int .i64 0, .int .i64 0, .int .i64 0, .int .i64 0, .int .i64 0, .int .i64 0, .int .i64 0, .int .i64 0, .int .i64 0, .int .i64 0, .int .i64 0, .int .i64 0, .int .i64 0, .int .i64 0, .int .i64 0, .int .i64 0, .int .u32 0, .slice none 0 0], .int .i64 7], .agg #[.int .i64 0, .int .i64 0, .int .i64 0, .int .i64 0, .int .i64 0, .int .i64 0, .int .i64 0, .int .i64 0, .int .i64 0, .int .i64 0, .int .i64 0, .int .i64 0, .int .i64 0, .int .i64 0, .int .i64 0, .int .i64 0, .int .i64 0, .int .u32 0, .slice none 0 0], .int .i64 7, .pointer (some ⟨b17, 0, none⟩), undef, .int .i64 7] jx) (fun (LL : Nat → Bool) (xx : Nat) ww => match xx with | b17 => Hp [] wa ww (bif LL 17 then [rB b17 99 [.int .i64 0, .int .i64 0, .int .i64 0, .int .i64 0, .int .i64 0, .int .i64 0, .int .i64 0, .int .i64 0, .int .i64 0, .int .i64 0, .int .i64 0, .int .i64 0, .int .i64 0, .int .i64 0, .int .i64 0, .int .i64 0, .int .i64 0, .int .u32 0, .slice none 0 0], rB b15 84 [.int .i64 0, .int .i64 0, .int .i64 0, .int .i64 0, .int .i64 0, .int .i64 0, .int .i64 0, .int .i64 0, .int .i64 0, .int .i64 0, .int .i64 0, .int .i64 0, .int .i64 0, .int .i64 0, .int .i64 0, .int .i64 0, .int .i64 0, .int .u32 0, .int .i64 0, .slice none 0 0], rB b10 87 [.int .i64 x.kind, .int .i64 x.now, .int .i64 x.who, .int .u64 x.key, .string x.body], rB b8 99 (rkL (mkC c) (.slice la l.length lc)), rB b7 84 (kL (mkC c) (mkR c) (.slice a ps.length cc)), rB b3 24 (cL c), rS la lc 4 (l.map entRow), rS a cc 4 (ps.map rowOf), rS (some y) rc 5 (acts.map actRow)] else (bif LL 16 then [rB b17 99 [.int .i64 0, .int .i64 0, .int .i64 0, .int .i64 0, .int .i64 0, .int .i64 0, .int .i64 0, .int .i64 0, .int .i64 0, .int .i64 0, .int .i64 0, .int .i64 0, .int .i64 0, .int .i64 0, .int .i64 0, .int .i64 0, .int .i64 0, .int .u32 0, .slice none 0 0], rB b15 84 [.int .i64 0, .int .i64 0, .int .i64 0, .int .i64 0, .int .i64 0, .int .i64 0, .int .i64 0, .int .i64 0, .int .i64 0, .int .i64 0, .int .i64 0, .int .i64 0, .int .i64 0, .int .i64 0, .int .i64 0, .int .i64 0, .int .i64 0, .int .u32 0, .int .i64 0, .slice none 0 0], rB b10 87 [.int .i64 x.kind, .int .i64 x.now, .int .i64 x.who, .int .u64 x.key, .string x.body], rB b8 99 (rkL (mkC c) (.slice la l.length lc)), rB b7 84 (kL (mkC c) (mkR c) (.slice a ps.length cc)), rB b3 24 (cL c), rS la lc 4 (l.map entRow), rS a cc 4 (ps.map rowOf), rS (some y) rc 5 (acts.map actRow)] else [rB b15 84 [.int .i64 0, .int .i64 0, .int .i64 0, .int .i64 0, .int .i64 0, .int .i64 0, .int .i64 0, .int .i64 0, .int .i64 0, .int .i64 0, .int .i64 0, .int .i64 0, .int .i64 0, .int .i64 0, .int .i64 0, .int .i64 0, .int .i64 0, .int .u32 0, .int .i64 0, .slice none 0 0], rB b10 87 [.int .i64 x.kind, .int .i64 x.now, .int .i64 x.who, .int .u64 x.key, .string x.body], rB b8 99 (rkL (mkC c) (.slice la l.length lc)), rB b7 84 (kL (mkC c) (mkR c) (.slice a ps.length cc)), rB b3 24 (cL c), rS la lc 4 (l.map entRow), rS a cc 4 (ps.map rowOf), rS (some y) rc 5 (acts.map actRow)]))) default H.out ?_ (steps_al ?_) ?_ ?_
  · intro L1 L2 xx ww hL sg
    have lh16 := hL 16 (by decide)
    have lh17 := hL 17 (by decide)
    simp only [lh16, lh17] at sg
    exact sg
  · refine al_cons ?_ (al_cons ?_ (al_cons ?_ (al_cons ?_ (al_cons ?_ (al_cons ?_ (al_cons ?_ (al_cons ?_ (al_cons ?_ (al_cons ?_ (al_cons ?_ (al_cons ?_ (al_cons ?_ (al_cons ?_ (al_cons ?_ (al_cons ?_ (al_cons ?_ (al_cons ?_ (al_cons ?_ (al_nil)))))))))))))))))))
    · intro LL xx ac wc sg hst hwant QQ hgo
      revert sg hst hgo; revert xx; intro b17 sg hst hgo
      have H := Lib.hid hst
      simp only [sg.des 16 rfl, sg.des 17 rfl, cond_true, cond_false] at H
      refine hpA_load tyhoistwayref10_Keys H rfl ((sg.free 8 (by kernel_rfl)).trans so8) hwant (by (repeat (first | exact List.Mem.head _ | apply List.Mem.tail))) (by rfl) rfl ?_
      exact hgo _ b17 _ (fun _ _ => rfl) rfl hst
    · intro LL xx ac wc sg hst hwant QQ hgo
      revert sg hst hgo; revert xx; intro b17 sg hst hgo
      have se10 : ac.eval (.tmp 10) = _ := ((sg.free 10 (by kernel_rfl)).trans so10)
      have sg10 := gt_of se10
      exact op_val hwant hgo hst _ (by simp only [execOp, nth]; go_simp <;> omega) rfl
    · intro LL xx ac wc sg hst hwant QQ hgo
      revert sg hst hgo; revert xx; intro b17 sg hst hgo
      have H := Lib.hid hst
      simp only [sg.des 16 rfl, sg.des 17 rfl, cond_true, cond_false] at H
      refine hpA_load1 tyint H rfl (sg.slot 1 (sg.anc 1 rfl)) hwant (by (repeat (first | exact List.Mem.head _ | apply List.Mem.tail))) (by rfl) ?_
      exact hgo _ b17 _ (fun _ _ => rfl) rfl hst
    · intro LL xx ac wc sg hst hwant QQ hgo
      revert sg hst hgo; revert xx; intro b17 sg hst hgo
      have se10 : ac.eval (.tmp 10) = _ := ((sg.free 10 (by kernel_rfl)).trans so10)
      have sg10 := gt_of se10
      exact op_val hwant hgo hst _ (by simp only [execOp, nth]; go_simp <;> omega) rfl
    · intro LL xx ac wc sg hst hwant QQ hgo
      revert sg hst hgo; revert xx; intro b17 sg hst hgo
      have H := Lib.hid hst
      simp only [sg.des 16 rfl, sg.des 17 rfl, cond_true, cond_false] at H
      refine hpA_load1 tyint H rfl (sg.slot 3 (sg.anc 3 rfl)) hwant (by (repeat (first | exact List.Mem.head _ | apply List.Mem.tail))) (by rfl) ?_
      exact hgo _ b17 _ (fun _ _ => rfl) rfl hst
    · intro LL xx ac wc sg hst hwant QQ hgo
      revert sg hst hgo; revert xx; intro b17 sg hst hgo
      have se10 : ac.eval (.tmp 10) = _ := ((sg.free 10 (by kernel_rfl)).trans so10)
      have sg10 := gt_of se10
      exact op_val hwant hgo hst _ (by simp only [execOp, nth]; go_simp <;> omega) rfl
    · intro LL xx ac wc sg hst hwant QQ hgo
      revert sg hst hgo; revert xx; intro b17 sg hst hgo
      have H := Lib.hid hst
      simp only [sg.des 16 rfl, sg.des 17 rfl, cond_true, cond_false] at H
      refine hpA_load1 tyuint64 H rfl (sg.slot 5 (sg.anc 5 rfl)) hwant (by (repeat (first | exact List.Mem.head _ | apply List.Mem.tail))) (by rfl) ?_
      exact hgo _ b17 _ (fun _ _ => rfl) rfl hst
    · intro LL xx ac wc sg hst hwant QQ hgo
      revert sg hst hgo; revert xx; intro b17 sg hst hgo
      have se10 : ac.eval (.tmp 10) = _ := ((sg.free 10 (by kernel_rfl)).trans so10)
      have sg10 := gt_of se10
      exact op_val hwant hgo hst _ (by simp only [execOp, nth]; go_simp <;> omega) rfl
    · intro LL xx ac wc sg hst hwant QQ hgo
      revert sg hst hgo; revert xx; intro b17 sg hst hgo
      have H := Lib.hid hst
      simp only [sg.des 16 rfl, sg.des 17 rfl, cond_true, cond_false] at H
      refine hpA_load1 tystring H rfl (sg.slot 7 (sg.anc 7 rfl)) hwant (by (repeat (first | exact List.Mem.head _ | apply List.Mem.tail))) (by rfl) ?_
      exact hgo _ b17 _ (fun _ _ => rfl) rfl hst
    · intro LL xx ac wc sg hst hwant QQ hgo
      revert sg hst hgo; revert xx; intro b17 sg hst hgo
      have se10 : ac.eval (.tmp 10) = _ := ((sg.free 10 (by kernel_rfl)).trans so10)
      have sg10 := gt_of se10
      exact op_val hwant hgo hst _ (by simp only [execOp, nth]; go_simp <;> omega) rfl
    · intro LL xx ac wc sg hst hwant QQ hgo
      revert sg hst hgo; revert xx; intro b17 sg hst hgo
      have H := Lib.hid hst
      simp only [sg.des 16 rfl, sg.des 17 rfl, cond_true, cond_false] at H
      refine hpA_load1 tystring H rfl (sg.slot 9 (sg.anc 9 rfl)) hwant (by (repeat (first | exact List.Mem.head _ | apply List.Mem.tail))) (by rfl) ?_
      exact hgo _ b17 _ (fun _ _ => rfl) rfl hst
    · intro LL xx ac wc sg hst hwant QQ hgo
      revert sg hst hgo; revert xx; intro b17 sg hst hgo
      have se138 : ac.eval (.tmp 138) = _ := (sg.slot 10 (sg.anc 10 rfl))
      have sg138 := gt_of se138
      (try simp only [nth] at se138 sg138)
      exact op_val hwant hgo hst _ (by simp only [execOp, nth]; go_simp <;> omega) rfl
    · intro LL xx ac wc sg hst hwant QQ hgo
      revert sg hst hgo; revert xx; intro b17 sg hst hgo
      have se128 : ac.eval (.tmp 128) = _ := (sg.slot 0 (sg.anc 0 rfl))
      have sg128 := gt_of se128
      have se130 : ac.eval (.tmp 130) = _ := (sg.slot 2 (sg.anc 2 rfl))
      have sg130 := gt_of se130
      have se132 : ac.eval (.tmp 132) = _ := (sg.slot 4 (sg.anc 4 rfl))
      have sg132 := gt_of se132
      have se134 : ac.eval (.tmp 134) = _ := (sg.slot 6 (sg.anc 6 rfl))
      have sg134 := gt_of se134
      have se136 : ac.eval (.tmp 136) = _ := (sg.slot 8 (sg.anc 8 rfl))
      have sg136 := gt_of se136
      have se139 : ac.eval (.tmp 139) = _ := (sg.slot 11 (sg.anc 11 rfl))
      have sg139 := gt_of se139
      (try simp only [nth] at se128 sg128 se130 sg130 se132 sg132 se134 sg134 se136 sg136 se139 sg139)
      have H := Lib.hid hst
      simp only [sg.des 16 rfl, sg.des 17 rfl, cond_true, cond_false] at H
      refine op_call hwant hgo 56 _ (by simp only [execOp]; go_simp) (withRno (mkC c) la lc l x.now x.who x.key x.body (x.body ++ (⟨#[33]⟩ : ByteArray)) wc (hp_held H (by (repeat (first | exact List.Mem.head _ | apply List.Mem.tail)))) hk0 hk1 (few_rel2 hrel.out) (rel_keys hrel.out) hrx) ?_
      rintro er wd ⟨rfl, hof⟩
      exact ⟨_, b17, rfl, fun _ _ => rfl, rfl, Hp.quiet hst hof⟩
    · intro LL xx ac wc sg hst hwant QQ hgo
      revert sg hst hgo; revert xx; intro b17 sg hst hgo
      exact op_val hwant hgo hst _ (exec_move rfl (sg.slot 12 (sg.anc 12 rfl))) rfl
    · intro LL xx ac wc sg hst hwant QQ hgo
      revert sg hst hgo; revert xx; intro b17 sg hst hgo
      have se127 : ac.eval (.tmp 127) = _ := (sg.slot 13 (sg.anc 13 rfl))
      have sg127 := gt_of se127
      (try simp only [nth] at se127 sg127)
      exact op_val hwant hgo hst _ (by simp only [execOp, nth]; go_simp <;> omega) rfl
    · intro LL xx ac wc sg hst hwant QQ hgo
      revert sg hst hgo; revert xx; intro b17 sg hst hgo
      have se127 : ac.eval (.tmp 127) = _ := (sg.slot 13 (sg.anc 13 rfl))
      have sg127 := gt_of se127
      (try simp only [nth] at se127 sg127)
      exact op_val hwant hgo hst _ (by simp only [execOp, nth]; go_simp <;> omega) rfl
    · intro LL xx ac wc sg hst hwant QQ hgo
      revert sg hst hgo; revert xx; intro xold sg hst hgo
      have H := Lib.hid hst
      simp only [sg.self, sg.des 17 rfl, cond_true, cond_false] at H
      refine hpA_alloc tyhoistwayref10_Keys H rfl rfl ?_
      intro wd b17 H2
      exact hgo _ b17 _ (sg.agree (x' := b17) (n := 19) rfl (by (iterate 19 (refine ix_cons (by first | exact fun _ => rfl | exact no sg.self | exact no (sg.des _ rfl)) ?_)); exact ix_nil)) rfl (by simp only [(show upd LL 16 16 = true from rfl), (show upd LL 16 17 = LL 17 from rfl), sg.des 17 rfl, cond_true, cond_false]; exact H2.out)
    · intro LL xx ac wc sg hst hwant QQ hgo
      revert sg hst hgo; revert xx; intro b17 sg hst hgo
      have H := Lib.hid hst
      simp only [sg.anc 16 rfl, sg.self, cond_true, cond_false] at H
      refine hpA_store tyhoistwayref10_Keys H rfl rfl (sg.slot 16 (sg.anc 16 rfl)) (sg.slot 14 (sg.anc 14 rfl)) rfl (by repeat (first | apply Put.head | apply Put.tail)) (by simp [kA, kL, rkA, rkL, cA, cL]) (by simp [kA, kL, rkA, rkL, cA, cL, Value.oneCell']) (by first | rfl | (simp only [spl]; rfl)) rfl ?_
      intro wd H2
      exact hgo _ b17 _ (sg.agree (x' := b17) (n := 19) rfl (by (iterate 19 (refine ix_cons (by first | exact fun _ => rfl | exact no sg.self | exact no (sg.des _ rfl)) ?_)); exact ix_nil)) rfl (by simp only [(show upd LL 17 16 = LL 16 from rfl), sg.anc 16 rfl, (show upd LL 17 17 = true from rfl), cond_true, cond_false]; exact H2.out)
    · intro LL xx ac wc sg hst hwant QQ hgo
      revert sg hst hgo; revert xx; intro b17 sg hst hgo
      exact op_val hwant hgo hst _ (exec_assign rfl (sg.slot 15 (sg.anc 15 rfl))) rfl
  · exact skips [] (by kernel_rfl) (fun _ h => by cases h)
  · intro xx ac1 wz hfr hsl hst
    revert hsl hst; revert xx; intro b17 hsl hst
    exact hfin b17 ac1 wz (hfr.size.trans hz) hfr.defers (fr_keep hfr [17, 18, 127, 128, 129, 130, 131, 132, 133, 134, 135, 136, 137, 138, 139, 140, 141, 142] (by kernel_rfl)) (hsl 16 (by decide)) (hsl 18 (by decide)) (Lib.hid hst)
set_option maxRecDepth 20000 in
theorem exact_w_r22 (c : Cfg) (rc : Nat) (acts : List ActK) (b3 : Nat) (b7 : Nat) (b8 : Nat) (i : Nat) (a : Option Addr) (cc : Nat) (ps : List PairV) (la : Option Addr) (lc : Nat) (l : List EntR) (hi : i ≤ acts.length) (hi2 : i ≤ 60) (z1ld : i < acts.length) (z1rd : (i : Int) < 60) (y : Addr) (x : ActK) (hk0 : 0 ≤ x.key) (hk1 : x.key ≤ 18446744073709551615) (hxn : x.now ≤ 9223372036854775807) (b10 : Nat) (z2d : ¬ (40 < (x.body.size : Int))) (b15 : Nat) (hrx : ((lookR (mkC c) l x.now x.who x.key x.body).2 != 1) = true) (b17 : Nat) {wa wb : World} (H : Hid (Hp [] wa wb [rB b17 99 [.int .i64 0, .int .i64 0, .int .i64 0, .int .i64 0, .int .i64 0, .int .i64 0, .int .i64 0, .int .i64 0, .int .i64 0, .int .i64 0, .int .i64 0, .int .i64 0, .int .i64 0, .int .i64 0, .int .i64 0, .int .i64 0, .int .i64 0, .int .u32 0, .slice none 0 0], rB b15 84 [.int .i64 0, .int .i64 0, .int .i64 0, .int .i64 0, .int .i64 0, .int .i64 0, .int .i64 0, .int .i64 0, .int .i64 0, .int .i64 0, .int .i64 0, .int .i64 0, .int .i64 0, .int .i64 0, .int .i64 0, .int .i64 0, .int .i64 0, .int .u32 0, .int .i64 0, .slice none 0 0], rB b10 87 [.int .i64 x.kind, .int .i64 x.now, .int .i64 x.who, .int .u64 x.key, .string x.body], rB b8 99 (rkL (mkC c) (.slice la l.length lc)), rB b7 84 (kL (mkC c) (mkR c) (.slice a ps.length cc)), rB b3 24 (cL c), rS la lc 4 (l.map entRow), rS a cc 4 (ps.map rowOf), rS (some y) rc 5 (acts.map actRow)])) (ac0 : Act) (hz : ac0.tmps.size = 175) (so15 : ac0.eval (.tmp 15) = .pointer (some ⟨b15, 0, none⟩)) (so16 : ac0.eval (.tmp 16) = .int .i64 7) (so18 : ac0.eval (.tmp 18) = .int .i64 7) {QR : Exit → Act → World → Prop} (hfin : ∀ (ac1 : Act) (wz : World), ac1.tmps.size = 175 → ac1.defers = ac0.defers → (∀ t, ([143, 144, 145, 146, 147, 148, 149, 150, 151, 152, 153, 154, 155] : List Nat).contains t = false → ac1.eval (.tmp t) = ac0.eval (.tmp t)) → ac1.eval (.tmp 155) = .bool false →  Hid (Hp [] wa wz [rB b17 99 [.int .i64 0, .int .i64 0, .int .i64 0, .int .i64 0, .int .i64 0, .int .i64 0, .int .i64 0, .int .i64 0, .int .i64 0, .int .i64 0, .int .i64 0, .int .i64 0, .int .i64 0, .int .i64 0, .int .i64 0, .int .i64 0, .int .i64 0, .int .u32 0, .slice none 0 0], rB b15 84 [.int .i64 0, .int .i64 0, .int .i64 0, .int .i64 0, .int .i64 0, .int .i64 0, .int .i64 0, .int .i64 0, .int .i64 0, .int .i64 0, .int .i64 0, .int .i64 0, .int .i64 0, .int .i64 0, .int .i64 0, .int .i64 0, .int .i64 0, .int .u32 0, .int .i64 0, .slice none 0 0], rB b10 87 [.int .i64 x.kind, .int .i64 x.now, .int .i64 x.who, .int .u64 x.key, .string x.body], rB b8 99 (rkL (mkC c) (.slice la l.length lc)), rB b7 84 (kL (mkC c) (mkR c) (.slice a ps.length cc)), rB b3 24 (cL c), rS la lc 4 (l.map entRow), rS a cc 4 (ps.map rowOf), rS (some y) rc 5 (acts.map actRow)]) → QR .normal ac1 wz) : (regAt Try.f12 22).wp Try.prog QR ac0 wb := by
  refine wp_region_sq (by kernel_rfl) 175 hz (by kernel_rfl) (fun (xx : Unit) jx => nth [.int .i64 7, .int .i64 7, .bool false, .bool false, .int .i64 7, .bool true, .bool true, .agg #[.int .i64 0, .int .i64 0, .int .i64 0, .int .i64 0, .int .i64 0, .int .i64 0, .int .i64 0, .int .i64 0, .int .i64 0, .int .i64 0, .int .i64 0, .int .i64 0, .int .i64 0, .int .i64 0, .int .i64 0, .int .i64 0, .int .i64 0, .int .u32 0, .int .i64 0, .slice none 0 0], .agg #[.int .i64 0, .int .i64 0, .int .i64 0, .int .i64 0, .int .i64 0, .int .i64 0, .int .i64 0, .int .i64 0, .int .i64 0, .int .i64 0, .int .i64 0, .int .i64 0, .int .i64 0, .int .i64 0, .int .i64 0, .int .i64 0, .int .i64 0, .int .u32 0, .int .i64 0, .slice none 0 0], .bool true, .bool false, .bool false, .bool false] jx) (fun (LL : Nat → Bool) (xx : Unit) ww => Hp [] wa ww [rB b17 99 [.int .i64 0, .int .i64 0, .int .i64 0, .int .i64 0, .int .i64 0, .int .i64 0, .int .i64 0, .int .i64 0, .int .i64 0, .int .i64 0, .int .i64 0, .int .i64 0, .int .i64 0, .int .i64 0, .int .i64 0, .int .i64 0, .int .i64 0, .int .u32 0, .slice none 0 0], rB b15 84 [.int .i64 0, .int .i64 0, .int .i64 0, .int .i64 0, .int .i64 0, .int .i64 0, .int .i64 0, .int .i64 0, .int .i64 0, .int .i64 0, .int .i64 0, .int .i64 0, .int .i64 0, .int .i64 0, .int .i64 0, .int .i64 0, .int .i64 0, .int .u32 0, .int .i64 0, .slice none 0 0], rB b10 87 [.int .i64 x.kind, .int .i64 x.now, .int .i64 x.who, .int .u64 x.key, .string x.body], rB b8 99 (rkL (mkC c) (.slice la l.length lc)), rB b7 84 (kL (mkC c) (mkR c) (.slice a ps.length cc)), rB b3 24 (cL c), rS la lc 4 (l.map entRow), rS a cc 4 (ps.map rowOf), rS (some y) rc 5 (acts.map actRow)]) () H.out ?_ (steps_al ?_) ?_ ?_
  · exact fun _ _ _ _ _ h => h
  · refine al_cons ?_ (al_cons ?_ (al_cons ?_ (al_cons ?_ (al_cons ?_ (al_cons ?_ (al_cons ?_ (al_cons ?_ (al_cons ?_ (al_cons ?_ (al_cons ?_ (al_cons ?_ (al_cons ?_ (al_nil)))))))))))))
    · intro LL xx ac wc sg hst hwant QQ hgo
      exact op_val hwant hgo hst _ (exec_move rfl ((sg.free 16 (by kernel_rfl)).trans so16)) rfl
    · intro LL xx ac wc sg hst hwant QQ hgo
      exact op_val hwant hgo hst _ (exec_move rfl ((sg.free 18 (by kernel_rfl)).trans so18)) rfl
    · intro LL xx ac wc sg hst hwant QQ hgo
      have se143 : ac.eval (.tmp 143) = _ := (sg.slot 0 (sg.anc 0 rfl))
      have sg143 := gt_of se143
      have se144 : ac.eval (.tmp 144) = _ := (sg.slot 1 (sg.anc 1 rfl))
      have sg144 := gt_of se144
      (try simp only [nth] at se143 sg143 se144 sg144)
      exact op_val hwant hgo hst _ (by simp only [execOp, nth]; go_simp <;> omega) rfl
    · intro LL xx ac wc sg hst hwant QQ hgo
      exact op_val hwant hgo hst _ (exec_move rfl (sg.slot 2 (sg.anc 2 rfl))) rfl
    · intro LL xx ac wc sg hst hwant QQ hgo
      exact op_val hwant hgo hst _ (exec_move rfl ((sg.free 16 (by kernel_rfl)).trans so16)) rfl
    · intro LL xx ac wc sg hst hwant QQ hgo
      have se147 : ac.eval (.tmp 147) = _ := (sg.slot 4 (sg.anc 4 rfl))
      have sg147 := gt_of se147
      (try simp only [nth] at se147 sg147)
      exact op_val hwant hgo hst _ (by simp only [execOp, nth]; go_simp <;> omega) rfl
    · intro LL xx ac wc sg hst hwant QQ hgo
      exact op_val hwant hgo hst _ (exec_move rfl (sg.slot 5 (sg.anc 5 rfl))) rfl
    · intro LL xx ac wc sg hst hwant QQ hgo
      have H := Lib.hid hst
      refine hpA_load tykeys_Keys H rfl ((sg.free 15 (by kernel_rfl)).trans so15) hwant (by (repeat (first | exact List.Mem.head _ | apply List.Mem.tail))) (by rfl) rfl ?_
      exact hgo _ () _ (fun _ _ => rfl) rfl hst
    · intro LL xx ac wc sg hst hwant QQ hgo
      exact op_val hwant hgo hst _ (by simp only [execOp, nth, kA, kL, rkA, rkL, cA, cL]; go_simp <;> omega) rfl
    · intro LL xx ac wc sg hst hwant QQ hgo
      have se150 : ac.eval (.tmp 150) = _ := (sg.slot 7 (sg.anc 7 rfl))
      have sg150 := gt_of se150
      have se151 : ac.eval (.tmp 151) = _ := (sg.slot 8 (sg.anc 8 rfl))
      have sg151 := gt_of se151
      (try simp only [nth] at se150 sg150 se151 sg151)
      refine op_call hwant hgo 57 #[.agg #[.int .i64 0, .int .i64 0, .int .i64 0, .int .i64 0, .int .i64 0, .int .i64 0, .int .i64 0, .int .i64 0, .int .i64 0, .int .i64 0, .int .i64 0, .int .i64 0, .int .i64 0, .int .i64 0, .int .i64 0, .int .i64 0, .int .i64 0, .int .u32 0, .int .i64 0, .slice none 0 0], .agg #[.int .i64 0, .int .i64 0, .int .i64 0, .int .i64 0, .int .i64 0, .int .i64 0, .int .i64 0, .int .i64 0, .int .i64 0, .int .i64 0, .int .i64 0, .int .i64 0, .int .i64 0, .int .i64 0, .int .i64 0, .int .i64 0, .int .i64 0, .int .u32 0, .int .i64 0, .slice none 0 0]] (by simp only [execOp]; go_simp) (by have h := equalKC (⟨0, 0, 0, 0, 0, 0, 0, 0, 0, 0, 0, 0, 0, 0, 0, 0, 0, 0⟩ : Cfg) (⟨0, 0, 0, 0, 0, 0, 0, 0, 0, 0, 0, 0, 0, 0, 0, 0, 0, 0⟩ : Cfg) 0 0 none none 0 0 [] [] wc (rS_nil wc 4) (rS_nil wc 4) (by simp) (by simp); rw [show (decide (((⟨0, 0, 0, 0, 0, 0, 0, 0, 0, 0, 0, 0, 0, 0, 0, 0, 0, 0⟩ : Cfg) : Cfg) = (⟨0, 0, 0, 0, 0, 0, 0, 0, 0, 0, 0, 0, 0, 0, 0, 0, 0, 0⟩ : Cfg)) && ((0 : Int) == 0 && decide (([] : List PairV) = []))) = true by decide] at h; exact h) ?_
      rintro er wd ⟨rfl, hof⟩
      exact ⟨_, (), rfl, fun _ _ => rfl, rfl, Hp.quiet hst hof⟩
    · intro LL xx ac wc sg hst hwant QQ hgo
      have se152 : ac.eval (.tmp 152) = _ := (sg.slot 9 (sg.anc 9 rfl))
      have sg152 := gt_of se152
      (try simp only [nth] at se152 sg152)
      exact op_val hwant hgo hst _ (by simp only [execOp, nth]; go_simp <;> omega) rfl
    · intro LL xx ac wc sg hst hwant QQ hgo
      exact op_val hwant hgo hst (.bool false) (exec_pick (B := true) (U := .bool false) (V := undef) rfl (sg.slot 6 (sg.anc 6 rfl)) (fun _ => (sg.slot 10 (sg.anc 10 rfl))) (fun h => by cases h)) rfl
    · intro LL xx ac wc sg hst hwant QQ hgo
      exact op_val hwant hgo hst (.bool false) (exec_pick (B := false) (U := undef) (V := .bool false) rfl (sg.slot 3 (sg.anc 3 rfl)) (fun h => by cases h) (fun _ => (sg.slot 11 (sg.anc 11 rfl)))) rfl
  · refine skips [4, 5, 6, 7, 8, 9, 10, 11] (by kernel_rfl) ?_
    refine List.forall_mem_cons.2 ⟨?_, List.forall_mem_cons.2 ⟨?_, List.forall_mem_cons.2 ⟨?_, List.forall_mem_cons.2 ⟨?_, List.forall_mem_cons.2 ⟨?_, List.forall_mem_cons.2 ⟨?_, List.forall_mem_cons.2 ⟨?_, List.forall_mem_cons.2 ⟨?_, fun _ h => by cases h⟩⟩⟩⟩⟩⟩⟩⟩
    · intro oo hop LL xx ac sg hwant
      cases Option.some.inj hop
      exact absurd ((want_f rfl rfl (sg.slot 3 (sg.anc 3 rfl))).symm.trans hwant) (by decide)
    · intro oo hop LL xx ac sg hwant
      cases Option.some.inj hop
      exact absurd ((want_f rfl rfl (sg.slot 3 (sg.anc 3 rfl))).symm.trans hwant) (by decide)
    · intro oo hop LL xx ac sg hwant
      cases Option.some.inj hop
      exact absurd ((want_f rfl rfl (sg.slot 3 (sg.anc 3 rfl))).symm.trans hwant) (by decide)
    · intro oo hop LL xx ac sg hwant
      cases Option.some.inj hop
      exact absurd ((want_t rfl rfl (sg.slot 6 (sg.anc 6 rfl))).symm.trans hwant) (by decide)
    · intro oo hop LL xx ac sg hwant
      cases Option.some.inj hop
      exact absurd ((want_t rfl rfl (sg.slot 6 (sg.anc 6 rfl))).symm.trans hwant) (by decide)
    · intro oo hop LL xx ac sg hwant
      cases Option.some.inj hop
      exact absurd ((want_t rfl rfl (sg.slot 6 (sg.anc 6 rfl))).symm.trans hwant) (by decide)
    · intro oo hop LL xx ac sg hwant
      cases Option.some.inj hop
      exact absurd ((want_t rfl rfl (sg.slot 6 (sg.anc 6 rfl))).symm.trans hwant) (by decide)
    · intro oo hop LL xx ac sg hwant
      cases Option.some.inj hop
      exact absurd ((want_f rfl rfl (sg.slot 3 (sg.anc 3 rfl))).symm.trans hwant) (by decide)
  · intro xx ac1 wz hfr hsl hst
    exact hfin ac1 wz (hfr.size.trans hz) hfr.defers (fr_keep hfr [143, 144, 145, 146, 147, 148, 149, 150, 151, 152, 153, 154, 155] (by kernel_rfl)) (hsl 12 (by decide)) (Lib.hid hst)
set_option maxRecDepth 20000 in
theorem exact_w_r24 (c : Cfg) (rc : Nat) (acts : List ActK) (b3 : Nat) (b7 : Nat) (b8 : Nat) (i : Nat) (a : Option Addr) (cc : Nat) (ps : List PairV) (la : Option Addr) (lc : Nat) (l : List EntR) (hi : i ≤ acts.length) (hi2 : i ≤ 60) (z1ld : i < acts.length) (z1rd : (i : Int) < 60) (y : Addr) (x : ActK) (hk0 : 0 ≤ x.key) (hk1 : x.key ≤ 18446744073709551615) (hxn : x.now ≤ 9223372036854775807) (b10 : Nat) (z2d : ¬ (40 < (x.body.size : Int))) (b15 : Nat) (hrx : ((lookR (mkC c) l x.now x.who x.key x.body).2 != 1) = true) (b17 : Nat) {wa wb : World} (H : Hid (Hp [] wa wb [rB b17 99 [.int .i64 0, .int .i64 0, .int .i64 0, .int .i64 0, .int .i64 0, .int .i64 0, .int .i64 0, .int .i64 0, .int .i64 0, .int .i64 0, .int .i64 0, .int .i64 0, .int .i64 0, .int .i64 0, .int .i64 0, .int .i64 0, .int .i64 0, .int .u32 0, .slice none 0 0], rB b15 84 [.int .i64 0, .int .i64 0, .int .i64 0, .int .i64 0, .int .i64 0, .int .i64 0, .int .i64 0, .int .i64 0, .int .i64 0, .int .i64 0, .int .i64 0, .int .i64 0, .int .i64 0, .int .i64 0, .int .i64 0, .int .i64 0, .int .i64 0, .int .u32 0, .int .i64 0, .slice none 0 0], rB b10 87 [.int .i64 x.kind, .int .i64 x.now, .int .i64 x.who, .int .u64 x.key, .string x.body], rB b8 99 (rkL (mkC c) (.slice la l.length lc)), rB b7 84 (kL (mkC c) (mkR c) (.slice a ps.length cc)), rB b3 24 (cL c), rS la lc 4 (l.map entRow), rS a cc 4 (ps.map rowOf), rS (some y) rc 5 (acts.map actRow)])) (ac0 : Act) (hz : ac0.tmps.size = 175) (so16 : ac0.eval (.tmp 16) = .int .i64 7) {QR : Exit → Act → World → Prop} (hfin : ∀ (ac1 : Act) (wz : World), ac1.tmps.size = 175 → ac1.defers = ac0.defers → (∀ t, ([156, 157] : List Nat).contains t = false → ac1.eval (.tmp t) = ac0.eval (.tmp t)) → ac1.eval (.tmp 157) = .bool false →  Hid (Hp [] wa wz [rB b17 99 [.int .i64 0, .int .i64 0, .int .i64 0, .int .i64 0, .int .i64 0, .int .i64 0, .int .i64 0, .int .i64 0, .int .i64 0, .int .i64 0, .int .i64 0, .int .i64 0, .int .i64 0, .int .i64 0, .int .i64 0, .int .i64 0, .int .i64 0, .int .u32 0, .slice none 0 0], rB b15 84 [.int .i64 0, .int .i64 0, .int .i64 0, .int .i64 0, .int .i64 0, .int .i64 0, .int .i64 0, .int .i64 0, .int .i64 0, .int .i64 0, .int .i64 0, .int .i64 0, .int .i64 0, .int .i64 0, .int .i64 0, .int .i64 0, .int .i64 0, .int .u32 0, .int .i64 0, .slice none 0 0], rB b10 87 [.int .i64 x.kind, .int .i64 x.now, .int .i64 x.who, .int .u64 x.key, .string x.body], rB b8 99 (rkL (mkC c) (.slice la l.length lc)), rB b7 84 (kL (mkC c) (mkR c) (.slice a ps.length cc)), rB b3 24 (cL c), rS la lc 4 (l.map entRow), rS a cc 4 (ps.map rowOf), rS (some y) rc 5 (acts.map actRow)]) → QR .normal ac1 wz) : (regAt Try.f12 24).wp Try.prog QR ac0 wb := by
  refine wp_region_sq (by kernel_rfl) 175 hz (by kernel_rfl) (fun (xx : Unit) jx => nth [.int .i64 7, .bool false] jx) (fun (LL : Nat → Bool) (xx : Unit) ww => Hp [] wa ww [rB b17 99 [.int .i64 0, .int .i64 0, .int .i64 0, .int .i64 0, .int .i64 0, .int .i64 0, .int .i64 0, .int .i64 0, .int .i64 0, .int .i64 0, .int .i64 0, .int .i64 0, .int .i64 0, .int .i64 0, .int .i64 0, .int .i64 0, .int .i64 0, .int .u32 0, .slice none 0 0], rB b15 84 [.int .i64 0, .int .i64 0, .int .i64 0, .int .i64 0, .int .i64 0, .int .i64 0, .int .i64 0, .int .i64 0, .int .i64 0, .int .i64 0, .int .i64 0, .int .i64 0, .int .i64 0, .int .i64 0, .int .i64 0, .int .i64 0, .int .i64 0, .int .u32 0, .int .i64 0, .slice none 0 0], rB b10 87 [.int .i64 x.kind, .int .i64 x.now, .int .i64 x.who, .int .u64 x.key, .string x.body], rB b8 99 (rkL (mkC c) (.slice la l.length lc)), rB b7 84 (kL (mkC c) (mkR c) (.slice a ps.length cc)), rB b3 24 (cL c), rS la lc 4 (l.map entRow), rS a cc 4 (ps.map rowOf), rS (some y) rc 5 (acts.map actRow)]) () H.out ?_ (steps_al ?_) ?_ ?_
  · exact fun _ _ _ _ _ h => h
  · refine al_cons ?_ (al_cons ?_ (al_nil))
    · intro LL xx ac wc sg hst hwant QQ hgo
      exact op_val hwant hgo hst _ (exec_move rfl ((sg.free 16 (by kernel_rfl)).trans so16)) rfl
    · intro LL xx ac wc sg hst hwant QQ hgo
      have se156 : ac.eval (.tmp 156) = _ := (sg.slot 0 (sg.anc 0 rfl))
      have sg156 := gt_of se156
      (try simp only [nth] at se156 sg156)
      exact op_val hwant hgo hst _ (by simp only [execOp, nth]; go_simp <;> omega) rfl
  · exact skips [] (by kernel_rfl) (fun _ h => by cases h)
  · intro xx ac1 wz hfr hsl hst
    exact hfin ac1 wz (hfr.size.trans hz) hfr.defers (fr_keep hfr [156, 157] (by kernel_rfl)) (hsl 1 (by decide)) (Lib.hid hst)
set_option maxRecDepth 20000 in
theorem exact_w_r20x1 (c : Cfg) (rc : Nat) (acts : List ActK) (b3 : Nat) (b7 : Nat) (b8 : Nat) (i : Nat) (a : Option Addr) (cc : Nat) (ps : List PairV) (la : Option Addr) (lc : Nat) (l : List EntR) (hi : i ≤ acts.length) (hi2 : i ≤ 60) (hrel : Hid (RelK (mkC c) (mkR c) ps l)) (z1ld : i < acts.length) (z1rd : (i : Int) < 60) (y : Addr) (x : ActK) (hk0 : 0 ≤ x.key) (hk1 : x.key ≤ 18446744073709551615) (hxn : x.now ≤ 9223372036854775807) (b10 : Nat) (z2d : ¬ (40 < (x.body.size : Int))) (y8 : ((lookV (mkC c) ps x.now x.who x.key x.body).2 != 1) = false) {wa wb : World} (H : Hid (Hp [] wa wb [rB b10 87 [.int .i64 x.kind, .int .i64 x.now, .int .i64 x.who, .int .u64 x.key, .string x.body], rB b8 99 (rkL (mkC c) (.slice la l.length lc)), rB b7 84 (kL (mkC c) (mkR c) (.slice a ps.length cc)), rB b3 24 (cL c), rS la lc 4 (l.map entRow), rS a cc 4 (ps.map rowOf), rS (some y) rc 5 (acts.map actRow)])) (ac0 : Act) (hz : ac0.tmps.size = 175) (so7 : ac0.eval (.tmp 7) = .pointer (some ⟨b7, 0, none⟩)) (so10 : ac0.eval (.tmp 10) = .pointer (some ⟨b10, 0, none⟩)) {QR : Exit → Act → World → Prop} (hfin : ∀ (a20_12 : Option Addr) (c20_12 : Nat) (b15 : Nat) (ac1 : Act) (wz : World), ac1.tmps.size = 175 → ac1.defers = ac0.defers → (∀ t, ([15, 16, 111, 112, 113, 114, 115, 116, 117, 118, 119, 120, 121, 122, 123, 124, 125, 126] : List Nat).contains t = false → ac1.eval (.tmp t) = ac0.eval (.tmp t)) → ac1.eval (.tmp 15) = .pointer (some ⟨b15, 0, none⟩) → ac1.eval (.tmp 16) = .int .i64 0 →  Hid (Hp [] wa wz [rB b15 84 (kL (mkC c) (mkR c) (.slice a20_12 ((withV (mkR c) (nameV x.who x.key) ⟨x.key / 4294967296, x.body, x.body ++ (⟨#[33]⟩ : ByteArray)⟩ (ps.filter (keepB (mkC c) x.now))).1.length) c20_12)), rS a20_12 c20_12 4 ((withV (mkR c) (nameV x.who x.key) ⟨x.key / 4294967296, x.body, x.body ++ (⟨#[33]⟩ : ByteArray)⟩ (ps.filter (keepB (mkC c) x.now))).1.map rowOf), rB b10 87 [.int .i64 x.kind, .int .i64 x.now, .int .i64 x.who, .int .u64 x.key, .string x.body], rB b8 99 (rkL (mkC c) (.slice la l.length lc)), rB b7 84 (kL (mkC c) (mkR c) (.slice a ps.length cc)), rB b3 24 (cL c), rS la lc 4 (l.map entRow), rS a cc 4 (ps.map rowOf), rS (some y) rc 5 (acts.map actRow)]) → QR .normal ac1 wz) : (regAt Try.f12 20).wp Try.prog QR ac0 wb := by
  refine wp_region_sq (by kernel_rfl) 175 hz (by kernel_rfl) (fun (xx : Option Addr × Nat × Nat) jx => match xx with | (a20_12, c20_12, b15) => nth [.agg (kA (mkC c) (mkR c) (.slice a ps.length cc)), .pointer (some ⟨b10, 1, none⟩), .int .i64 x.now, .pointer (some ⟨b10, 2, none⟩), .int .i64 x.who, .pointer (some ⟨b10, 3, none⟩), .int .u64 x.key, .pointer (some ⟨b10, 4, none⟩), .string x.body, .pointer (some ⟨b10, 4, none⟩), .string x.body, .string (x.body ++ (⟨#[33]⟩ : ByteArray)), .tuple #[.agg (kA (mkC c) (mkR c) (.slice a20_12 ((withV (mkR c) (nameV x.who x.key) ⟨x.key / 4294967296, x.body, x.body ++ (⟨#[33]⟩ : ByteArray)⟩ (ps.filter (keepB (mkC c) x.now))).1.length) c20_12)), .int .i64 0], .tuple #[.agg (kA (mkC c) (mkR c) (.slice a20_12 ((withV (mkR c) (nameV x.who x.key) ⟨x.key / 4294967296, x.body, x.body ++ (⟨#[33]⟩ : ByteArray)⟩ (ps.filter (keepB (mkC c) x.now))).1.length) c20_12)), .int .i64 0], .agg (kA (mkC c) (mkR c) (.slice a20_12 ((withV (mkR c) (nameV x.who x.key) ⟨x.key / 4294967296, x.body, x.body ++ (⟨#[33]⟩ : ByteArray)⟩ (ps.filter (keepB (mkC c) x.now))).1.length) c20_12)), .int .i64 0, .pointer (some ⟨b15, 0, none⟩), undef, .int .i64 0] jx) (fun (LL : Nat → Bool) (xx : Option Addr × Nat × Nat) ww => match xx with | (a20_12, c20_12, b15) => Hp [] wa ww (bif LL 17 then [rB b15 84 (kL (mkC c) (mkR c) (.slice a20_12 ((withV (mkR c) (nameV x.who x.key) ⟨x.key / 4294967296, x.body, x.body ++ (⟨#[33]⟩ : ByteArray)⟩ (ps.filter (keepB (mkC c) x.now))).1.length) c20_12)), rS a20_12 c20_12 4 ((withV (mkR c) (nameV x.who x.key) ⟨x.key / 4294967296, x.body, x.body ++ (⟨#[33]⟩ : ByteArray)⟩ (ps.filter (keepB (mkC c) x.now))).1.map rowOf), rB b10 87 [.int .i64 x.kind, .int .i64 x.now, .int .i64 x.who, .int .u64 x.key, .string x.body], rB b8 99 (rkL (mkC c) (.slice la l.length lc)), rB b7 84 (kL (mkC c) (mkR c) (.slice a ps.length cc)), rB b3 24 (cL c), rS la lc 4 (l.map entRow), rS a cc 4 (ps.map rowOf), rS (some y) rc 5 (acts.map actRow)] else (bif LL 16 then [rB b15 84 [.int .i64 0, .int .i64 0, .int .i64 0, .int .i64 0, .int .i64 0, .int .i64 0, .int .i64 0, .int .i64 0, .int .i64 0, .int .i64 0, .int .i64 0, .int .i64 0, .int .i64 0, .int .i64 0, .int .i64 0, .int .i64 0, .int .i64 0, .int .u32 0, .int .i64 0, .slice none 0 0], rS a20_12 c20_12 4 ((withV (mkR c) (nameV x.who x.key) ⟨x.key / 4294967296, x.body, x.body ++ (⟨#[33]⟩ : ByteArray)⟩ (ps.filter (keepB (mkC c) x.now))).1.map rowOf), rB b10 87 [.int .i64 x.kind, .int .i64 x.now, .int .i64 x.who, .int .u64 x.key, .string x.body], rB b8 99 (rkL (mkC c) (.slice la l.length lc)), rB b7 84 (kL (mkC c) (mkR c) (.slice a ps.length cc)), rB b3 24 (cL c), rS la lc 4 (l.map entRow), rS a cc 4 (ps.map rowOf), rS (some y) rc 5 (acts.map actRow)] else (bif LL 12 then [rS a20_12 c20_12 4 ((withV (mkR c) (nameV x.who x.key) ⟨x.key / 4294967296, x.body, x.body ++ (⟨#[33]⟩ : ByteArray)⟩ (ps.filter (keepB (mkC c) x.now))).1.map rowOf), rB b10 87 [.int .i64 x.kind, .int .i64 x.now, .int .i64 x.who, .int .u64 x.key, .string x.body], rB b8 99 (rkL (mkC c) (.slice la l.length lc)), rB b7 84 (kL (mkC c) (mkR c) (.slice a ps.length cc)), rB b3 24 (cL c), rS la lc 4 (l.map entRow), rS a cc 4 (ps.map rowOf), rS (some y) rc 5 (acts.map actRow)] else [rB b10 87 [.int .i64 x.kind, .int .i64 x.now, .int .i64 x.who, .int .u64 x.key, .string x.body], rB b8 99 (rkL (mkC c) (.slice la l.length lc)), rB b7 84 (kL (mkC c) (mkR c) (.slice a ps.length cc)), rB b3 24 (cL c), rS la lc 4 (l.map entRow), rS a cc 4 (ps.map rowOf), rS (some y) rc 5 (acts.map actRow)])))) (default, default, default) H.out ?_ (steps_al ?_) ?_ ?_
  · intro L1 L2 xx ww hL sg
    have lh12 := hL 12 (by decide)
    have lh16 := hL 16 (by decide)
    have lh17 := hL 17 (by decide)
    simp only [lh12, lh16, lh17] at sg
    exact sg
  · refine al_cons ?_ (al_cons ?_ (al_cons ?_ (al_cons ?_ (al_cons ?_ (al_cons ?_ (al_cons ?_ (al_cons ?_ (al_cons ?_ (al_cons ?_ (al_cons ?_ (al_cons ?_ (al_cons ?_ (al_cons ?_ (al_cons ?_ (al_cons ?_ (al_cons ?_ (al_cons ?_ (al_cons ?_ (al_nil)))))))))))))))))))
    · intro LL xx ac wc sg hst hwant QQ hgo
      obtain ⟨a20_12, c20_12, b15⟩ := xx
      have H := Lib.hid hst
      simp only [sg.des 12 rfl, sg.des 16 rfl, sg.des 17 rfl, cond_true, cond_false] at H
      refine hpA_load tykeys_Keys H rfl ((sg.free 7 (by kernel_rfl)).trans so7) hwant (by (repeat (first | exact List.Mem.head _ | apply List.Mem.tail))) (by rfl) rfl ?_
      exact hgo _ (a20_12, c20_12, b15) _ (fun _ _ => rfl) rfl hst
    · intro LL xx ac wc sg hst hwant QQ hgo
      obtain ⟨a20_12, c20_12, b15⟩ := xx
      have se10 : ac.eval (.tmp 10) = _ := ((sg.free 10 (by kernel_rfl)).trans so10)
      have sg10 := gt_of se10
      exact op_val hwant hgo hst _ (by simp only [execOp, nth]; go_simp <;> omega) rfl
    · intro LL xx ac wc sg hst hwant QQ hgo
      obtain ⟨a20_12, c20_12, b15⟩ := xx
      have H := Lib.hid hst
      simp only [sg.des 12 rfl, sg.des 16 rfl, sg.des 17 rfl, cond_true, cond_false] at H
      refine hpA_load1 tyint H rfl (sg.slot 1 (sg.anc 1 rfl)) hwant (by (repeat (first | exact List.Mem.head _ | apply List.Mem.tail))) (by rfl) ?_
      exact hgo _ (a20_12, c20_12, b15) _ (fun _ _ => rfl) rfl hst
    · intro LL xx ac wc sg hst hwant QQ hgo
      obtain ⟨a20_12, c20_12, b15⟩ := xx
      have se10 : ac.eval (.tmp 10) = _ := ((sg.free 10 (by kernel_rfl)).trans so10)
      have sg10 := gt_of se10
      exact op_val hwant hgo hst _ (by simp only [execOp, nth]; go_simp <;> omega) rfl
    · intro LL xx ac wc sg hst hwant QQ hgo
      obtain ⟨a20_12, c20_12, b15⟩ := xx
      have H := Lib.hid hst
      simp only [sg.des 12 rfl, sg.des 16 rfl, sg.des 17 rfl, cond_true, cond_false] at H
      refine hpA_load1 tyint H rfl (sg.slot 3 (sg.anc 3 rfl)) hwant (by (repeat (first | exact List.Mem.head _ | apply List.Mem.tail))) (by rfl) ?_
      exact hgo _ (a20_12, c20_12, b15) _ (fun _ _ => rfl) rfl hst
    · intro LL xx ac wc sg hst hwant QQ hgo
      obtain ⟨a20_12, c20_12, b15⟩ := xx
      have se10 : ac.eval (.tmp 10) = _ := ((sg.free 10 (by kernel_rfl)).trans so10)
      have sg10 := gt_of se10
      exact op_val hwant hgo hst _ (by simp only [execOp, nth]; go_simp <;> omega) rfl
    · intro LL xx ac wc sg hst hwant QQ hgo
      obtain ⟨a20_12, c20_12, b15⟩ := xx
      have H := Lib.hid hst
      simp only [sg.des 12 rfl, sg.des 16 rfl, sg.des 17 rfl, cond_true, cond_false] at H
      refine hpA_load1 tyuint64 H rfl (sg.slot 5 (sg.anc 5 rfl)) hwant (by (repeat (first | exact List.Mem.head _ | apply List.Mem.tail))) (by rfl) ?_
      exact hgo _ (a20_12, c20_12, b15) _ (fun _ _ => rfl) rfl hst
    · intro LL xx ac wc sg hst hwant QQ hgo
      obtain ⟨a20_12, c20_12, b15⟩ := xx
      have se10 : ac.eval (.tmp 10) = _ := ((sg.free 10 (by kernel_rfl)).trans so10)
      have sg10 := gt_of se10
      exact op_val hwant hgo hst _ (by simp only [execOp, nth]; go_simp <;> omega) rfl
    · intro LL xx ac wc sg hst hwant QQ hgo
      obtain ⟨a20_12, c20_12, b15⟩ := xx
      have H := Lib.hid hst
      simp only [sg.des 12 rfl, sg.des 16 rfl, sg.des 17 rfl, cond_true, cond_false] at H
      refine hpA_load1 tystring H rfl (sg.slot 7 (sg.anc 7 rfl)) hwant (by (repeat (first | exact List.Mem.head _ | apply List.Mem.tail))) (by rfl) ?_
      exact hgo _ (a20_12, c20_12, b15) _ (fun _ _ => rfl) rfl hst
    · intro LL xx ac wc sg hst hwant QQ hgo
      obtain ⟨a20_12, c20_12, b15⟩ := xx
      have se10 : ac.eval (.tmp 10) = _ := ((sg.free 10 (by kernel_rfl)).trans so10)
      have sg10 := gt_of se10
      exact op_val hwant hgo hst _ (by simp only [execOp, nth]; go_simp <;> omega) rfl
    · intro LL xx ac wc sg hst hwant QQ hgo
      obtain ⟨a20_12, c20_12, b15⟩ := xx
      have H := Lib.hid hst
      simp only [sg.des 12 rfl, sg.des 16 rfl, sg.des 17 rfl, cond_true, cond_false] at H
      refine hpA_load1 tystring H rfl (sg.slot 9 (sg.anc 9 rfl)) hwant (by (repeat (first | exact List.Mem.head _ | apply List.Mem.tail))) (by rfl) ?_
      exact hgo _ (a20_12, c20_12, b15) _ (fun _ _ => rfl) rfl hst
    · intro LL xx ac wc sg hst hwant QQ hgo
      obtain ⟨a20_12, c20_12, b15⟩ := xx
      have se122 : ac.eval (.tmp 122) = _ := (sg.slot 10 (sg.anc 10 rfl))
      have sg122 := gt_of se122
      (try simp only [nth] at se122 sg122)
      exact op_val hwant hgo hst _ (by simp only [execOp, nth]; go_simp <;> omega) rfl
    · intro LL xx ac wc sg hst hwant QQ hgo
      obtain ⟨_, _, b15⟩ := xx
      have se112 : ac.eval (.tmp 112) = _ := (sg.slot 0 (sg.anc 0 rfl))
      have sg112 := gt_of se112
      have se114 : ac.eval (.tmp 114) = _ := (sg.slot 2 (sg.anc 2 rfl))
      have sg114 := gt_of se114
      have se116 : ac.eval (.tmp 116) = _ := (sg.slot 4 (sg.anc 4 rfl))
      have sg116 := gt_of se116
      have se118 : ac.eval (.tmp 118) = _ := (sg.slot 6 (sg.anc 6 rfl))
      have sg118 := gt_of se118
      have se120 : ac.eval (.tmp 120) = _ := (sg.slot 8 (sg.anc 8 rfl))
      have sg120 := gt_of se120
      have se123 : ac.eval (.tmp 123) = _ := (sg.slot 11 (sg.anc 11 rfl))
      have sg123 := gt_of se123
      (try simp only [nth] at se112 sg112 se114 sg114 se116 sg116 se118 sg118 se120 sg120 se123 sg123)
      have H := Lib.hid hst
      simp only [sg.self, sg.des 16 rfl, sg.des 17 rfl, cond_true, cond_false] at H
      refine op_call hwant hgo 50 _ (by simp only [execOp]; go_simp) (withYes (mkC c) (mkR c) a cc ps x.now x.who x.key x.body (x.body ++ (⟨#[33]⟩ : ByteArray)) wc (hp_held H (by (repeat (first | exact List.Mem.head _ | apply List.Mem.tail)))) hk0 hk1 (Lib.hid hrel.out.sorted) (few_rel hrel.out) y8) ?_
      rintro er wd ⟨a20_12, c20_12, rfl, hgv⟩
      have H2 := hp_got H hgv.2.2 hgv.1 (by decide) hgv.2.1 (by simp)
      exact ⟨_, (a20_12, c20_12, b15), rfl, (sg.agree (x' := (a20_12, c20_12, b15)) (n := 19) rfl (by (iterate 19 (refine ix_cons (by first | exact fun _ => rfl | exact no sg.self | exact no (sg.des _ rfl)) ?_)); exact ix_nil)), rfl, (by simp only [(show upd LL 12 12 = true from rfl), (show upd LL 12 16 = LL 16 from rfl), sg.des 16 rfl, (show upd LL 12 17 = LL 17 from rfl), sg.des 17 rfl, cond_true, cond_false]; exact H2.out)⟩
    · intro LL xx ac wc sg hst hwant QQ hgo
      obtain ⟨a20_12, c20_12, b15⟩ := xx
      exact op_val hwant hgo hst _ (exec_move rfl (sg.slot 12 (sg.anc 12 rfl))) rfl
    · intro LL xx ac wc sg hst hwant QQ hgo
      obtain ⟨a20_12, c20_12, b15⟩ := xx
      have se111 : ac.eval (.tmp 111) = _ := (sg.slot 13 (sg.anc 13 rfl))
      have sg111 := gt_of se111
      (try simp only [nth] at se111 sg111)
      exact op_val hwant hgo hst _ (by simp only [execOp, nth]; go_simp <;> omega) rfl
    · intro LL xx ac wc sg hst hwant QQ hgo
      obtain ⟨a20_12, c20_12, b15⟩ := xx
      have se111 : ac.eval (.tmp 111) = _ := (sg.slot 13 (sg.anc 13 rfl))
      have sg111 := gt_of se111
      (try simp only [nth] at se111 sg111)
      exact op_val hwant hgo hst _ (by simp only [execOp, nth]; go_simp <;> omega) rfl
    · intro LL xx ac wc sg hst hwant QQ hgo
      obtain ⟨a20_12, c20_12, _⟩ := xx
      have H := Lib.hid hst
      simp only [sg.anc 12 rfl, sg.self, sg.des 17 rfl, cond_true, cond_false] at H
      refine hpA_alloc tykeys_Keys H rfl rfl ?_
      intro wd b15 H2
      exact hgo _ (a20_12, c20_12, b15) _ (sg.agree (x' := (a20_12, c20_12, b15)) (n := 19) rfl (by (iterate 19 (refine ix_cons (by first | exact fun _ => rfl | exact no sg.self | exact no (sg.des _ rfl)) ?_)); exact ix_nil)) rfl (by simp only [(show upd LL 16 12 = LL 12 from rfl), sg.anc 12 rfl, (show upd LL 16 16 = true from rfl), (show upd LL 16 17 = LL 17 from rfl), sg.des 17 rfl, cond_true, cond_false]; exact H2.out)
    · intro LL xx ac wc sg hst hwant QQ hgo
      obtain ⟨a20_12, c20_12, b15⟩ := xx
      have H := Lib.hid hst
      simp only [sg.anc 12 rfl, sg.anc 16 rfl, sg.self, cond_true, cond_false] at H
      refine hpA_store tykeys_Keys H rfl rfl (sg.slot 16 (sg.anc 16 rfl)) (sg.slot 14 (sg.anc 14 rfl)) rfl (by repeat (first | apply Put.head | apply Put.tail)) (by simp [kA, kL, rkA, rkL, cA, cL]) (by simp [kA, kL, rkA, rkL, cA, cL, Value.oneCell']) (by first | rfl | (simp only [spl]; rfl)) rfl ?_
      intro wd H2
      exact hgo _ (a20_12, c20_12, b15) _ (sg.agree (x' := (a20_12, c20_12, b15)) (n := 19) rfl (by (iterate 19 (refine ix_cons (by first | exact fun _ => rfl | exact no sg.self | exact no (sg.des _ rfl)) ?_)); exact ix_nil)) rfl (by simp only [(show upd LL 17 12 = LL 12 from rfl), sg.anc 12 rfl, (show upd LL 17 16 = LL 16 from rfl), sg.anc 16 rfl, (show upd LL 17 17 = true from rfl), cond_true, cond_false]; exact H2.out)
    · intro LL xx ac wc sg hst hwant QQ hgo
      obtain ⟨a20_12, c20_12, b15⟩ := xx
      exact op_val hwant hgo hst _ (exec_assign rfl (sg.slot 15 (sg.anc 15 rfl))) rfl
  · exact skips [] (by kernel_rfl) (fun _ h => by cases h)
  · intro xx ac1 wz hfr hsl hst
    obtain ⟨a20_12, c20_12, b15⟩ := xx
    exact hfin a20_12 c20_12 b15 ac1 wz (hfr.size.trans hz) hfr.defers (fr_keep hfr [15, 16, 111, 112, 113, 114, 115, 116, 117, 118, 119, 120, 121, 122, 123, 124, 125, 126] (by kernel_rfl)) (hsl 16 (by decide)) (hsl 18 (by decide)) (Lib.hid hst)
set_option maxRecDepth 20000 in
theorem exact_w_r21x1 (c : Cfg) (rc : Nat) (acts : List ActK) (b3 : Nat) (b7 : Nat) (b8 : Nat) (i : Nat) (a : Option Addr) (cc : Nat) (ps : List PairV) (la : Option Addr) (lc : Nat) (l : List EntR) (hi : i ≤ acts.length) (hi2 : i ≤ 60) (hrel : Hid (RelK (mkC c) (mkR c) ps l)) (z1ld : i < acts.length) (z1rd : (i : Int) < 60) (y : Addr) (x : ActK) (hk0 : 0 ≤ x.key) (hk1 : x.key ≤ 18446744073709551615) (hxn : x.now ≤ 9223372036854775807) (b10 : Nat) (z2d : ¬ (40 < (x.body.size : Int))) (a20_12 : Option Addr) (c20_12 : Nat) (b15 : Nat) (hrx : ((lookR (mkC c) l x.now x.who x.key x.body).2 != 1) = false) {wa wb : World} (H : Hid (Hp [] wa wb [rB b15 84 (kL (mkC c) (mkR c) (.slice a20_12 ((withV (mkR c) (nameV x.who x.key) ⟨x.key / 4294967296, x.body, x.body ++ (⟨#[33]⟩ : ByteArray)⟩ (ps.filter (keepB (mkC c) x.now))).1.length) c20_12)), rS a20_12 c20_12 4 ((withV (mkR c) (nameV x.who x.key) ⟨x.key / 4294967296, x.body, x.body ++ (⟨#[33]⟩ : ByteArray)⟩ (ps.filter (keepB (mkC c) x.now))).1.map rowOf), rB b10 87 [.int .i64 x.kind, .int .i64 x.now, .int .i64 x.who, .int .u64 x.key, .string x.body], rB b8 99 (rkL (mkC c) (.slice la l.length lc)), rB b7 84 (kL (mkC c) (mkR c) (.slice a ps.length cc)), rB b3 24 (cL c), rS la lc 4 (l.map entRow), rS a cc 4 (ps.map rowOf), rS (some y) rc 5 (acts.map actRow)])) (ac0 : Act) (hz : ac0.tmps.size = 175) (so8 : ac0.eval (.tmp 8) = .pointer (some ⟨b8, 0, none⟩)) (so10 : ac0.eval (.tmp 10) = .pointer (some ⟨b10, 0, none⟩)) {QR : Exit → Act → World → Prop} (hfin : ∀ (a21_12 : Option Addr) (c21_12 : Nat) (b17 : Nat) (ac1 : Act) (wz : World), ac1.tmps.size = 175 → ac1.defers = ac0.defers → (∀ t, ([17, 18, 127, 128, 129, 130, 131, 132, 133, 134, 135, 136, 137, 138, 139, 140, 141, 142] : List Nat).contains t = false → ac1.eval (.tmp t) = ac0.eval (.tmp t)) → ac1.eval (.tmp 17) = .pointer (some ⟨b17, 0, none⟩) → ac1.eval (.tmp 18) = .int .i64 0 →  Hid (Hp [] wa wz [rB b17 99 (rkL (mkC c) (.slice a21_12 ((l.filter (keepR (mkC c) x.now) ++ [(⟨x.who, x.key, x.body, x.body ++ (⟨#[33]⟩ : ByteArray)⟩ : EntR)]).length) c21_12)), rS a21_12 c21_12 4 ((l.filter (keepR (mkC c) x.now) ++ [(⟨x.who, x.key, x.body, x.body ++ (⟨#[33]⟩ : ByteArray)⟩ : EntR)]).map entRow), rB b15 84 (kL (mkC c) (mkR c) (.slice a20_12 ((withV (mkR c) (nameV x.who x.key) ⟨x.key / 4294967296, x.body, x.body ++ (⟨#[33]⟩ : ByteArray)⟩ (ps.filter (keepB (mkC c) x.now))).1.length) c20_12)), rS a20_12 c20_12 4 ((withV (mkR c) (nameV x.who x.key) ⟨x.key / 4294967296, x.body, x.body ++ (⟨#[33]⟩ : ByteArray)⟩ (ps.filter (keepB (mkC c) x.now))).1.map rowOf), rB b10 87 [.int .i64 x.kind, .int .i64 x.now, .int .i64 x.who, .int .u64 x.key, .string x.body], rB b8 99 (rkL (mkC c) (.slice la l.length lc)), rB b7 84 (kL (mkC c) (mkR c) (.slice a ps.length cc)), rB b3 24 (cL c), rS la lc 4 (l.map entRow), rS a cc 4 (ps.map rowOf), rS (some y) rc 5 (acts.map actRow)]) → QR .normal ac1 wz) : (regAt Try.f12 21).wp Try.prog QR ac0 wb := by
  refine wp_region_sq (by kernel_rfl) 175 hz (by kernel_rfl) (fun (xx : Option Addr × Nat × Nat) jx => match xx with | (a21_12, c21_12, b17) => nth [.agg (rkA (mkC c) (.slice la l.length lc)), .pointer (some ⟨b10, 1, none⟩), .int .i64 x.now, .pointer (some ⟨b10, 2, none⟩), .int .i64 x.who, .pointer (some ⟨b10, 3, none⟩), .int .u64 x.key, .pointer (some ⟨b10, 4, none⟩), .string x.body, .pointer (some ⟨b10, 4, none⟩), .string x.body, .string (x.body ++ (⟨#[33]⟩ : ByteArray)), .tuple #[.agg (rkA (mkC c) (.slice a21_12 ((l.filter (keepR (mkC c) x.now) ++ [(⟨x.who, x.key, x.body, x.body ++ (⟨#[33]⟩ : ByteArray)⟩ : EntR)]).length) c21_12)), .int .i64 0], .tuple #[.agg (rkA (mkC c) (.slice a21_12 ((l.filter (keepR (mkC c) x.now) ++ [(⟨x.who, x.key, x.body, x.body ++ (⟨#[33]⟩ : ByteArray)⟩ : EntR)]).length) c21_12)), .int .i64 0], .agg (rkA (mkC c) (.slice a21_12 ((l.filter (keepR (mkC c) x.now) ++ [(⟨x.who, x.key, x.body, x.body ++ (⟨#[33]⟩ : ByteArray)⟩ : EntR)]).length) c21_12)), .int .i64 0, .pointer (some ⟨b17, 0, none⟩), undef, .int .i64 0] jx) (fun (LL : Nat → Bool) (xx : Option Addr × Nat × Nat) ww => match xx with | (a21_12, c21_12, b17) => Hp [] wa ww (bif LL 17 then [rB b17 99 (rkL (mkC c) (.slice a21_12 ((l.filter (keepR (mkC c) x.now) ++ [(⟨x.who, x.key, x.body, x.body ++ (⟨#[33]⟩ : ByteArray)⟩ : EntR)]).length) c21_12)), rS a21_12 c21_12 4 ((l.filter (keepR (mkC c) x.now) ++ [(⟨x.who, x.key, x.body, x.body ++ (⟨#[33]⟩ : ByteArray)⟩ : EntR)]).map entRow), rB b15 84 (kL (mkC c) (mkR c) (.slice a20_12 ((withV (mkR c) (nameV x.who x.key) ⟨x.key / 4294967296, x.body, x.body ++ (⟨#[33]⟩ : ByteArray)⟩ (ps.filter (keepB (mkC c) x.now))).1.length) c20_12)), rS a20_12 c20_12 4 ((withV (mkR c) (nameV x.who x.key) ⟨x.key / 4294967296, x.body, x.body ++ (⟨#[33]⟩ : ByteArray)⟩ (ps.filter (keepB (mkC c) x.now))).1.map rowOf), rB b10 87 [.int .i64 x.kind, .int .i64 x.now, .int .i64 x.who, .int .u64 x.key, .string x.body], rB b8 99 (rkL (mkC c) (.slice la l.length lc)), rB b7 84 (kL (mkC c) (mkR c) (.slice a ps.length cc)), rB b3 24 (cL c), rS la lc 4 (l.map entRow), rS a cc 4 (ps.map rowOf), rS (some y) rc 5 (acts.map actRow)] else (bif LL 16 then [rB b17 99 [.int .i64 0, .int .i64 0, .int .i64 0, .int .i64 0, .int .i64 0, .int .i64 0, .int .i64 0, .int .i64 0, .int .i64 0, .int .i64 0, .int .i64 0, .int .i64 0, .int .i64 0, .int .i64 0, .int .i64 0, .int .i64 0, .int .i64 0, .int .u32 0, .slice none 0 0], rS a21_12 c21_12 4 ((l.filter (keepR (mkC c) x.now) ++ [(⟨x.who, x.key, x.body, x.body ++ (⟨#[33]⟩ : ByteArray)⟩ : EntR)]).map entRow), rB b15 84 (kL (mkC c) (mkR c) (.slice a20_12 ((withV (mkR c) (nameV x.who x.key) ⟨x.key / 4294967296, x.body, x.body ++ (⟨#[33]⟩ : ByteArray)⟩ (ps.filter (keepB (mkC c) x.now))).1.length) c20_12)), rS a20_12 c20_12 4 ((withV (mkR c) (nameV x.who x.key) ⟨x.key / 4294967296, x.body, x.body ++ (⟨#[33]⟩ : ByteArray)⟩ (ps.filter (keepB (mkC c) x.now))).1.map rowOf), rB b10 87 [.int .i64 x.kind, .int .i64 x.now, .int .i64 x.who, .int .u64 x.key, .string x.body], rB b8 99 (rkL (mkC c) (.slice la l.length lc)), rB b7 84 (kL (mkC c) (mkR c) (.slice a ps.length cc)), rB b3 24 (cL c), rS la lc 4 (l.map entRow), rS a cc 4 (ps.map rowOf), rS (some y) rc 5 (acts.map actRow)] else (bif LL 12 then [rS a21_12 c21_12 4 ((l.filter (keepR (mkC c) x.now) ++ [(⟨x.who, x.key, x.body, x.body ++ (⟨#[33]⟩ : ByteArray)⟩ : EntR)]).map entRow), rB b15 84 (kL (mkC c) (mkR c) (.slice a20_12 ((withV (mkR c) (nameV x.who x.key) ⟨x.key / 4294967296, x.body, x.body ++ (⟨#[33]⟩ : ByteArray)⟩ (ps.filter (keepB (mkC c) x.now))).1.length) c20_12)), rS a20_12 c20_12 4 ((withV (mkR c) (nameV x.who x.key) ⟨x.key / 4294967296, x.body, x.body ++ (⟨#[33]⟩ : ByteArray)⟩ (ps.filter (keepB (mkC c) x.now))).1.map rowOf), rB b10 87 [.int .i64 x.kind, .int .i64 x.now, .int .i64 x.who, .int .u64 x.key, .string x.body], rB b8 99 (rkL (mkC c) (.slice la l.length lc)), rB b7 84 (kL (mkC c) (mkR c) (.slice a ps.length cc)), rB b3 24 (cL c), rS la lc 4 (l.map entRow), rS a cc 4 (ps.map rowOf), rS (some y) rc 5 (acts.map actRow)] else [rB b15 84 (kL (mkC c) (mkR c) (.slice a20_12 ((withV (mkR c) (nameV x.who x.key) ⟨x.key / 4294967296, x.body, x.body ++ (⟨#[33]⟩ : ByteArray)⟩ (ps.filter (keepB (mkC c) x.now))).1.length) c20_12)), rS a20_12 c20_12 4 ((withV (mkR c) (nameV x.who x.key) ⟨x.key / 4294967296, x.body, x.body ++ (⟨#[33]⟩ : ByteArray)⟩ (ps.filter (keepB (mkC c) x.now))).1.map rowOf), rB b10 87 [.int .i64 x.kind, .int .i64 x.now, .int .i64 x.who, .int .u64 x.key, .string x.body], rB b8 99 (rkL (mkC c) (.slice la l.length lc)), rB b7 84 (kL (mkC c) (mkR c) (.slice a ps.length cc)), rB b3 24 (cL c), rS la lc 4 (l.map entRow), rS a cc 4 (ps.map rowOf), rS (some y) rc 5 (acts.map actRow)])))) (default, default, default) H.out ?_ (steps_al ?_) ?_ ?_
  · intro L1 L2 xx ww hL sg
    have lh12 := hL 12 (by decide)
    have lh16 := hL 16 (by decide)
    have lh17 := hL 17 (by decide)
    simp only [lh12, lh16, lh17] at sg
    exact sg
  · refine al_cons ?_ (al_cons ?_ (al_cons ?_ (al_cons ?_ (al_cons ?_ (al_cons ?_ (al_cons ?_ (al_cons ?_ (al_cons ?_ (al_cons ?_ (al_cons ?_ (al_cons ?_ (al_cons ?_ (al_cons ?_ (al_cons ?_ (al_cons ?_ (al_cons ?_ (al_cons ?_ (al_cons ?_ (al_nil)))))))))))))))))))
    · intro LL xx ac wc sg hst hwant QQ hgo
      obtain ⟨a21_12, c21_12, b17⟩ := xx
      have H := Lib.hid hst
      simp only [sg.des 12 rfl, sg.des 16 rfl, sg.des 17 rfl, cond_true, cond_false] at H
      refine hpA_load tyhoistwayref10_Keys H rfl ((sg.free 8 (by kernel_rfl)).trans so8) hwant (by (repeat (first | exact List.Mem.head _ | apply List.Mem.tail))) (by rfl) rfl ?_
      exact hgo _ (a21_12, c21_12, b17) _ (fun _ _ => rfl) rfl hst
    · intro LL xx ac wc sg hst hwant QQ hgo
      obtain ⟨a21_12, c21_12, b17⟩ := xx
      have se10 : ac.eval (.tmp 10) = _ := ((sg.free 10 (by kernel_rfl)).trans so10)
      have sg10 := gt_of se10
      exact op_val hwant hgo hst _ (by simp only [execOp, nth]; go_simp <;> omega) rfl
    · intro LL xx ac wc sg hst hwant QQ hgo
      obtain ⟨a21_12, c21_12, b17⟩ := xx
      have H := Lib.hid hst
      simp only [sg.des 12 rfl, sg.des 16 rfl, sg.des 17 rfl, cond_true, cond_false] at H
      refine hpA_load1 tyint H rfl (sg.slot 1 (sg.anc 1 rfl)) hwant (by (repeat (first | exact List.Mem.head _ | apply List.Mem.tail))) (by rfl) ?_
      exact hgo _ (a21_12, c21_12, b17) _ (fun _ _ => rfl) rfl hst
    · intro LL xx ac wc sg hst hwant QQ hgo
      obtain ⟨a21_12, c21_12, b17⟩ := xx
      have se10 : ac.eval (.tmp 10) = _ := ((sg.free 10 (by kernel_rfl)).trans so10)
      have sg10 := gt_of se10
      exact op_val hwant hgo hst _ (by simp only [execOp, nth]; go_simp <;> omega) rfl
    · intro LL xx ac wc sg hst hwant QQ hgo
      obtain ⟨a21_12, c21_12, b17⟩ := xx
      have H := Lib.hid hst
      simp only [sg.des 12 rfl, sg.des 16 rfl, sg.des 17 rfl, cond_true, cond_false] at H
      refine hpA_load1 tyint H rfl (sg.slot 3 (sg.anc 3 rfl)) hwant (by (repeat (first | exact List.Mem.head _ | apply List.Mem.tail))) (by rfl) ?_
      exact hgo _ (a21_12, c21_12, b17) _ (fun _ _ => rfl) rfl hst
    · intro LL xx ac wc sg hst hwant QQ hgo
      obtain ⟨a21_12, c21_12, b17⟩ := xx
      have se10 : ac.eval (.tmp 10) = _ := ((sg.free 10 (by kernel_rfl)).trans so10)
      have sg10 := gt_of se10
      exact op_val hwant hgo hst _ (by simp only [execOp, nth]; go_simp <;> omega) rfl
    · intro LL xx ac wc sg hst hwant QQ hgo
      obtain ⟨a21_12, c21_12, b17⟩ := xx
      have H := Lib.hid hst
      simp only [sg.des 12 rfl, sg.des 16 rfl, sg.des 17 rfl, cond_true, cond_false] at H
      refine hpA_load1 tyuint64 H rfl (sg.slot 5 (sg.anc 5 rfl)) hwant (by (repeat (first | exact List.Mem.head _ | apply List.Mem.tail))) (by rfl) ?_
      exact hgo _ (a21_12, c21_12, b17) _ (fun _ _ => rfl) rfl hst
    · intro LL xx ac wc sg hst hwant QQ hgo
      obtain ⟨a21_12, c21_12, b17⟩ := xx
      have se10 : ac.eval (.tmp 10) = _ := ((sg.free 10 (by kernel_rfl)).trans so10)
      have sg10 := gt_of se10
      exact op_val hwant hgo hst _ (by simp only [execOp, nth]; go_simp <;> omega) rfl
    · intro LL xx ac wc sg hst hwant QQ hgo
      obtain ⟨a21_12, c21_12, b17⟩ := xx
      have H := Lib.hid hst
      simp only [sg.des 12 rfl, sg.des 16 rfl, sg.des 17 rfl, cond_true, cond_false] at H
      refine hpA_load1 tystring H rfl (sg.slot 7 (sg.anc 7 rfl)) hwant (by (repeat (first | exact List.Mem.head _ | apply List.Mem.tail))) (by rfl) ?_
      exact hgo _ (a21_12, c21_12, b17) _ (fun _ _ => rfl) rfl hst
    · intro LL xx ac wc sg hst hwant QQ hgo
      obtain ⟨a21_12, c21_12, b17⟩ := xx
      have se10 : ac.eval (.tmp 10) = _ := ((sg.free 10 (by kernel_rfl)).trans so10)
      have sg10 := gt_of se10
      exact op_val hwant hgo hst _ (by simp only [execOp, nth]; go_simp <;> omega) rfl
    · intro LL xx ac wc sg hst hwant QQ hgo
      obtain ⟨a21_12, c21_12, b17⟩ := xx
      have H := Lib.hid hst
      simp only [sg.des 12 rfl, sg.des 16 rfl, sg.des 17 rfl, cond_true, cond_false] at H
      refine hpA_load1 tystring H rfl (sg.slot 9 (sg.anc 9 rfl)) hwant (by (repeat (first | exact List.Mem.head _ | apply List.Mem.tail))) (by rfl) ?_
      exact hgo _ (a21_12, c21_12, b17) _ (fun _ _ => rfl) rfl hst
    · intro LL xx ac wc sg hst hwant QQ hgo
      obtain ⟨a21_12, c21_12, b17⟩ := xx
      have se138 : ac.eval (.tmp 138) = _ := (sg.slot 10 (sg.anc 10 rfl))
      have sg138 := gt_of se138
      (try simp only [nth] at se138 sg138)
      exact op_val hwant hgo hst _ (by simp only [execOp, nth]; go_simp <;> omega) rfl
    · intro LL xx ac wc sg hst hwant QQ hgo
      obtain ⟨_, _, b17⟩ := xx
      have se128 : ac.eval (.tmp 128) = _ := (sg.slot 0 (sg.anc 0 rfl))
      have sg128 := gt_of se128
      have se130 : ac.eval (.tmp 130) = _ := (sg.slot 2 (sg.anc 2 rfl))
      have sg130 := gt_of se130
      have se132 : ac.eval (.tmp 132) = _ := (sg.slot 4 (sg.anc 4 rfl))
      have sg132 := gt_of se132
      have se134 : ac.eval (.tmp 134) = _ := (sg.slot 6 (sg.anc 6 rfl))
      have sg134 := gt_of se134
      have se136 : ac.eval (.tmp 136) = _ := (sg.slot 8 (sg.anc 8 rfl))
      have sg136 := gt_of se136
      have se139 : ac.eval (.tmp 139) = _ := (sg.slot 11 (sg.anc 11 rfl))
      have sg139 := gt_of se139
      (try simp only [nth] at se128 sg128 se130 sg130 se132 sg132 se134 sg134 se136 sg136 se139 sg139)
      have H := Lib.hid hst
      simp only [sg.self, sg.des 16 rfl, sg.des 17 rfl, cond_true, cond_false] at H
      refine op_call hwant hgo 56 _ (by simp only [execOp]; go_simp) (withRyes (mkC c) la lc l x.now x.who x.key x.body (x.body ++ (⟨#[33]⟩ : ByteArray)) wc (hp_held H (by (repeat (first | exact List.Mem.head _ | apply List.Mem.tail)))) hk0 hk1 (few_rel2 hrel.out) (rel_keys hrel.out) hrx) ?_
      rintro er wd ⟨a21_12, c21_12, rfl, hgv⟩
      have H2 := hp_got H hgv.2.2 hgv.1 (by decide) hgv.2.1 (by simp)
      exact ⟨_, (a21_12, c21_12, b17), rfl, (sg.agree (x' := (a21_12, c21_12, b17)) (n := 19) rfl (by (iterate 19 (refine ix_cons (by first | exact fun _ => rfl | exact no sg.self | exact no (sg.des _ rfl)) ?_)); exact ix_nil)), rfl, (by simp only [(show upd LL 12 12 = true from rfl), (show upd LL 12 16 = LL 16 from rfl), sg.des 16 rfl, (show upd LL 12 17 = LL 17 from rfl), sg.des 17 rfl, cond_true, cond_false]; exact H2.out)⟩
    · intro LL xx ac wc sg hst hwant QQ hgo
      obtain ⟨a21_12, c21_12, b17⟩ := xx
      exact op_val hwant hgo hst _ (exec_move rfl (sg.slot 12 (sg.anc 12 rfl))) rfl
    · intro LL xx ac wc sg hst hwant QQ hgo
      obtain ⟨a21_12, c21_12, b17⟩ := xx
      have se127 : ac.eval (.tmp 127) = _ := (sg.slot 13 (sg.anc 13 rfl))
      have sg127 := gt_of se127
      (try simp only [nth] at se127 sg127)
      exact op_val hwant hgo hst _ (by simp only [execOp, nth]; go_simp <;> omega) rfl
    · intro LL xx ac wc sg hst hwant QQ hgo
      obtain ⟨a21_12, c21_12, b17⟩ := xx
      have se127 : ac.eval (.tmp 127) = _ := (sg.slot 13 (sg.anc 13 rfl))
      have sg127 := gt_of se127
      (try simp only [nth] at se127 sg127)
      exact op_val hwant hgo hst _ (by simp only [execOp, nth]; go_simp <;> omega) rfl
    · intro LL xx ac wc sg hst hwant QQ hgo
      obtain ⟨a21_12, c21_12, _⟩ := xx
      have H := Lib.hid hst
      simp only [sg.anc 12 rfl, sg.self, sg.des 17 rfl, cond_true, cond_false] at H
      refine hpA_alloc tyhoistwayref10_Keys H rfl rfl ?_
      intro wd b17 H2
      exact hgo _ (a21_12, c21_12, b17) _ (sg.agree (x' := (a21_12, c21_12, b17)) (n := 19) rfl (by (iterate 19 (refine ix_cons (by first | exact fun _ => rfl | exact no sg.self | exact no (sg.des _ rfl)) ?_)); exact ix_nil)) rfl (by simp only [(show upd LL 16 12 = LL 12 from rfl), sg.anc 12 rfl, (show upd LL 16 16 = true from rfl), (show upd LL 16 17 = LL 17 from rfl), sg.des 17 rfl, cond_true, cond_false]; exact H2.out)
    · intro LL xx ac wc sg hst hwant QQ hgo
      obtain ⟨a21_12, c21_12, b17⟩ := xx
      have H := Lib.hid hst
      simp only [sg.anc 12 rfl, sg.anc 16 rfl, sg.self, cond_true, cond_false] at H
      refine hpA_store tyhoistwayref10_Keys H rfl rfl (sg.slot 16 (sg.anc 16 rfl)) (sg.slot 14 (sg.anc 14 rfl)) rfl (by repeat (first | apply Put.head | apply Put.tail)) (by simp [kA, kL, rkA, rkL, cA, cL]) (by simp [kA, kL, rkA, rkL, cA, cL, Value.oneCell']) (by first | rfl | (simp only [spl]; rfl)) rfl ?_
      intro wd H2
      exact hgo _ (a21_12, c21_12, b17) _ (sg.agree (x' := (a21_12, c21_12, b17)) (n := 19) rfl (by (iterate 19 (refine ix_cons (by first | exact fun _ => rfl | exact no sg.self | exact no (sg.des _ rfl)) ?_)); exact ix_nil)) rfl (by simp only [(show upd LL 17 12 = LL 12 from rfl), sg.anc 12 rfl, (show upd LL 17 16 = LL 16 from rfl), sg.anc 16 rfl, (show upd LL 17 17 = true from rfl), cond_true, cond_false]; exact H2.out)
    · intro LL xx ac wc sg hst hwant QQ hgo
      obtain ⟨a21_12, c21_12, b17⟩ := xx
      exact op_val hwant hgo hst _ (exec_assign rfl (sg.slot 15 (sg.anc 15 rfl))) rfl
  · exact skips [] (by kernel_rfl) (fun _ h => by cases h)
  · intro xx ac1 wz hfr hsl hst
    obtain ⟨a21_12, c21_12, b17⟩ := xx
    exact hfin a21_12 c21_12 b17 ac1 wz (hfr.size.trans hz) hfr.defers (fr_keep hfr [17, 18, 127, 128, 129, 130, 131, 132, 133, 134, 135, 136, 137, 138, 139, 140, 141, 142] (by kernel_rfl)) (hsl 16 (by decide)) (hsl 18 (by decide)) (Lib.hid hst)
set_option maxRecDepth 20000 in
theorem exact_w_r22x1 (c : Cfg) (rc : Nat) (acts : List ActK) (b3 : Nat) (b7 : Nat) (b8 : Nat) (i : Nat) (a : Option Addr) (cc : Nat) (ps : List PairV) (la : Option Addr) (lc : Nat) (l : List EntR) (hi : i ≤ acts.length) (hi2 : i ≤ 60) (z1ld : i < acts.length) (z1rd : (i : Int) < 60) (y : Addr) (x : ActK) (hk0 : 0 ≤ x.key) (hk1 : x.key ≤ 18446744073709551615) (hxn : x.now ≤ 9223372036854775807) (b10 : Nat) (z2d : ¬ (40 < (x.body.size : Int))) (a20_12 : Option Addr) (c20_12 : Nat) (b15 : Nat) (hrx : ((lookR (mkC c) l x.now x.who x.key x.body).2 != 1) = false) (a21_12 : Option Addr) (c21_12 : Nat) (b17 : Nat) {wa wb : World} (H : Hid (Hp [] wa wb [rB b17 99 (rkL (mkC c) (.slice a21_12 ((l.filter (keepR (mkC c) x.now) ++ [(⟨x.who, x.key, x.body, x.body ++ (⟨#[33]⟩ : ByteArray)⟩ : EntR)]).length) c21_12)), rS a21_12 c21_12 4 ((l.filter (keepR (mkC c) x.now) ++ [(⟨x.who, x.key, x.body, x.body ++ (⟨#[33]⟩ : ByteArray)⟩ : EntR)]).map entRow), rB b15 84 (kL (mkC c) (mkR c) (.slice a20_12 ((withV (mkR c) (nameV x.who x.key) ⟨x.key / 4294967296, x.body, x.body ++ (⟨#[33]⟩ : ByteArray)⟩ (ps.filter (keepB (mkC c) x.now))).1.length) c20_12)), rS a20_12 c20_12 4 ((withV (mkR c) (nameV x.who x.key) ⟨x.key / 4294967296, x.body, x.body ++ (⟨#[33]⟩ : ByteArray)⟩ (ps.filter (keepB (mkC c) x.now))).1.map rowOf), rB b10 87 [.int .i64 x.kind, .int .i64 x.now, .int .i64 x.who, .int .u64 x.key, .string x.body], rB b8 99 (rkL (mkC c) (.slice la l.length lc)), rB b7 84 (kL (mkC c) (mkR c) (.slice a ps.length cc)), rB b3 24 (cL c), rS la lc 4 (l.map entRow), rS a cc 4 (ps.map rowOf), rS (some y) rc 5 (acts.map actRow)])) (ac0 : Act) (hz : ac0.tmps.size = 175) (so16 : ac0.eval (.tmp 16) = .int .i64 0) (so18 : ac0.eval (.tmp 18) = .int .i64 0) {QR : Exit → Act → World → Prop} (hfin : ∀ (ac1 : Act) (wz : World), ac1.tmps.size = 175 → ac1.defers = ac0.defers → (∀ t, ([143, 144, 145, 146, 147, 148, 149, 150, 151, 152, 153, 154, 155] : List Nat).contains t = false → ac1.eval (.tmp t) = ac0.eval (.tmp t)) → ac1.eval (.tmp 155) = .bool false →  Hid (Hp [] wa wz [rB b17 99 (rkL (mkC c) (.slice a21_12 ((l.filter (keepR (mkC c) x.now) ++ [(⟨x.who, x.key, x.body, x.body ++ (⟨#[33]⟩ : ByteArray)⟩ : EntR)]).length) c21_12)), rS a21_12 c21_12 4 ((l.filter (keepR (mkC c) x.now) ++ [(⟨x.who, x.key, x.body, x.body ++ (⟨#[33]⟩ : ByteArray)⟩ : EntR)]).map entRow), rB b15 84 (kL (mkC c) (mkR c) (.slice a20_12 ((withV (mkR c) (nameV x.who x.key) ⟨x.key / 4294967296, x.body, x.body ++ (⟨#[33]⟩ : ByteArray)⟩ (ps.filter (keepB (mkC c) x.now))).1.length) c20_12)), rS a20_12 c20_12 4 ((withV (mkR c) (nameV x.who x.key) ⟨x.key / 4294967296, x.body, x.body ++ (⟨#[33]⟩ : ByteArray)⟩ (ps.filter (keepB (mkC c) x.now))).1.map rowOf), rB b10 87 [.int .i64 x.kind, .int .i64 x.now, .int .i64 x.who, .int .u64 x.key, .string x.body], rB b8 99 (rkL (mkC c) (.slice la l.length lc)), rB b7 84 (kL (mkC c) (mkR c) (.slice a ps.length cc)), rB b3 24 (cL c), rS la lc 4 (l.map entRow), rS a cc 4 (ps.map rowOf), rS (some y) rc 5 (acts.map actRow)]) → QR .normal ac1 wz) : (regAt Try.f12 22).wp Try.prog QR ac0 wb := by
  refine wp_region_sq (by kernel_rfl) 175 hz (by kernel_rfl) (fun (xx : Unit) jx => nth [.int .i64 0, .int .i64 0, .bool false, .bool false, .int .i64 0, .bool false, .bool false, undef, undef, undef, undef, .bool false, .bool false] jx) (fun (LL : Nat → Bool) (xx : Unit) ww => Hp [] wa ww [rB b17 99 (rkL (mkC c) (.slice a21_12 ((l.filter (keepR (mkC c) x.now) ++ [(⟨x.who, x.key, x.body, x.body ++ (⟨#[33]⟩ : ByteArray)⟩ : EntR)]).length) c21_12)), rS a21_12 c21_12 4 ((l.filter (keepR (mkC c) x.now) ++ [(⟨x.who, x.key, x.body, x.body ++ (⟨#[33]⟩ : ByteArray)⟩ : EntR)]).map entRow), rB b15 84 (kL (mkC c) (mkR c) (.slice a20_12 ((withV (mkR c) (nameV x.who x.key) ⟨x.key / 4294967296, x.body, x.body ++ (⟨#[33]⟩ : ByteArray)⟩ (ps.filter (keepB (mkC c) x.now))).1.length) c20_12)), rS a20_12 c20_12 4 ((withV (mkR c) (nameV x.who x.key) ⟨x.key / 4294967296, x.body, x.body ++ (⟨#[33]⟩ : ByteArray)⟩ (ps.filter (keepB (mkC c) x.now))).1.map rowOf), rB b10 87 [.int .i64 x.kind, .int .i64 x.now, .int .i64 x.who, .int .u64 x.key, .string x.body], rB b8 99 (rkL (mkC c) (.slice la l.length lc)), rB b7 84 (kL (mkC c) (mkR c) (.slice a ps.length cc)), rB b3 24 (cL c), rS la lc 4 (l.map entRow), rS a cc 4 (ps.map rowOf), rS (some y) rc 5 (acts.map actRow)]) () H.out ?_ (steps_al ?_) ?_ ?_
  · exact fun _ _ _ _ _ h => h
  · refine al_cons ?_ (al_cons ?_ (al_cons ?_ (al_cons ?_ (al_cons ?_ (al_cons ?_ (al_cons ?_ (al_cons ?_ (al_cons ?_ (al_cons ?_ (al_cons ?_ (al_cons ?_ (al_cons ?_ (al_nil)))))))))))))
    · intro LL xx ac wc sg hst hwant QQ hgo
      exact op_val hwant hgo hst _ (exec_move rfl ((sg.free 16 (by kernel_rfl)).trans so16)) rfl
    · intro LL xx ac wc sg hst hwant QQ hgo
      exact op_val hwant hgo hst _ (exec_move rfl ((sg.free 18 (by kernel_rfl)).trans so18)) rfl
    · intro LL xx ac wc sg hst hwant QQ hgo
      have se143 : ac.eval (.tmp 143) = _ := (sg.slot 0 (sg.anc 0 rfl))
      have sg143 := gt_of se143
      have se144 : ac.eval (.tmp 144) = _ := (sg.slot 1 (sg.anc 1 rfl))
      have sg144 := gt_of se144
      (try simp only [nth] at se143 sg143 se144 sg144)
      exact op_val hwant hgo hst _ (by simp only [execOp, nth]; go_simp <;> omega) rfl
    · intro LL xx ac wc sg hst hwant QQ hgo
      exact op_val hwant hgo hst _ (exec_move rfl (sg.slot 2 (sg.anc 2 rfl))) rfl
    · intro LL xx ac wc sg hst hwant QQ hgo
      exact op_val hwant hgo hst _ (exec_move rfl ((sg.free 16 (by kernel_rfl)).trans so16)) rfl
    · intro LL xx ac wc sg hst hwant QQ hgo
      have se147 : ac.eval (.tmp 147) = _ := (sg.slot 4 (sg.anc 4 rfl))
      have sg147 := gt_of se147
      (try simp only [nth] at se147 sg147)
      exact op_val hwant hgo hst _ (by simp only [execOp, nth]; go_simp <;> omega) rfl
    · intro LL xx ac wc sg hst hwant QQ hgo
      exact op_val hwant hgo hst _ (exec_move rfl (sg.slot 5 (sg.anc 5 rfl))) rfl
    · intro LL xx ac wc sg hst hwant QQ hgo
      exact absurd ((want_t rfl rfl (sg.slot 6 (sg.anc 6 rfl))).symm.trans hwant) (by simp)
    · intro LL xx ac wc sg hst hwant QQ hgo
      exact absurd ((want_t rfl rfl (sg.slot 6 (sg.anc 6 rfl))).symm.trans hwant) (by simp)
    · intro LL xx ac wc sg hst hwant QQ hgo
      exact absurd ((want_t rfl rfl (sg.slot 6 (sg.anc 6 rfl))).symm.trans hwant) (by simp)
    · intro LL xx ac wc sg hst hwant QQ hgo
      exact absurd ((want_t rfl rfl (sg.slot 6 (sg.anc 6 rfl))).symm.trans hwant) (by simp)
    · intro LL xx ac wc sg hst hwant QQ hgo
      exact op_val hwant hgo hst (.bool false) (exec_pick (B := false) (U := undef) (V := .bool false) rfl (sg.slot 6 (sg.anc 6 rfl)) (fun h => by cases h) (fun _ => rfl)) rfl
    · intro LL xx ac wc sg hst hwant QQ hgo
      exact op_val hwant hgo hst (.bool false) (exec_pick (B := false) (U := undef) (V := .bool false) rfl (sg.slot 3 (sg.anc 3 rfl)) (fun h => by cases h) (fun _ => (sg.slot 11 (sg.anc 11 rfl)))) rfl
  · refine skips [4, 5, 6, 7, 8, 9, 10, 11] (by kernel_rfl) ?_
    refine List.forall_mem_cons.2 ⟨?_, List.forall_mem_cons.2 ⟨?_, List.forall_mem_cons.2 ⟨?_, List.forall_mem_cons.2 ⟨?_, List.forall_mem_cons.2 ⟨?_, List.forall_mem_cons.2 ⟨?_, List.forall_mem_cons.2 ⟨?_, List.forall_mem_cons.2 ⟨?_, fun _ h => by cases h⟩⟩⟩⟩⟩⟩⟩⟩
    · intro oo hop LL xx ac sg hwant
      cases Option.some.inj hop
      exact absurd ((want_f rfl rfl (sg.slot 3 (sg.anc 3 rfl))).symm.trans hwant) (by decide)
    · intro oo hop LL xx ac sg hwant
      cases Option.some.inj hop
      exact absurd ((want_f rfl rfl (sg.slot 3 (sg.anc 3 rfl))).symm.trans hwant) (by decide)
    · intro oo hop LL xx ac sg hwant
      cases Option.some.inj hop
      exact absurd ((want_f rfl rfl (sg.slot 3 (sg.anc 3 rfl))).symm.trans hwant) (by decide)
    · intro oo hop LL xx ac sg hwant
      cases Option.some.inj hop
      exact ⟨rfl, fun _ h => h⟩
    · intro oo hop LL xx ac sg hwant
      cases Option.some.inj hop
      exact ⟨rfl, fun _ h => h⟩
    · intro oo hop LL xx ac sg hwant
      cases Option.some.inj hop
      exact ⟨rfl, fun _ h => h⟩
    · intro oo hop LL xx ac sg hwant
      cases Option.some.inj hop
      exact ⟨rfl, fun _ h => h⟩
    · intro oo hop LL xx ac sg hwant
      cases Option.some.inj hop
      exact absurd ((want_f rfl rfl (sg.slot 3 (sg.anc 3 rfl))).symm.trans hwant) (by decide)
  · intro xx ac1 wz hfr hsl hst
    exact hfin ac1 wz (hfr.size.trans hz) hfr.defers (fr_keep hfr [143, 144, 145, 146, 147, 148, 149, 150, 151, 152, 153, 154, 155] (by kernel_rfl)) (hsl 12 (by decide)) (Lib.hid hst)
set_option maxRecDepth 20000 in
theorem exact_w_r24x1 (c : Cfg) (rc : Nat) (acts : List ActK) (b3 : Nat) (b7 : Nat) (b8 : Nat) (i : Nat) (a : Option Addr) (cc : Nat) (ps : List PairV) (la : Option Addr) (lc : Nat) (l : List EntR) (hi : i ≤ acts.length) (hi2 : i ≤ 60) (z1ld : i < acts.length) (z1rd : (i : Int) < 60) (y : Addr) (x : ActK) (hk0 : 0 ≤ x.key) (hk1 : x.key ≤ 18446744073709551615) (hxn : x.now ≤ 9223372036854775807) (b10 : Nat) (z2d : ¬ (40 < (x.body.size : Int))) (a20_12 : Option Addr) (c20_12 : Nat) (b15 : Nat) (hrx : ((lookR (mkC c) l x.now x.who x.key x.body).2 != 1) = false) (a21_12 : Option Addr) (c21_12 : Nat) (b17 : Nat) {wa wb : World} (H : Hid (Hp [] wa wb [rB b17 99 (rkL (mkC c) (.slice a21_12 ((l.filter (keepR (mkC c) x.now) ++ [(⟨x.who, x.key, x.body, x.body ++ (⟨#[33]⟩ : ByteArray)⟩ : EntR)]).length) c21_12)), rS a21_12 c21_12 4 ((l.filter (keepR (mkC c) x.now) ++ [(⟨x.who, x.key, x.body, x.body ++ (⟨#[33]⟩ : ByteArray)⟩ : EntR)]).map entRow), rB b15 84 (kL (mkC c) (mkR c) (.slice a20_12 ((withV (mkR c) (nameV x.who x.key) ⟨x.key / 4294967296, x.body, x.body ++ (⟨#[33]⟩ : ByteArray)⟩ (ps.filter (keepB (mkC c) x.now))).1.length) c20_12)), rS a20_12 c20_12 4 ((withV (mkR c) (nameV x.who x.key) ⟨x.key / 4294967296, x.body, x.body ++ (⟨#[33]⟩ : ByteArray)⟩ (ps.filter (keepB (mkC c) x.now))).1.map rowOf), rB b10 87 [.int .i64 x.kind, .int .i64 x.now, .int .i64 x.who, .int .u64 x.key, .string x.body], rB b8 99 (rkL (mkC c) (.slice la l.length lc)), rB b7 84 (kL (mkC c) (mkR c) (.slice a ps.length cc)), rB b3 24 (cL c), rS la lc 4 (l.map entRow), rS a cc 4 (ps.map rowOf), rS (some y) rc 5 (acts.map actRow)])) (ac0 : Act) (hz : ac0.tmps.size = 175) (so16 : ac0.eval (.tmp 16) = .int .i64 0) {QR : Exit → Act → World → Prop} (hfin : ∀ (ac1 : Act) (wz : World), ac1.tmps.size = 175 → ac1.defers = ac0.defers → (∀ t, ([156, 157] : List Nat).contains t = false → ac1.eval (.tmp t) = ac0.eval (.tmp t)) → ac1.eval (.tmp 157) = .bool true →  Hid (Hp [] wa wz [rB b17 99 (rkL (mkC c) (.slice a21_12 ((l.filter (keepR (mkC c) x.now) ++ [(⟨x.who, x.key, x.body, x.body ++ (⟨#[33]⟩ : ByteArray)⟩ : EntR)]).length) c21_12)), rS a21_12 c21_12 4 ((l.filter (keepR (mkC c) x.now) ++ [(⟨x.who, x.key, x.body, x.body ++ (⟨#[33]⟩ : ByteArray)⟩ : EntR)]).map entRow), rB b15 84 (kL (mkC c) (mkR c) (.slice a20_12 ((withV (mkR c) (nameV x.who x.key) ⟨x.key / 4294967296, x.body, x.body ++ (⟨#[33]⟩ : ByteArray)⟩ (ps.filter (keepB (mkC c) x.now))).1.length) c20_12)), rS a20_12 c20_12 4 ((withV (mkR c) (nameV x.who x.key) ⟨x.key / 4294967296, x.body, x.body ++ (⟨#[33]⟩ : ByteArray)⟩ (ps.filter (keepB (mkC c) x.now))).1.map rowOf), rB b10 87 [.int .i64 x.kind, .int .i64 x.now, .int .i64 x.who, .int .u64 x.key, .string x.body], rB b8 99 (rkL (mkC c) (.slice la l.length lc)), rB b7 84 (kL (mkC c) (mkR c) (.slice a ps.length cc)), rB b3 24 (cL c), rS la lc 4 (l.map entRow), rS a cc 4 (ps.map rowOf), rS (some y) rc 5 (acts.map actRow)]) → QR .normal ac1 wz) : (regAt Try.f12 24).wp Try.prog QR ac0 wb := by
  refine wp_region_sq (by kernel_rfl) 175 hz (by kernel_rfl) (fun (xx : Unit) jx => nth [.int .i64 0, .bool true] jx) (fun (LL : Nat → Bool) (xx : Unit) ww => Hp [] wa ww [rB b17 99 (rkL (mkC c) (.slice a21_12 ((l.filter (keepR (mkC c) x.now) ++ [(⟨x.who, x.key, x.body, x.body ++ (⟨#[33]⟩ : ByteArray)⟩ : EntR)]).length) c21_12)), rS a21_12 c21_12 4 ((l.filter (keepR (mkC c) x.now) ++ [(⟨x.who, x.key, x.body, x.body ++ (⟨#[33]⟩ : ByteArray)⟩ : EntR)]).map entRow), rB b15 84 (kL (mkC c) (mkR c) (.slice a20_12 ((withV (mkR c) (nameV x.who x.key) ⟨x.key / 4294967296, x.body, x.body ++ (⟨#[33]⟩ : ByteArray)⟩ (ps.filter (keepB (mkC c) x.now))).1.length) c20_12)), rS a20_12 c20_12 4 ((withV (mkR c) (nameV x.who x.key) ⟨x.key / 4294967296, x.body, x.body ++ (⟨#[33]⟩ : ByteArray)⟩ (ps.filter (keepB (mkC c) x.now))).1.map rowOf), rB b10 87 [.int .i64 x.kind, .int .i64 x.now, .int .i64 x.who, .int .u64 x.key, .string x.body], rB b8 99 (rkL (mkC c) (.slice la l.length lc)), rB b7 84 (kL (mkC c) (mkR c) (.slice a ps.length cc)), rB b3 24 (cL c), rS la lc 4 (l.map entRow), rS a cc 4 (ps.map rowOf), rS (some y) rc 5 (acts.map actRow)]) () H.out ?_ (steps_al ?_) ?_ ?_
  · exact fun _ _ _ _ _ h => h
  · refine al_cons ?_ (al_cons ?_ (al_nil))
    · intro LL xx ac wc sg hst hwant QQ hgo
      exact op_val hwant hgo hst _ (exec_move rfl ((sg.free 16 (by kernel_rfl)).trans so16)) rfl
    · intro LL xx ac wc sg hst hwant QQ hgo
      have se156 : ac.eval (.tmp 156) = _ := (sg.slot 0 (sg.anc 0 rfl))
      have sg156 := gt_of se156
      (try simp only [nth] at se156 sg156)
      exact op_val hwant hgo hst _ (by simp only [execOp, nth]; go_simp <;> omega) rfl
  · exact skips [] (by kernel_rfl) (fun _ h => by cases h)
  · intro xx ac1 wz hfr hsl hst
    exact hfin ac1 wz (hfr.size.trans hz) hfr.defers (fr_keep hfr [156, 157] (by kernel_rfl)) (hsl 1 (by decide)) (Lib.hid hst)
set_option maxRecDepth 20000 in
theorem exact_w_r25 (c : Cfg) (rc : Nat) (acts : List ActK) (b3 : Nat) (b7 : Nat) (b8 : Nat) (i : Nat) (a : Option Addr) (cc : Nat) (ps : List PairV) (la : Option Addr) (lc : Nat) (l : List EntR) (hi : i ≤ acts.length) (hi2 : i ≤ 60) (z1ld : i < acts.length) (z1rd : (i : Int) < 60) (y : Addr) (x : ActK) (hk0 : 0 ≤ x.key) (hk1 : x.key ≤ 18446744073709551615) (hxn : x.now ≤ 9223372036854775807) (b10 : Nat) (z2d : ¬ (40 < (x.body.size : Int))) (a20_12 : Option Addr) (c20_12 : Nat) (b15 : Nat) (hrx : ((lookR (mkC c) l x.now x.who x.key x.body).2 != 1) = false) (a21_12 : Option Addr) (c21_12 : Nat) (b17 : Nat) {wa wb : World} (H : Hid (Hp [] wa wb [rB b17 99 (rkL (mkC c) (.slice a21_12 ((l.filter (keepR (mkC c) x.now) ++ [(⟨x.who, x.key, x.body, x.body ++ (⟨#[33]⟩ : ByteArray)⟩ : EntR)]).length) c21_12)), rS a21_12 c21_12 4 ((l.filter (keepR (mkC c) x.now) ++ [(⟨x.who, x.key, x.body, x.body ++ (⟨#[33]⟩ : ByteArray)⟩ : EntR)]).map entRow), rB b15 84 (kL (mkC c) (mkR c) (.slice a20_12 ((withV (mkR c) (nameV x.who x.key) ⟨x.key / 4294967296, x.body, x.body ++ (⟨#[33]⟩ : ByteArray)⟩ (ps.filter (keepB (mkC c) x.now))).1.length) c20_12)), rS a20_12 c20_12 4 ((withV (mkR c) (nameV x.who x.key) ⟨x.key / 4294967296, x.body, x.body ++ (⟨#[33]⟩ : ByteArray)⟩ (ps.filter (keepB (mkC c) x.now))).1.map rowOf), rB b10 87 [.int .i64 x.kind, .int .i64 x.now, .int .i64 x.who, .int .u64 x.key, .string x.body], rB b8 99 (rkL (mkC c) (.slice la l.length lc)), rB b7 84 (kL (mkC c) (mkR c) (.slice a ps.length cc)), rB b3 24 (cL c), rS la lc 4 (l.map entRow), rS a cc 4 (ps.map rowOf), rS (some y) rc 5 (acts.map actRow)])) (ac0 : Act) (hz : ac0.tmps.size = 175) (so7 : ac0.eval (.tmp 7) = .pointer (some ⟨b7, 0, none⟩)) (so15 : ac0.eval (.tmp 15) = .pointer (some ⟨b15, 0, none⟩)) {QR : Exit → Act → World → Prop} (hfin : ∀ (ac1 : Act) (wz : World), ac1.tmps.size = 175 → ac1.defers = ac0.defers → (∀ t, ([158] : List Nat).contains t = false → ac1.eval (.tmp t) = ac0.eval (.tmp t)) →  Hid (Hp [] wa wz [rB b17 99 (rkL (mkC c) (.slice a21_12 ((l.filter (keepR (mkC c) x.now) ++ [(⟨x.who, x.key, x.body, x.body ++ (⟨#[33]⟩ : ByteArray)⟩ : EntR)]).length) c21_12)), rS a21_12 c21_12 4 ((l.filter (keepR (mkC c) x.now) ++ [(⟨x.who, x.key, x.body, x.body ++ (⟨#[33]⟩ : ByteArray)⟩ : EntR)]).map entRow), rB b15 84 (kL (mkC c) (mkR c) (.slice a20_12 ((withV (mkR c) (nameV x.who x.key) ⟨x.key / 4294967296, x.body, x.body ++ (⟨#[33]⟩ : ByteArray)⟩ (ps.filter (keepB (mkC c) x.now))).1.length) c20_12)), rS a20_12 c20_12 4 ((withV (mkR c) (nameV x.who x.key) ⟨x.key / 4294967296, x.body, x.body ++ (⟨#[33]⟩ : ByteArray)⟩ (ps.filter (keepB (mkC c) x.now))).1.map rowOf), rB b10 87 [.int .i64 x.kind, .int .i64 x.now, .int .i64 x.who, .int .u64 x.key, .string x.body], rB b8 99 (rkL (mkC c) (.slice la l.length lc)), rB b7 84 (kL (mkC c) (mkR c) (.slice a20_12 ((withV (mkR c) (nameV x.who x.key) ⟨x.key / 4294967296, x.body, x.body ++ (⟨#[33]⟩ : ByteArray)⟩ (ps.filter (keepB (mkC c) x.now))).1.length) c20_12)), rB b3 24 (cL c), rS la lc 4 (l.map entRow), rS a cc 4 (ps.map rowOf), rS (some y) rc 5 (acts.map actRow)]) → QR .normal ac1 wz) : (regAt Try.f12 25).wp Try.prog QR ac0 wb := by
  refine wp_region_sq (by kernel_rfl) 175 hz (by kernel_rfl) (fun (xx : Unit) jx => nth [.agg (kA (mkC c) (mkR c) (.slice a20_12 ((withV (mkR c) (nameV x.who x.key) ⟨x.key / 4294967296, x.body, x.body ++ (⟨#[33]⟩ : ByteArray)⟩ (ps.filter (keepB (mkC c) x.now))).1.length) c20_12)), undef] jx) (fun (LL : Nat → Bool) (xx : Unit) ww => Hp [] wa ww (bif LL 1 then [rB b17 99 (rkL (mkC c) (.slice a21_12 ((l.filter (keepR (mkC c) x.now) ++ [(⟨x.who, x.key, x.body, x.body ++ (⟨#[33]⟩ : ByteArray)⟩ : EntR)]).length) c21_12)), rS a21_12 c21_12 4 ((l.filter (keepR (mkC c) x.now) ++ [(⟨x.who, x.key, x.body, x.body ++ (⟨#[33]⟩ : ByteArray)⟩ : EntR)]).map entRow), rB b15 84 (kL (mkC c) (mkR c) (.slice a20_12 ((withV (mkR c) (nameV x.who x.key) ⟨x.key / 4294967296, x.body, x.body ++ (⟨#[33]⟩ : ByteArray)⟩ (ps.filter (keepB (mkC c) x.now))).1.length) c20_12)), rS a20_12 c20_12 4 ((withV (mkR c) (nameV x.who x.key) ⟨x.key / 4294967296, x.body, x.body ++ (⟨#[33]⟩ : ByteArray)⟩ (ps.filter (keepB (mkC c) x.now))).1.map rowOf), rB b10 87 [.int .i64 x.kind, .int .i64 x.now, .int .i64 x.who, .int .u64 x.key, .string x.body], rB b8 99 (rkL (mkC c) (.slice la l.length lc)), rB b7 84 (kL (mkC c) (mkR c) (.slice a20_12 ((withV (mkR c) (nameV x.who x.key) ⟨x.key / 4294967296, x.body, x.body ++ (⟨#[33]⟩ : ByteArray)⟩ (ps.filter (keepB (mkC c) x.now))).1.length) c20_12)), rB b3 24 (cL c), rS la lc 4 (l.map entRow), rS a cc 4 (ps.map rowOf), rS (some y) rc 5 (acts.map actRow)] else [rB b17 99 (rkL (mkC c) (.slice a21_12 ((l.filter (keepR (mkC c) x.now) ++ [(⟨x.who, x.key, x.body, x.body ++ (⟨#[33]⟩ : ByteArray)⟩ : EntR)]).length) c21_12)), rS a21_12 c21_12 4 ((l.filter (keepR (mkC c) x.now) ++ [(⟨x.who, x.key, x.body, x.body ++ (⟨#[33]⟩ : ByteArray)⟩ : EntR)]).map entRow), rB b15 84 (kL (mkC c) (mkR c) (.slice a20_12 ((withV (mkR c) (nameV x.who x.key) ⟨x.key / 4294967296, x.body, x.body ++ (⟨#[33]⟩ : ByteArray)⟩ (ps.filter (keepB (mkC c) x.now))).1.length) c20_12)), rS a20_12 c20_12 4 ((withV (mkR c) (nameV x.who x.key) ⟨x.key / 4294967296, x.body, x.body ++ (⟨#[33]⟩ : ByteArray)⟩ (ps.filter (keepB (mkC c) x.now))).1.map rowOf), rB b10 87 [.int .i64 x.kind, .int .i64 x.now, .int .i64 x.who, .int .u64 x.key, .string x.body], rB b8 99 (rkL (mkC c) (.slice la l.length lc)), rB b7 84 (kL (mkC c) (mkR c) (.slice a ps.length cc)), rB b3 24 (cL c), rS la lc 4 (l.map entRow), rS a cc 4 (ps.map rowOf), rS (some y) rc 5 (acts.map actRow)])) () H.out ?_ (steps_al ?_) ?_ ?_
  · intro L1 L2 xx ww hL sg
    have lh1 := hL 1 (by decide)
    simp only [lh1] at sg
    exact sg
  · refine al_cons ?_ (al_cons ?_ (al_nil))
    · intro LL xx ac wc sg hst hwant QQ hgo
      have H := Lib.hid hst
      simp only [sg.des 1 rfl, cond_true, cond_false] at H
      refine hpA_load tykeys_Keys H rfl ((sg.free 15 (by kernel_rfl)).trans so15) hwant (by (repeat (first | exact List.Mem.head _ | apply List.Mem.tail))) (by rfl) rfl ?_
      exact hgo _ () _ (fun _ _ => rfl) rfl hst
    · intro LL xx ac wc sg hst hwant QQ hgo
      have H := Lib.hid hst
      simp only [sg.self, cond_true, cond_false] at H
      refine hpA_store tykeys_Keys H rfl rfl ((sg.free 7 (by kernel_rfl)).trans so7) (sg.slot 0 (sg.anc 0 rfl)) rfl (by repeat (first | apply Put.head | apply Put.tail)) (by simp [kA, kL, rkA, rkL, cA, cL]) (by simp [kA, kL, rkA, rkL, cA, cL, Value.oneCell']) (by first | rfl | (simp only [spl]; rfl)) rfl ?_
      intro wd H2
      exact hgo _ () _ (fun _ _ => rfl) rfl (by simp only [(show upd LL 1 1 = true from rfl), cond_true, cond_false]; exact H2.out)
  · exact skips [] (by kernel_rfl) (fun _ h => by cases h)
  · intro xx ac1 wz hfr hsl hst
    exact hfin ac1 wz (hfr.size.trans hz) hfr.defers (fr_keep hfr [158] (by kernel_rfl)) (Lib.hid hst)
set_option maxRecDepth 20000 in
theorem exact_w_r26 (c : Cfg) (rc : Nat) (acts : List ActK) (b3 : Nat) (b7 : Nat) (b8 : Nat) (i : Nat) (a : Option Addr) (cc : Nat) (ps : List PairV) (la : Option Addr) (lc : Nat) (l : List EntR) (hi : i ≤ acts.length) (hi2 : i ≤ 60) (z1ld : i < acts.length) (z1rd : (i : Int) < 60) (y : Addr) (x : ActK) (hk0 : 0 ≤ x.key) (hk1 : x.key ≤ 18446744073709551615) (hxn : x.now ≤ 9223372036854775807) (b10 : Nat) (z2d : ¬ (40 < (x.body.size : Int))) (a20_12 : Option Addr) (c20_12 : Nat) (b15 : Nat) (hrx : ((lookR (mkC c) l x.now x.who x.key x.body).2 != 1) = false) (a21_12 : Option Addr) (c21_12 : Nat) (b17 : Nat) {wa wb : World} (H : Hid (Hp [] wa wb [rB b17 99 (rkL (mkC c) (.slice a21_12 ((l.filter (keepR (mkC c) x.now) ++ [(⟨x.who, x.key, x.body, x.body ++ (⟨#[33]⟩ : ByteArray)⟩ : EntR)]).length) c21_12)), rS a21_12 c21_12 4 ((l.filter (keepR (mkC c) x.now) ++ [(⟨x.who, x.key, x.body, x.body ++ (⟨#[33]⟩ : ByteArray)⟩ : EntR)]).map entRow), rB b15 84 (kL (mkC c) (mkR c) (.slice a20_12 ((withV (mkR c) (nameV x.who x.key) ⟨x.key / 4294967296, x.body, x.body ++ (⟨#[33]⟩ : ByteArray)⟩ (ps.filter (keepB (mkC c) x.now))).1.length) c20_12)), rS a20_12 c20_12 4 ((withV (mkR c) (nameV x.who x.key) ⟨x.key / 4294967296, x.body, x.body ++ (⟨#[33]⟩ : ByteArray)⟩ (ps.filter (keepB (mkC c) x.now))).1.map rowOf), rB b10 87 [.int .i64 x.kind, .int .i64 x.now, .int .i64 x.who, .int .u64 x.key, .string x.body], rB b8 99 (rkL (mkC c) (.slice la l.length lc)), rB b7 84 (kL (mkC c) (mkR c) (.slice a20_12 ((withV (mkR c) (nameV x.who x.key) ⟨x.key / 4294967296, x.body, x.body ++ (⟨#[33]⟩ : ByteArray)⟩ (ps.filter (keepB (mkC c) x.now))).1.length) c20_12)), rB b3 24 (cL c), rS la lc 4 (l.map entRow), rS a cc 4 (ps.map rowOf), rS (some y) rc 5 (acts.map actRow)])) (ac0 : Act) (hz : ac0.tmps.size = 175) (so8 : ac0.eval (.tmp 8) = .pointer (some ⟨b8, 0, none⟩)) (so17 : ac0.eval (.tmp 17) = .pointer (some ⟨b17, 0, none⟩)) {QR : Exit → Act → World → Prop} (hfin : ∀ (ac1 : Act) (wz : World), ac1.tmps.size = 175 → ac1.defers = ac0.defers → (∀ t, ([159] : List Nat).contains t = false → ac1.eval (.tmp t) = ac0.eval (.tmp t)) →  Hid (Hp [] wa wz [rB b17 99 (rkL (mkC c) (.slice a21_12 ((l.filter (keepR (mkC c) x.now) ++ [(⟨x.who, x.key, x.body, x.body ++ (⟨#[33]⟩ : ByteArray)⟩ : EntR)]).length) c21_12)), rS a21_12 c21_12 4 ((l.filter (keepR (mkC c) x.now) ++ [(⟨x.who, x.key, x.body, x.body ++ (⟨#[33]⟩ : ByteArray)⟩ : EntR)]).map entRow), rB b15 84 (kL (mkC c) (mkR c) (.slice a20_12 ((withV (mkR c) (nameV x.who x.key) ⟨x.key / 4294967296, x.body, x.body ++ (⟨#[33]⟩ : ByteArray)⟩ (ps.filter (keepB (mkC c) x.now))).1.length) c20_12)), rS a20_12 c20_12 4 ((withV (mkR c) (nameV x.who x.key) ⟨x.key / 4294967296, x.body, x.body ++ (⟨#[33]⟩ : ByteArray)⟩ (ps.filter (keepB (mkC c) x.now))).1.map rowOf), rB b10 87 [.int .i64 x.kind, .int .i64 x.now, .int .i64 x.who, .int .u64 x.key, .string x.body], rB b8 99 (rkL (mkC c) (.slice a21_12 ((l.filter (keepR (mkC c) x.now) ++ [(⟨x.who, x.key, x.body, x.body ++ (⟨#[33]⟩ : ByteArray)⟩ : EntR)]).length) c21_12)), rB b7 84 (kL (mkC c) (mkR c) (.slice a20_12 ((withV (mkR c) (nameV x.who x.key) ⟨x.key / 4294967296, x.body, x.body ++ (⟨#[33]⟩ : ByteArray)⟩ (ps.filter (keepB (mkC c) x.now))).1.length) c20_12)), rB b3 24 (cL c), rS la lc 4 (l.map entRow), rS a cc 4 (ps.map rowOf), rS (some y) rc 5 (acts.map actRow)]) → QR .normal ac1 wz) : (regAt Try.f12 26).wp Try.prog QR ac0 wb := by
  refine wp_region_sq (by kernel_rfl) 175 hz (by kernel_rfl) (fun (xx : Unit) jx => nth [.agg (rkA (mkC c) (.slice a21_12 ((l.filter (keepR (mkC c) x.now) ++ [(⟨x.who, x.key, x.body, x.body ++ (⟨#[33]⟩ : ByteArray)⟩ : EntR)]).length) c21_12)), undef] jx) (fun (LL : Nat → Bool) (xx : Unit) ww => Hp [] wa ww (bif LL 1 then [rB b17 99 (rkL (mkC c) (.slice a21_12 ((l.filter (keepR (mkC c) x.now) ++ [(⟨x.who, x.key, x.body, x.body ++ (⟨#[33]⟩ : ByteArray)⟩ : EntR)]).length) c21_12)), rS a21_12 c21_12 4 ((l.filter (keepR (mkC c) x.now) ++ [(⟨x.who, x.key, x.body, x.body ++ (⟨#[33]⟩ : ByteArray)⟩ : EntR)]).map entRow), rB b15 84 (kL (mkC c) (mkR c) (.slice a20_12 ((withV (mkR c) (nameV x.who x.key) ⟨x.key / 4294967296, x.body, x.body ++ (⟨#[33]⟩ : ByteArray)⟩ (ps.filter (keepB (mkC c) x.now))).1.length) c20_12)), rS a20_12 c20_12 4 ((withV (mkR c) (nameV x.who x.key) ⟨x.key / 4294967296, x.body, x.body ++ (⟨#[33]⟩ : ByteArray)⟩ (ps.filter (keepB (mkC c) x.now))).1.map rowOf), rB b10 87 [.int .i64 x.kind, .int .i64 x.now, .int .i64 x.who, .int .u64 x.key, .string x.body], rB b8 99 (rkL (mkC c) (.slice a21_12 ((l.filter (keepR (mkC c) x.now) ++ [(⟨x.who, x.key, x.body, x.body ++ (⟨#[33]⟩ : ByteArray)⟩ : EntR)]).length) c21_12)), rB b7 84 (kL (mkC c) (mkR c) (.slice a20_12 ((withV (mkR c) (nameV x.who x.key) ⟨x.key / 4294967296, x.body, x.body ++ (⟨#[33]⟩ : ByteArray)⟩ (ps.filter (keepB (mkC c) x.now))).1.length) c20_12)), rB b3 24 (cL c), rS la lc 4 (l.map entRow), rS a cc 4 (ps.map rowOf), rS (some y) rc 5 (acts.map actRow)] else [rB b17 99 (rkL (mkC c) (.slice a21_12 ((l.filter (keepR (mkC c) x.now) ++ [(⟨x.who, x.key, x.body, x.body ++ (⟨#[33]⟩ : ByteArray)⟩ : EntR)]).length) c21_12)), rS a21_12 c21_12 4 ((l.filter (keepR (mkC c) x.now) ++ [(⟨x.who, x.key, x.body, x.body ++ (⟨#[33]⟩ : ByteArray)⟩ : EntR)]).map entRow), rB b15 84 (kL (mkC c) (mkR c) (.slice a20_12 ((withV (mkR c) (nameV x.who x.key) ⟨x.key / 4294967296, x.body, x.body ++ (⟨#[33]⟩ : ByteArray)⟩ (ps.filter (keepB (mkC c) x.now))).1.length) c20_12)), rS a20_12 c20_12 4 ((withV (mkR c) (nameV x.who x.key) ⟨x.key / 4294967296, x.body, x.body ++ (⟨#[33]⟩ : ByteArray)⟩ (ps.filter (keepB (mkC c) x.now))).1.map rowOf), rB b10 87 [.int .i64 x.kind, .int .i64 x.now, .int .i64 x.who, .int .u64 x.key, .string x.body], rB b8 99 (rkL (mkC c) (.slice la l.length lc)), rB b7 84 (kL (mkC c) (mkR c) (.slice a20_12 ((withV (mkR c) (nameV x.who x.key) ⟨x.key / 4294967296, x.body, x.body ++ (⟨#[33]⟩ : ByteArray)⟩ (ps.filter (keepB (mkC c) x.now))).1.length) c20_12)), rB b3 24 (cL c), rS la lc 4 (l.map entRow), rS a cc 4 (ps.map rowOf), rS (some y) rc 5 (acts.map actRow)])) () H.out ?_ (steps_al ?_) ?_ ?_
  · intro L1 L2 xx ww hL sg
    have lh1 := hL 1 (by decide)
    simp only [lh1] at sg
    exact sg
  · refine al_cons ?_ (al_cons ?_ (al_nil))
    · intro LL xx ac wc sg hst hwant QQ hgo
      have H := Lib.hid hst
      simp only [sg.des 1 rfl, cond_true, cond_false] at H
      refine hpA_load tyhoistwayref10_Keys H rfl ((sg.free 17 (by kernel_rfl)).trans so17) hwant (by (repeat (first | exact List.Mem.head _ | apply List.Mem.tail))) (by rfl) rfl ?_
      exact hgo _ () _ (fun _ _ => rfl) rfl hst
    · intro LL xx ac wc sg hst hwant QQ hgo
      have H := Lib.hid hst
      simp only [sg.self, cond_true, cond_false] at H
      refine hpA_store tyhoistwayref10_Keys H rfl rfl ((sg.free 8 (by kernel_rfl)).trans so8) (sg.slot 0 (sg.anc 0 rfl)) rfl (by repeat (first | apply Put.head | apply Put.tail)) (by simp [kA, kL, rkA, rkL, cA, cL]) (by simp [kA, kL, rkA, rkL, cA, cL, Value.oneCell']) (by first | rfl | (simp only [spl]; rfl)) rfl ?_
      intro wd H2
      exact hgo _ () _ (fun _ _ => rfl) rfl (by simp only [(show upd LL 1 1 = true from rfl), cond_true, cond_false]; exact H2.out)
  · exact skips [] (by kernel_rfl) (fun _ h => by cases h)
  · intro xx ac1 wz hfr hsl hst
    exact hfin ac1 wz (hfr.size.trans hz) hfr.defers (fr_keep hfr [159] (by kernel_rfl)) (Lib.hid hst)
set_option maxRecDepth 20000 in
theorem exact_w_r32 (c : Cfg) (ra : Option Addr) (rc : Nat) (acts : List ActK) (b3 : Nat) (b7 : Nat) (b8 : Nat) (i : Nat) (a : Option Addr) (cc : Nat) (ps : List PairV) (la : Option Addr) (lc : Nat) (l : List EntR) (hi : i ≤ acts.length) (hi2 : i ≤ 60) {wa wb : World} (H : Hid (Hp [] wa wb [rB b8 99 (rkL (mkC c) (.slice la l.length lc)), rB b7 84 (kL (mkC c) (mkR c) (.slice a ps.length cc)), rB b3 24 (cL c), rS la lc 4 (l.map entRow), rS a cc 4 (ps.map rowOf), rS ra rc 5 (acts.map actRow)])) (ac0 : Act) (hz : ac0.tmps.size = 175)  {QR : Exit → Act → World → Prop} (hfin : ∀ (ac1 : Act) (wz : World), ac1.tmps.size = 175 → ac1.defers = ac0.defers → (∀ t, ([6] : List Nat).contains t = false → ac1.eval (.tmp t) = ac0.eval (.tmp t)) → ac1.eval (.tmp 6) = .bool true →  Hid (Hp [] wa wz [rB b8 99 (rkL (mkC c) (.slice la l.length lc)), rB b7 84 (kL (mkC c) (mkR c) (.slice a ps.length cc)), rB b3 24 (cL c), rS la lc 4 (l.map entRow), rS a cc 4 (ps.map rowOf), rS ra rc 5 (acts.map actRow)]) → QR .normal ac1 wz) : (regAt Try.f12 32).wp Try.prog QR ac0 wb := by
  refine wp_region_sq (by kernel_rfl) 175 hz (by kernel_rfl) (fun (xx : Unit) jx => nth [.bool true] jx) (fun (LL : Nat → Bool) (xx : Unit) ww => Hp [] wa ww [rB b8 99 (rkL (mkC c) (.slice la l.length lc)), rB b7 84 (kL (mkC c) (mkR c) (.slice a ps.length cc)), rB b3 24 (cL c), rS la lc 4 (l.map entRow), rS a cc 4 (ps.map rowOf), rS ra rc 5 (acts.map actRow)]) () H.out ?_ (steps_al ?_) ?_ ?_
  · exact fun _ _ _ _ _ h => h
  · refine al_cons ?_ (al_nil)
    · intro LL xx ac wc sg hst hwant QQ hgo
      exact op_val hwant hgo hst _ (exec_assign rfl rfl) rfl
  · exact skips [] (by kernel_rfl) (fun _ h => by cases h)
  · intro xx ac1 wz hfr hsl hst
    exact hfin ac1 wz (hfr.size.trans hz) hfr.defers (fr_keep hfr [6] (by kernel_rfl)) (hsl 0 (by decide)) (Lib.hid hst)
set_option maxRecDepth 20000 in
theorem exact_w_r6 (c : Cfg) (ra : Option Addr) (rc : Nat) (acts : List ActK) (b3 : Nat) (b7 : Nat) (b8 : Nat) {wa wb : World} (H : Hid (Hp [] wa wb [rB b8 99 [.int .i64 0, .int .i64 0, .int .i64 0, .int .i64 0, .int .i64 0, .int .i64 0, .int .i64 0, .int .i64 0, .int .i64 0, .int .i64 0, .int .i64 0, .int .i64 0, .int .i64 0, .int .i64 0, .int .i64 0, .int .i64 0, .int .i64 0, .int .u32 0, .slice none 0 0], rB b7 84 (kL (mkC c) (mkR c) (.slice none (([] : List PairV).length) 0)), rB b3 24 (cL c), rS none 0 4 (([] : List EntR).map entRow), rS none 0 4 (([] : List PairV).map rowOf), rS ra rc 5 (acts.map actRow)])) (ac0 : Act) (hz : ac0.tmps.size = 175) (so3 : ac0.eval (.tmp 3) = .pointer (some ⟨b3, 0, none⟩)) (so8 : ac0.eval (.tmp 8) = .pointer (some ⟨b8, 0, none⟩)) {QR : Exit → Act → World → Prop} (hfin : ∀ (ac1 : Act) (wz : World), ac1.tmps.size = 175 → ac1.defers = ac0.defers → (∀ t, ([27, 28] : List Nat).contains t = false → ac1.eval (.tmp t) = ac0.eval (.tmp t)) →  Hid (Hp [] wa wz [rB b8 99 (rkL c (.slice none 0 0)), rB b7 84 (kL (mkC c) (mkR c) (.slice none (([] : List PairV).length) 0)), rB b3 24 (cL c), rS none 0 4 (([] : List EntR).map entRow), rS none 0 4 (([] : List PairV).map rowOf), rS ra rc 5 (acts.map actRow)]) → QR .normal ac1 wz) : (regAt Try.f12 6).wp Try.prog QR ac0 wb := by
  refine wp_region_sq (by kernel_rfl) 175 hz (by kernel_rfl) (fun (xx : Unit) jx => nth [.agg (cA c), .pointer (some ⟨b8, 0, none⟩), undef] jx) (fun (LL : Nat → Bool) (xx : Unit) ww => Hp [] wa ww (bif LL 2 then [rB b8 99 (rkL c (.slice none 0 0)), rB b7 84 (kL (mkC c) (mkR c) (.slice none (([] : List PairV).length) 0)), rB b3 24 (cL c), rS none 0 4 (([] : List EntR).map entRow), rS none 0 4 (([] : List PairV).map rowOf), rS ra rc 5 (acts.map actRow)] else [rB b8 99 [.int .i64 0, .int .i64 0, .int .i64 0, .int .i64 0, .int .i64 0, .int .i64 0, .int .i64 0, .int .i64 0, .int .i64 0, .int .i64 0, .int .i64 0, .int .i64 0, .int .i64 0, .int .i64 0, .int .i64 0, .int .i64 0, .int .i64 0, .int .u32 0, .slice none 0 0], rB b7 84 (kL (mkC c) (mkR c) (.slice none (([] : List PairV).length) 0)), rB b3 24 (cL c), rS none 0 4 (([] : List EntR).map entRow), rS none 0 4 (([] : List PairV).map rowOf), rS ra rc 5 (acts.map actRow)])) () H.out ?_ (steps_al ?_) ?_ ?_
  · intro L1 L2 xx ww hL sg
    have lh2 := hL 2 (by decide)
    simp only [lh2] at sg
    exact sg
  · refine al_cons ?_ (al_cons ?_ (al_cons ?_ (al_nil)))
    · intro LL xx ac wc sg hst hwant QQ hgo
      have H := Lib.hid hst
      simp only [sg.des 2 rfl, cond_true, cond_false] at H
      refine hpA_load tyapi_Config H rfl ((sg.free 3 (by kernel_rfl)).trans so3) hwant (by (repeat (first | exact List.Mem.head _ | apply List.Mem.tail))) (by rfl) rfl ?_
      exact hgo _ () _ (fun _ _ => rfl) rfl hst
    · intro LL xx ac wc sg hst hwant QQ hgo
      have se8 : ac.eval (.tmp 8) = _ := ((sg.free 8 (by kernel_rfl)).trans so8)
      have sg8 := gt_of se8
      exact op_val hwant hgo hst _ (by simp only [execOp, nth]; go_simp <;> omega) rfl
    · intro LL xx ac wc sg hst hwant QQ hgo
      have H := Lib.hid hst
      simp only [sg.self, cond_true, cond_false] at H
      refine hpA_store tyapi_Config H rfl rfl (sg.slot 1 (sg.anc 1 rfl)) (sg.slot 0 (sg.anc 0 rfl)) rfl (by repeat (first | apply Put.head | apply Put.tail)) (by simp [kA, kL, rkA, rkL, cA, cL]) (by simp [kA, kL, rkA, rkL, cA, cL, Value.oneCell']) (by first | rfl | (simp only [spl]; rfl)) rfl ?_
      intro wd H2
      exact hgo _ () _ (fun _ _ => rfl) rfl (by simp only [(show upd LL 2 2 = true from rfl), cond_true, cond_false]; exact H2.out)
  · exact skips [] (by kernel_rfl) (fun _ h => by cases h)
  · intro xx ac1 wz hfr hsl hst
    exact hfin ac1 wz (hfr.size.trans hz) hfr.defers (fr_keep hfr [27, 28] (by kernel_rfl)) (Lib.hid hst)
end Go.Proofs.Ytfhhfmkfkoemjaa.Se6
