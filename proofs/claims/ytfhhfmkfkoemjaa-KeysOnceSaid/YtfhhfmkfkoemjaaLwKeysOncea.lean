/- Nothing is new twice: the walk. -/
import Derived.Test.YtfhhfmkfkoemjaaProg
import Derived.Below
import Derived.WalkKit
import Derived.KernelRfl
import Derived.RowKit3
import Derived.Deep.LoopGhost
import Derived.Deep.QuietTactic
import Derived.BigQuiet
import Derived.WideLaws
import Derived.Deep.DeepCutAuto
import Derived.Deep.CutBlock
import Derived.Lib.Hide
import Derived.Laws.BitsLemmas
import Derived.Laws.Bits64
import Derived.Laws.BitsAllLaws
import Derived.IntWalk
import Derived.Outline
import Derived.WalkSpells
import Derived.Test.YtfhhfmkfkoemjaaMem
import Derived.Test.YtfhhfmkfkoemjaaKyO
namespace Go.Proofs.Ytfhhfmkfkoemjaa.Se6
open Go.RowKit Go.Proofs.Ytfhhfmkfkoemjaa.Mem Go.Proofs.Ytfhhfmkfkoemjaa.Reg Go.Proofs.Ytfhhfmkfkoemjaa.Pk Go.Proofs.Ytfhhfmkfkoemjaa.Si
set_option linter.unusedVariables false
set_option linter.unusedSimpArgs false

def wOnce (c : Cfg) (ps : List PairV) (nw : Int) (x : ActK) : List PairV := (withV (mkR c) (nameV x.who x.key) ⟨x.key / 4294967296, x.body, x.body ++ (⟨#[33]⟩ : ByteArray)⟩ (ps.filter (keepB (mkC c) nw))).1
set_option maxRecDepth 20000 in
theorem once_w_r0 (c : Cfg) (ra : Option Addr) (rc : Nat) (acts : List ActK) {wa wb : World} (H : Hid (Hp [] wa wb [rS none 0 4 (([] : List PairV).map rowOf), rS ra rc 5 (acts.map actRow)])) (ac0 : Act) (hz : ac0.tmps.size = 192) (so0 : ac0.eval (.tmp 0) = .agg (cA c)) {QR : Exit → Act → World → Prop} (hfin : ∀ (b2 : Nat) (ac1 : Act) (wz : World), ac1.tmps.size = 192 → ac1.defers = ac0.defers → (∀ t, ([2, 4] : List Nat).contains t = false → ac1.eval (.tmp t) = ac0.eval (.tmp t)) → ac1.eval (.tmp 2) = .pointer (some ⟨b2, 0, none⟩) → ac1.eval (.tmp 4) = .bool false →  Hid (Hp [] wa wz [rB b2 24 (cL c), rS none 0 4 (([] : List PairV).map rowOf), rS ra rc 5 (acts.map actRow)]) → QR .normal ac1 wz) : (regAt Try.f10 0).wp Try.prog QR ac0 wb := by
  refine wp_region_sq (by kernel_rfl) 192 hz (by kernel_rfl) (fun (xx : Nat) jx => match xx with | b2 => nth [.pointer (some ⟨b2, 0, none⟩), .bool false] jx) (fun (LL : Nat → Bool) (xx : Nat) ww => match xx with | b2 => Hp [] wa ww (bif LL 0 then [rB b2 24 (cL c), rS none 0 4 (([] : List PairV).map rowOf), rS ra rc 5 (acts.map actRow)] else [rS none 0 4 (([] : List PairV).map rowOf), rS ra rc 5 (acts.map actRow)])) default H.out ?_ (steps_al ?_) ?_ ?_
  · intro L1 L2 xx ww hL sg
    have lh0 := hL 0 (by decide)
    simp only [lh0] at sg
    exact sg
  · refine al_cons ?_ (al_cons ?_ (al_nil))
    · intro LL xx ac wc sg hst hwant QQ hgo
      revert sg hst hgo; revert xx; intro xold sg hst hgo
      have H := Lib.hid hst
      simp only [sg.self, cond_true, cond_false] at H
      refine hp_box rfl 24 _ rfl _ ((sg.free 0 (by kernel_rfl)).trans so0) _ (by rfl) H ?_
      intro wd b2 H2
      exact hgo _ b2 _ (sg.agree (x' := b2) (n := 2) rfl (by (iterate 2 (refine ix_cons (by first | exact fun _ => rfl | exact no sg.self | exact no (sg.des _ rfl)) ?_)); exact ix_nil)) rfl (by simp only [(show upd LL 0 0 = true from rfl), cond_true, cond_false]; exact H2.out)
    · intro LL xx ac wc sg hst hwant QQ hgo
      revert sg hst hgo; revert xx; intro b2 sg hst hgo
      exact op_val hwant hgo hst _ (exec_assign rfl rfl) rfl
  · exact skips [] (by kernel_rfl) (fun _ h => by cases h)
  · intro xx ac1 wz hfr hsl hst
    revert hsl hst; revert xx; intro b2 hsl hst
    exact hfin b2 ac1 wz (hfr.size.trans hz) hfr.defers (fr_keep hfr [2, 4] (by kernel_rfl)) (hsl 0 (by decide)) (hsl 1 (by decide)) (Lib.hid hst)
set_option maxRecDepth 20000 in
theorem once_w_r1 (c : Cfg) (ra : Option Addr) (rc : Nat) (acts : List ActK) (b2 : Nat) {wa wb : World} (H : Hid (Hp [] wa wb [rB b2 24 (cL c), rS none 0 4 (([] : List PairV).map rowOf), rS ra rc 5 (acts.map actRow)])) (ac0 : Act) (hz : ac0.tmps.size = 192)  {QR : Exit → Act → World → Prop} (hfin : ∀ (ac1 : Act) (wz : World), ac1.tmps.size = 192 → ac1.defers = ac0.defers → (∀ t, ([17, 18] : List Nat).contains t = false → ac1.eval (.tmp t) = ac0.eval (.tmp t)) → ac1.eval (.tmp 18) = .bool false →  Hid (Hp [] wa wz [rB b2 24 (cL c), rS none 0 4 (([] : List PairV).map rowOf), rS ra rc 5 (acts.map actRow)]) → QR .normal ac1 wz) : (regAt Try.f10 1).wp Try.prog QR ac0 wb := by
  refine wp_region_sq (by kernel_rfl) 192 hz (by kernel_rfl) (fun (xx : Unit) jx => nth [.bool true, .bool false] jx) (fun (LL : Nat → Bool) (xx : Unit) ww => Hp [] wa ww [rB b2 24 (cL c), rS none 0 4 (([] : List PairV).map rowOf), rS ra rc 5 (acts.map actRow)]) () H.out ?_ (steps_al ?_) ?_ ?_
  · exact fun _ _ _ _ _ h => h
  · refine al_cons ?_ (al_cons ?_ (al_nil))
    · intro LL xx ac wc sg hst hwant QQ hgo
      refine op_call hwant hgo 44 _ (by simp only [execOp]; go_simp) (awake10 wc) ?_
      rintro er wd ⟨rfl, hof⟩
      exact ⟨_, (), rfl, fun _ _ => rfl, rfl, Hp.quiet hst hof⟩
    · intro LL xx ac wc sg hst hwant QQ hgo
      have se17 : ac.eval (.tmp 17) = _ := (sg.slot 0 (sg.anc 0 rfl))
      have sg17 := gt_of se17
      (try simp only [nth] at se17 sg17)
      exact op_val hwant hgo hst _ (by simp only [execOp, nth]; go_simp <;> omega) rfl
  · exact skips [] (by kernel_rfl) (fun _ h => by cases h)
  · intro xx ac1 wz hfr hsl hst
    exact hfin ac1 wz (hfr.size.trans hz) hfr.defers (fr_keep hfr [17, 18] (by kernel_rfl)) (hsl 1 (by decide)) (Lib.hid hst)
set_option maxRecDepth 20000 in
theorem once_w_r3 (c : Cfg) (ra : Option Addr) (rc : Nat) (acts : List ActK) (b2 : Nat) {wa wb : World} (H : Hid (Hp [] wa wb [rB b2 24 (cL c), rS none 0 4 (([] : List PairV).map rowOf), rS ra rc 5 (acts.map actRow)])) (ac0 : Act) (hz : ac0.tmps.size = 192) (so2 : ac0.eval (.tmp 2) = .pointer (some ⟨b2, 0, none⟩)) {QR : Exit → Act → World → Prop} (hfin : ∀ (b5 : Nat) (ac1 : Act) (wz : World), ac1.tmps.size = 192 → ac1.defers = ac0.defers → (∀ t, ([5, 19, 20] : List Nat).contains t = false → ac1.eval (.tmp t) = ac0.eval (.tmp t)) → ac1.eval (.tmp 5) = .pointer (some ⟨b5, 0, none⟩) →  Hid (Hp [] wa wz [rB b5 84 (kL (mkC c) (mkR c) (.slice none (([] : List PairV).length) 0)), rB b2 24 (cL c), rS none 0 4 (([] : List PairV).map rowOf), rS ra rc 5 (acts.map actRow)]) → QR .normal ac1 wz) : (regAt Try.f10 3).wp Try.prog QR ac0 wb := by
  refine wp_region_sq (by kernel_rfl) 192 hz (by kernel_rfl) (fun (xx : Nat) jx => match xx with | b5 => nth [.agg (cA c), .agg (kA (mkC c) (mkR c) (.slice none (([] : List PairV).length) 0)), .pointer (some ⟨b5, 0, none⟩), undef] jx) (fun (LL : Nat → Bool) (xx : Nat) ww => match xx with | b5 => Hp [] wa ww (bif LL 3 then [rB b5 84 (kL (mkC c) (mkR c) (.slice none (([] : List PairV).length) 0)), rB b2 24 (cL c), rS none 0 4 (([] : List PairV).map rowOf), rS ra rc 5 (acts.map actRow)] else (bif LL 2 then [rB b5 84 [.int .i64 0, .int .i64 0, .int .i64 0, .int .i64 0, .int .i64 0, .int .i64 0, .int .i64 0, .int .i64 0, .int .i64 0, .int .i64 0, .int .i64 0, .int .i64 0, .int .i64 0, .int .i64 0, .int .i64 0, .int .i64 0, .int .i64 0, .int .u32 0, .int .i64 0, .slice none 0 0], rB b2 24 (cL c), rS none 0 4 (([] : List PairV).map rowOf), rS ra rc 5 (acts.map actRow)] else [rB b2 24 (cL c), rS none 0 4 (([] : List PairV).map rowOf), rS ra rc 5 (acts.map actRow)]))) default H.out ?_ (steps_al ?_) ?_ ?_
  · intro L1 L2 xx ww hL sg
    have lh2 := hL 2 (by decide)
    have lh3 := hL 3 (by decide)
    simp only [lh2, lh3] at sg
    exact sg
  · refine al_cons ?_ (al_cons ?_ (al_cons ?_ (al_cons ?_ (al_nil))))
    · intro LL xx ac wc sg hst hwant QQ hgo
      revert sg hst hgo; revert xx; intro b5 sg hst hgo
      have H := Lib.hid hst
      simp only [sg.des 2 rfl, sg.des 3 rfl, cond_true, cond_false] at H
      refine hpA_load tyapi_Config H rfl ((sg.free 2 (by kernel_rfl)).trans so2) hwant (by (repeat (first | exact List.Mem.head _ | apply List.Mem.tail))) (by rfl) rfl ?_
      exact hgo _ b5 _ (fun _ _ => rfl) rfl hst
    · intro LL xx ac wc sg hst hwant QQ hgo
      revert sg hst hgo; revert xx; intro b5 sg hst hgo
      have se19 : ac.eval (.tmp 19) = _ := (sg.slot 0 (sg.anc 0 rfl))
      have sg19 := gt_of se19
      (try simp only [nth] at se19 sg19)
      refine op_call hwant hgo 47 _ (by simp only [execOp]; go_simp) (makeC c wc) ?_
      rintro er wd ⟨rfl, hof⟩
      exact ⟨_, b5, rfl, fun _ _ => rfl, rfl, Hp.quiet hst hof⟩
    · intro LL xx ac wc sg hst hwant QQ hgo
      revert sg hst hgo; revert xx; intro xold sg hst hgo
      have H := Lib.hid hst
      simp only [sg.self, sg.des 3 rfl, cond_true, cond_false] at H
      refine hpA_alloc tykeys_Keys H rfl rfl ?_
      intro wd b5 H2
      exact hgo _ b5 _ (sg.agree (x' := b5) (n := 4) rfl (by (iterate 4 (refine ix_cons (by first | exact fun _ => rfl | exact no sg.self | exact no (sg.des _ rfl)) ?_)); exact ix_nil)) rfl (by simp only [(show upd LL 2 2 = true from rfl), (show upd LL 2 3 = LL 3 from rfl), sg.des 3 rfl, cond_true, cond_false]; exact H2.out)
    · intro LL xx ac wc sg hst hwant QQ hgo
      revert sg hst hgo; revert xx; intro b5 sg hst hgo
      have H := Lib.hid hst
      simp only [sg.anc 2 rfl, sg.self, cond_true, cond_false] at H
      refine hpA_store tykeys_Keys H rfl rfl (sg.slot 2 (sg.anc 2 rfl)) (sg.slot 1 (sg.anc 1 rfl)) rfl (by repeat (first | apply Put.head | apply Put.tail)) (by simp [kA, kL, rkA, rkL, cA, cL]) (by simp [kA, kL, rkA, rkL, cA, cL, Value.oneCell']) (by first | rfl | (simp only [spl]; rfl)) rfl ?_
      intro wd H2
      exact hgo _ b5 _ (sg.agree (x' := b5) (n := 4) rfl (by (iterate 4 (refine ix_cons (by first | exact fun _ => rfl | exact no sg.self | exact no (sg.des _ rfl)) ?_)); exact ix_nil)) rfl (by simp only [(show upd LL 3 2 = LL 2 from rfl), sg.anc 2 rfl, (show upd LL 3 3 = true from rfl), cond_true, cond_false]; exact H2.out)
  · exact skips [] (by kernel_rfl) (fun _ h => by cases h)
  · intro xx ac1 wz hfr hsl hst
    revert hsl hst; revert xx; intro b5 hsl hst
    exact hfin b5 ac1 wz (hfr.size.trans hz) hfr.defers (fr_keep hfr [5, 19, 20] (by kernel_rfl)) (hsl 2 (by decide)) (Lib.hid hst)
set_option maxRecDepth 20000 in
theorem once_w_r4 (c : Cfg) (ra : Option Addr) (rc : Nat) (acts : List ActK) (b2 : Nat) (b5 : Nat) {wa wb : World} (H : Hid (Hp [] wa wb [rB b5 84 (kL (mkC c) (mkR c) (.slice none (([] : List PairV).length) 0)), rB b2 24 (cL c), rS none 0 4 (([] : List PairV).map rowOf), rS ra rc 5 (acts.map actRow)])) (ac0 : Act) (hz : ac0.tmps.size = 192)  {QR : Exit → Act → World → Prop} (hfin : ∀ (ac1 : Act) (wz : World), ac1.tmps.size = 192 → ac1.defers = ac0.defers → (∀ t, ([6] : List Nat).contains t = false → ac1.eval (.tmp t) = ac0.eval (.tmp t)) → ac1.eval (.tmp 6) = .int .i64 0 →  Hid (Hp [] wa wz [rB b5 84 (kL (mkC c) (mkR c) (.slice none (([] : List PairV).length) 0)), rB b2 24 (cL c), rS none 0 4 (([] : List PairV).map rowOf), rS ra rc 5 (acts.map actRow)]) → QR .normal ac1 wz) : (regAt Try.f10 4).wp Try.prog QR ac0 wb := by
  refine wp_region_sq (by kernel_rfl) 192 hz (by kernel_rfl) (fun (xx : Unit) jx => nth [.int .i64 0] jx) (fun (LL : Nat → Bool) (xx : Unit) ww => Hp [] wa ww [rB b5 84 (kL (mkC c) (mkR c) (.slice none (([] : List PairV).length) 0)), rB b2 24 (cL c), rS none 0 4 (([] : List PairV).map rowOf), rS ra rc 5 (acts.map actRow)]) () H.out ?_ (steps_al ?_) ?_ ?_
  · exact fun _ _ _ _ _ h => h
  · refine al_cons ?_ (al_nil)
    · intro LL xx ac wc sg hst hwant QQ hgo
      exact op_val hwant hgo hst _ (exec_assign rfl rfl) rfl
  · exact skips [] (by kernel_rfl) (fun _ h => by cases h)
  · intro xx ac1 wz hfr hsl hst
    exact hfin ac1 wz (hfr.size.trans hz) hfr.defers (fr_keep hfr [6] (by kernel_rfl)) (hsl 0 (by decide)) (Lib.hid hst)
set_option maxRecDepth 20000 in
theorem once_w_r5 (c : Cfg) (ra : Option Addr) (rc : Nat) (acts : List ActK) (b2 : Nat) (b5 : Nat) {wa wb : World} (H : Hid (Hp [] wa wb [rB b5 84 (kL (mkC c) (mkR c) (.slice none (([] : List PairV).length) 0)), rB b2 24 (cL c), rS none 0 4 (([] : List PairV).map rowOf), rS ra rc 5 (acts.map actRow)])) (ac0 : Act) (hz : ac0.tmps.size = 192)  {QR : Exit → Act → World → Prop} (hfin : ∀ (b21 : Nat) (ac1 : Act) (wz : World), ac1.tmps.size = 192 → ac1.defers = ac0.defers → (∀ t, ([7, 21] : List Nat).contains t = false → ac1.eval (.tmp t) = ac0.eval (.tmp t)) → ac1.eval (.tmp 7) = .slice (some ⟨b21, 0, none⟩) 0 0 →  Hid (Hp [] wa wz [rA (some ⟨b21, 0, none⟩) 0 87 5 (([] : List ActK).map actRow), rB b5 84 (kL (mkC c) (mkR c) (.slice none (([] : List PairV).length) 0)), rB b2 24 (cL c), rS none 0 4 (([] : List PairV).map rowOf), rS ra rc 5 (acts.map actRow)]) → QR .normal ac1 wz) : (regAt Try.f10 5).wp Try.prog QR ac0 wb := by
  refine wp_region_sq (by kernel_rfl) 192 hz (by kernel_rfl) (fun (xx : Nat) jx => match xx with | b21 => nth [.slice (some ⟨b21, 0, none⟩) 0 0, .slice (some ⟨b21, 0, none⟩) 0 0] jx) (fun (LL : Nat → Bool) (xx : Nat) ww => match xx with | b21 => Hp [] wa ww (bif LL 0 then [rA (some ⟨b21, 0, none⟩) 0 87 5 (([] : List ActK).map actRow), rB b5 84 (kL (mkC c) (mkR c) (.slice none (([] : List PairV).length) 0)), rB b2 24 (cL c), rS none 0 4 (([] : List PairV).map rowOf), rS ra rc 5 (acts.map actRow)] else [rB b5 84 (kL (mkC c) (mkR c) (.slice none (([] : List PairV).length) 0)), rB b2 24 (cL c), rS none 0 4 (([] : List PairV).map rowOf), rS ra rc 5 (acts.map actRow)])) default H.out ?_ (steps_al ?_) ?_ ?_
  · intro L1 L2 xx ww hL sg
    have lh0 := hL 0 (by decide)
    simp only [lh0] at sg
    exact sg
  · refine al_cons ?_ (al_cons ?_ (al_nil))
    · intro LL xx ac wc sg hst hwant QQ hgo
      revert sg hst hgo; revert xx; intro xold sg hst hgo
      have H := Lib.hid hst
      simp only [sg.self, cond_true, cond_false] at H
      refine hp_bslice0 elAct H rfl hwant ?_
      intro wd b21 H2
      exact hgo _ b21 _ (sg.agree (x' := b21) (n := 2) rfl (by (iterate 2 (refine ix_cons (by first | exact fun _ => rfl | exact no sg.self | exact no (sg.des _ rfl)) ?_)); exact ix_nil)) rfl (by simp only [(show upd LL 0 0 = true from rfl), cond_true, cond_false]; exact H2.out)
    · intro LL xx ac wc sg hst hwant QQ hgo
      revert sg hst hgo; revert xx; intro b21 sg hst hgo
      exact op_val hwant hgo hst _ (exec_assign rfl (sg.slot 0 (sg.anc 0 rfl))) rfl
  · exact skips [] (by kernel_rfl) (fun _ h => by cases h)
  · intro xx ac1 wz hfr hsl hst
    revert hsl hst; revert xx; intro b21 hsl hst
    exact hfin b21 ac1 wz (hfr.size.trans hz) hfr.defers (fr_keep hfr [7, 21] (by kernel_rfl)) (hsl 1 (by decide)) (Lib.hid hst)
set_option maxRecDepth 20000 in
theorem once_w_r6 (c : Cfg) (ra : Option Addr) (rc : Nat) (acts : List ActK) (b2 : Nat) (b5 : Nat) (b21 : Nat) {wa wb : World} (H : Hid (Hp [] wa wb [rA (some ⟨b21, 0, none⟩) 0 87 5 (([] : List ActK).map actRow), rB b5 84 (kL (mkC c) (mkR c) (.slice none (([] : List PairV).length) 0)), rB b2 24 (cL c), rS none 0 4 (([] : List PairV).map rowOf), rS ra rc 5 (acts.map actRow)])) (ac0 : Act) (hz : ac0.tmps.size = 192)  {QR : Exit → Act → World → Prop} (hfin : ∀ (ac1 : Act) (wz : World), ac1.tmps.size = 192 → ac1.defers = ac0.defers → (∀ t, ([8] : List Nat).contains t = false → ac1.eval (.tmp t) = ac0.eval (.tmp t)) → ac1.eval (.tmp 8) = .int .i64 0 →  Hid (Hp [] wa wz [rA (some ⟨b21, 0, none⟩) 0 87 5 (([] : List ActK).map actRow), rB b5 84 (kL (mkC c) (mkR c) (.slice none (([] : List PairV).length) 0)), rB b2 24 (cL c), rS none 0 4 (([] : List PairV).map rowOf), rS ra rc 5 (acts.map actRow)]) → QR .normal ac1 wz) : (regAt Try.f10 6).wp Try.prog QR ac0 wb := by
  refine wp_region_sq (by kernel_rfl) 192 hz (by kernel_rfl) (fun (xx : Unit) jx => nth [.int .i64 0] jx) (fun (LL : Nat → Bool) (xx : Unit) ww => Hp [] wa ww [rA (some ⟨b21, 0, none⟩) 0 87 5 (([] : List ActK).map actRow), rB b5 84 (kL (mkC c) (mkR c) (.slice none (([] : List PairV).length) 0)), rB b2 24 (cL c), rS none 0 4 (([] : List PairV).map rowOf), rS ra rc 5 (acts.map actRow)]) () H.out ?_ (steps_al ?_) ?_ ?_
  · exact fun _ _ _ _ _ h => h
  · refine al_cons ?_ (al_nil)
    · intro LL xx ac wc sg hst hwant QQ hgo
      exact op_val hwant hgo hst _ (exec_assign rfl rfl) rfl
  · exact skips [] (by kernel_rfl) (fun _ h => by cases h)
  · intro xx ac1 wz hfr hsl hst
    exact hfin ac1 wz (hfr.size.trans hz) hfr.defers (fr_keep hfr [8] (by kernel_rfl)) (hsl 0 (by decide)) (Lib.hid hst)
set_option maxRecDepth 20000 in
theorem once_w_r7 (c : Cfg) (ra : Option Addr) (rc : Nat) (acts : List ActK) (b2 : Nat) (b5 : Nat) (i : Nat) (a : Option Addr) (cc : Nat) (ps : List PairV) (now : Int) (ad : Option Addr) (cd : Nat) (ds : List ActK) (hi : i ≤ acts.length) (hi2 : i ≤ 80) (hl : ps.length ≤ i) (hd : ds.length ≤ i) (hn0 : 0 ≤ now) (hn1 : now ≤ 3 * i) {wa wb : World} (H : Hid (Hp [] wa wb [rA ad cd 87 5 (ds.map actRow), rB b5 84 (kL (mkC c) (mkR c) (.slice a ps.length cc)), rB b2 24 (cL c), rS a cc 4 (ps.map rowOf), rS ra rc 5 (acts.map actRow)])) (ac0 : Act) (hz : ac0.tmps.size = 192) (so1 : ac0.eval (.tmp 1) = .slice ra acts.length rc) (so8 : ac0.eval (.tmp 8) = .int .i64 i) {QR : Exit → Act → World → Prop} (hfin : ∀ (ac1 : Act) (wz : World), ac1.tmps.size = 192 → ac1.defers = ac0.defers → (∀ t, ([22, 23, 24, 25, 26, 27, 28, 29] : List Nat).contains t = false → ac1.eval (.tmp t) = ac0.eval (.tmp t)) → ac1.eval (.tmp 29) = .bool ((decide (i < acts.length)) && (decide ((i : Int) < 80))) →  Hid (Hp [] wa wz [rA ad cd 87 5 (ds.map actRow), rB b5 84 (kL (mkC c) (mkR c) (.slice a ps.length cc)), rB b2 24 (cL c), rS a cc 4 (ps.map rowOf), rS ra rc 5 (acts.map actRow)]) → QR .normal ac1 wz) : (regAt Try.f10 7).wp Try.prog QR ac0 wb := by
  refine wp_region_sq (by kernel_rfl) 192 hz (by kernel_rfl) (fun (xx : Unit) jx => nth [.int .i64 i, .slice ra acts.length rc, .int .i64 acts.length, .bool (decide (i < acts.length)), .bool (decide (i < acts.length)), bif (decide (i < acts.length)) then .int .i64 i else undef, bif (decide (i < acts.length)) then .bool (decide ((i : Int) < 80)) else undef, .bool ((decide (i < acts.length)) && (decide ((i : Int) < 80)))] jx) (fun (LL : Nat → Bool) (xx : Unit) ww => Hp [] wa ww [rA ad cd 87 5 (ds.map actRow), rB b5 84 (kL (mkC c) (mkR c) (.slice a ps.length cc)), rB b2 24 (cL c), rS a cc 4 (ps.map rowOf), rS ra rc 5 (acts.map actRow)]) () H.out ?_ (steps_al ?_) ?_ ?_
  · exact fun _ _ _ _ _ h => h
  · refine al_cons ?_ (al_cons ?_ (al_cons ?_ (al_cons ?_ (al_cons ?_ (al_cons ?_ (al_cons ?_ (al_cons ?_ (al_nil))))))))
    · intro LL xx ac wc sg hst hwant QQ hgo
      exact op_val hwant hgo hst _ (exec_move rfl ((sg.free 8 (by kernel_rfl)).trans so8)) rfl
    · intro LL xx ac wc sg hst hwant QQ hgo
      exact op_val hwant hgo hst _ (exec_move rfl ((sg.free 1 (by kernel_rfl)).trans so1)) rfl
    · intro LL xx ac wc sg hst hwant QQ hgo
      have se23 : ac.eval (.tmp 23) = _ := (sg.slot 1 (sg.anc 1 rfl))
      have sg23 := gt_of se23
      (try simp only [nth] at se23 sg23)
      exact op_val hwant hgo hst _ (by simp only [execOp, nth]; go_simp <;> omega) rfl
    · intro LL xx ac wc sg hst hwant QQ hgo
      have se22 : ac.eval (.tmp 22) = _ := (sg.slot 0 (sg.anc 0 rfl))
      have sg22 := gt_of se22
      have se24 : ac.eval (.tmp 24) = _ := (sg.slot 2 (sg.anc 2 rfl))
      have sg24 := gt_of se24
      (try simp only [nth] at se22 sg22 se24 sg24)
      exact op_val hwant hgo hst _ (by simp only [execOp, nth]; go_simp <;> omega) rfl
    · intro LL xx ac wc sg hst hwant QQ hgo
      exact op_val hwant hgo hst _ (exec_move rfl (sg.slot 3 (sg.anc 3 rfl))) rfl
    · intro LL xx ac wc sg hst hwant QQ hgo
      have hG : (decide (i < acts.length)) = true := (want_t rfl rfl (sg.slot 4 (sg.anc 4 rfl))).symm.trans hwant
      exact op_val hwant hgo hst _ (exec_move rfl ((sg.free 8 (by kernel_rfl)).trans so8)) (cI hG)
    · intro LL xx ac wc sg hst hwant QQ hgo
      have hG : (decide (i < acts.length)) = true := (want_t rfl rfl (sg.slot 4 (sg.anc 4 rfl))).symm.trans hwant
      have se27 : ac.eval (.tmp 27) = _ := (cT (sg.slot 5 (sg.anc 5 rfl)) hG)
      have sg27 := gt_of se27
      (try simp only [nth] at se27 sg27)
      exact op_val hwant hgo hst _ (by simp only [execOp, nth]; go_simp <;> omega) (cI hG)
    · intro LL xx ac wc sg hst hwant QQ hgo
      exact op_val hwant hgo hst (.bool ((decide (i < acts.length)) && (decide ((i : Int) < 80)))) (exec_and (Y := decide ((i : Int) < 80)) rfl (sg.slot 4 (sg.anc 4 rfl)) (fun qq => cT (sg.slot 6 (sg.anc 6 rfl)) qq)) rfl
  · refine skips [5, 6] (by kernel_rfl) ?_
    refine List.forall_mem_cons.2 ⟨?_, List.forall_mem_cons.2 ⟨?_, fun _ h => by cases h⟩⟩
    · intro oo hop LL xx ac sg hwant
      cases Option.some.inj hop
      have hG : (decide (i < acts.length)) = false := (want_t rfl rfl (sg.slot 4 (sg.anc 4 rfl))).symm.trans hwant
      exact ⟨cF hG, fun _ h => h⟩
    · intro oo hop LL xx ac sg hwant
      cases Option.some.inj hop
      have hG : (decide (i < acts.length)) = false := (want_t rfl rfl (sg.slot 4 (sg.anc 4 rfl))).symm.trans hwant
      exact ⟨cF hG, fun _ h => h⟩
  · intro xx ac1 wz hfr hsl hst
    exact hfin ac1 wz (hfr.size.trans hz) hfr.defers (fr_keep hfr [22, 23, 24, 25, 26, 27, 28, 29] (by kernel_rfl)) (hsl 7 (by decide)) (Lib.hid hst)
set_option maxRecDepth 20000 in
theorem once_w_r9 (c : Cfg) (rc : Nat) (acts : List ActK) (b2 : Nat) (b5 : Nat) (i : Nat) (a : Option Addr) (cc : Nat) (ps : List PairV) (now : Int) (ad : Option Addr) (cd : Nat) (ds : List ActK) (hi : i ≤ acts.length) (hi2 : i ≤ 80) (hl : ps.length ≤ i) (hd : ds.length ≤ i) (hn0 : 0 ≤ now) (hn1 : now ≤ 3 * i) (z1ld : i < acts.length) (z1rd : (i : Int) < 80) (y : Addr) (x : ActK) (HR : Hid ((acts.map actRow)[i]? = some [.int .i64 x.kind, .int .i64 x.now, .int .i64 x.who, .int .u64 x.key, .string x.body])) (hk0 : 0 ≤ x.key) (hk1 : x.key ≤ 18446744073709551615) {wa wb : World} (H : Hid (Hp [] wa wb [rA ad cd 87 5 (ds.map actRow), rB b5 84 (kL (mkC c) (mkR c) (.slice a ps.length cc)), rB b2 24 (cL c), rS a cc 4 (ps.map rowOf), rS (some y) rc 5 (acts.map actRow)])) (ac0 : Act) (hz : ac0.tmps.size = 192) (so1 : ac0.eval (.tmp 1) = .slice (some y) acts.length rc) (so8 : ac0.eval (.tmp 8) = .int .i64 i) {QR : Exit → Act → World → Prop} (hfin : ∀ (b9 : Nat) (ac1 : Act) (wz : World), ac1.tmps.size = 192 → ac1.defers = ac0.defers → (∀ t, ([9, 32, 33, 34, 35] : List Nat).contains t = false → ac1.eval (.tmp t) = ac0.eval (.tmp t)) → ac1.eval (.tmp 9) = .pointer (some ⟨b9, 0, none⟩) →  Hid (Hp [] wa wz [rB b9 87 [.int .i64 x.kind, .int .i64 x.now, .int .i64 x.who, .int .u64 x.key, .string x.body], rA ad cd 87 5 (ds.map actRow), rB b5 84 (kL (mkC c) (mkR c) (.slice a ps.length cc)), rB b2 24 (cL c), rS a cc 4 (ps.map rowOf), rS (some y) rc 5 (acts.map actRow)]) → QR .normal ac1 wz) : (regAt Try.f10 9).wp Try.prog QR ac0 wb := by
  refine wp_region_sq (by kernel_rfl) 192 hz (by kernel_rfl) (fun (xx : Nat) jx => match xx with | b9 => nth [.slice (some y) acts.length rc, .int .i64 i, .pointer (some (y.add (i * 5))), .agg #[.int .i64 x.kind, .int .i64 x.now, .int .i64 x.who, .int .u64 x.key, .string x.body], .pointer (some ⟨b9, 0, none⟩), undef] jx) (fun (LL : Nat → Bool) (xx : Nat) ww => match xx with | b9 => Hp [] wa ww (bif LL 5 then [rB b9 87 [.int .i64 x.kind, .int .i64 x.now, .int .i64 x.who, .int .u64 x.key, .string x.body], rA ad cd 87 5 (ds.map actRow), rB b5 84 (kL (mkC c) (mkR c) (.slice a ps.length cc)), rB b2 24 (cL c), rS a cc 4 (ps.map rowOf), rS (some y) rc 5 (acts.map actRow)] else (bif LL 4 then [rB b9 87 [.int .i64 0, .int .i64 0, .int .i64 0, .int .u64 0, .string (⟨#[]⟩ : ByteArray)], rA ad cd 87 5 (ds.map actRow), rB b5 84 (kL (mkC c) (mkR c) (.slice a ps.length cc)), rB b2 24 (cL c), rS a cc 4 (ps.map rowOf), rS (some y) rc 5 (acts.map actRow)] else [rA ad cd 87 5 (ds.map actRow), rB b5 84 (kL (mkC c) (mkR c) (.slice a ps.length cc)), rB b2 24 (cL c), rS a cc 4 (ps.map rowOf), rS (some y) rc 5 (acts.map actRow)]))) default H.out ?_ (steps_al ?_) ?_ ?_
  · intro L1 L2 xx ww hL sg
    have lh4 := hL 4 (by decide)
    have lh5 := hL 5 (by decide)
    simp only [lh4, lh5] at sg
    exact sg
  · refine al_cons ?_ (al_cons ?_ (al_cons ?_ (al_cons ?_ (al_cons ?_ (al_cons ?_ (al_nil))))))
    · intro LL xx ac wc sg hst hwant QQ hgo
      revert sg hst hgo; revert xx; intro b9 sg hst hgo
      exact op_val hwant hgo hst _ (exec_move rfl ((sg.free 1 (by kernel_rfl)).trans so1)) rfl
    · intro LL xx ac wc sg hst hwant QQ hgo
      revert sg hst hgo; revert xx; intro b9 sg hst hgo
      exact op_val hwant hgo hst _ (exec_move rfl ((sg.free 8 (by kernel_rfl)).trans so8)) rfl
    · intro LL xx ac wc sg hst hwant QQ hgo
      revert sg hst hgo; revert xx; intro b9 sg hst hgo
      have se32 : ac.eval (.tmp 32) = _ := (sg.slot 0 (sg.anc 0 rfl))
      have sg32 := gt_of se32
      have se33 : ac.eval (.tmp 33) = _ := (sg.slot 1 (sg.anc 1 rfl))
      have sg33 := gt_of se33
      (try simp only [nth] at se32 sg32 se33 sg33)
      exact op_val hwant hgo hst _ (by simp only [execOp, nth]; go_simp <;> omega) rfl
    · intro LL xx ac wc sg hst hwant QQ hgo
      revert sg hst hgo; revert xx; intro b9 sg hst hgo
      have H := Lib.hid hst
      simp only [sg.des 4 rfl, sg.des 5 rfl, cond_true, cond_false] at H
      refine hpS_load tyhoistwaylaw10_Act H rfl (sg.slot 2 (sg.anc 2 rfl)) hwant (by (repeat (first | exact List.Mem.head _ | apply List.Mem.tail))) HR.out rfl ?_
      exact hgo _ b9 _ (fun _ _ => rfl) rfl hst
    · intro LL xx ac wc sg hst hwant QQ hgo
      revert sg hst hgo; revert xx; intro xold sg hst hgo
      have H := Lib.hid hst
      simp only [sg.self, sg.des 5 rfl, cond_true, cond_false] at H
      refine hpA_alloc tyhoistwaylaw10_Act H rfl rfl ?_
      intro wd b9 H2
      exact hgo _ b9 _ (sg.agree (x' := b9) (n := 6) rfl (by (iterate 6 (refine ix_cons (by first | exact fun _ => rfl | exact no sg.self | exact no (sg.des _ rfl)) ?_)); exact ix_nil)) rfl (by simp only [(show upd LL 4 4 = true from rfl), (show upd LL 4 5 = LL 5 from rfl), sg.des 5 rfl, cond_true, cond_false]; exact H2.out)
    · intro LL xx ac wc sg hst hwant QQ hgo
      revert sg hst hgo; revert xx; intro b9 sg hst hgo
      have H := Lib.hid hst
      simp only [sg.anc 4 rfl, sg.self, cond_true, cond_false] at H
      refine hpA_store tyhoistwaylaw10_Act H rfl rfl (sg.slot 4 (sg.anc 4 rfl)) (sg.slot 3 (sg.anc 3 rfl)) rfl (by repeat (first | apply Put.head | apply Put.tail)) (by simp [kA, kL, rkA, rkL, cA, cL]) (by simp [kA, kL, rkA, rkL, cA, cL, Value.oneCell']) (by first | rfl | (simp only [spl]; rfl)) rfl ?_
      intro wd H2
      exact hgo _ b9 _ (sg.agree (x' := b9) (n := 6) rfl (by (iterate 6 (refine ix_cons (by first | exact fun _ => rfl | exact no sg.self | exact no (sg.des _ rfl)) ?_)); exact ix_nil)) rfl (by simp only [(show upd LL 5 4 = LL 4 from rfl), sg.anc 4 rfl, (show upd LL 5 5 = true from rfl), cond_true, cond_false]; exact H2.out)
  · exact skips [] (by kernel_rfl) (fun _ h => by cases h)
  · intro xx ac1 wz hfr hsl hst
    revert hsl hst; revert xx; intro b9 hsl hst
    exact hfin b9 ac1 wz (hfr.size.trans hz) hfr.defers (fr_keep hfr [9, 32, 33, 34, 35] (by kernel_rfl)) (hsl 4 (by decide)) (Lib.hid hst)
set_option maxRecDepth 20000 in
theorem once_w_r10 (c : Cfg) (rc : Nat) (acts : List ActK) (b2 : Nat) (b5 : Nat) (i : Nat) (a : Option Addr) (cc : Nat) (ps : List PairV) (now : Int) (ad : Option Addr) (cd : Nat) (ds : List ActK) (hi : i ≤ acts.length) (hi2 : i ≤ 80) (hl : ps.length ≤ i) (hd : ds.length ≤ i) (hn0 : 0 ≤ now) (hn1 : now ≤ 3 * i) (z1ld : i < acts.length) (z1rd : (i : Int) < 80) (y : Addr) (x : ActK) (hk0 : 0 ≤ x.key) (hk1 : x.key ≤ 18446744073709551615) (b9 : Nat) {wa wb : World} (H : Hid (Hp [] wa wb [rB b9 87 [.int .i64 x.kind, .int .i64 x.now, .int .i64 x.who, .int .u64 x.key, .string x.body], rA ad cd 87 5 (ds.map actRow), rB b5 84 (kL (mkC c) (mkR c) (.slice a ps.length cc)), rB b2 24 (cL c), rS a cc 4 (ps.map rowOf), rS (some y) rc 5 (acts.map actRow)])) (ac0 : Act) (hz : ac0.tmps.size = 192) (so9 : ac0.eval (.tmp 9) = .pointer (some ⟨b9, 0, none⟩)) {QR : Exit → Act → World → Prop} (hfin : ∀ (ac1 : Act) (wz : World), ac1.tmps.size = 192 → ac1.defers = ac0.defers → (∀ t, ([36, 37, 38, 39] : List Nat).contains t = false → ac1.eval (.tmp t) = ac0.eval (.tmp t)) → ac1.eval (.tmp 39) = .bool (decide (40 < (x.body.size : Int))) →  Hid (Hp [] wa wz [rB b9 87 [.int .i64 x.kind, .int .i64 x.now, .int .i64 x.who, .int .u64 x.key, .string x.body], rA ad cd 87 5 (ds.map actRow), rB b5 84 (kL (mkC c) (mkR c) (.slice a ps.length cc)), rB b2 24 (cL c), rS a cc 4 (ps.map rowOf), rS (some y) rc 5 (acts.map actRow)]) → QR .normal ac1 wz) : (regAt Try.f10 10).wp Try.prog QR ac0 wb := by
  refine wp_region_sq (by kernel_rfl) 192 hz (by kernel_rfl) (fun (xx : Unit) jx => nth [.pointer (some ⟨b9, 4, none⟩), .string x.body, .int .i64 x.body.size, .bool (decide (40 < (x.body.size : Int)))] jx) (fun (LL : Nat → Bool) (xx : Unit) ww => Hp [] wa ww [rB b9 87 [.int .i64 x.kind, .int .i64 x.now, .int .i64 x.who, .int .u64 x.key, .string x.body], rA ad cd 87 5 (ds.map actRow), rB b5 84 (kL (mkC c) (mkR c) (.slice a ps.length cc)), rB b2 24 (cL c), rS a cc 4 (ps.map rowOf), rS (some y) rc 5 (acts.map actRow)]) () H.out ?_ (steps_al ?_) ?_ ?_
  · exact fun _ _ _ _ _ h => h
  · refine al_cons ?_ (al_cons ?_ (al_cons ?_ (al_cons ?_ (al_nil))))
    · intro LL xx ac wc sg hst hwant QQ hgo
      have se9 : ac.eval (.tmp 9) = _ := ((sg.free 9 (by kernel_rfl)).trans so9)
      have sg9 := gt_of se9
      exact op_val hwant hgo hst _ (by simp only [execOp, nth]; go_simp <;> omega) rfl
    · intro LL xx ac wc sg hst hwant QQ hgo
      have H := Lib.hid hst
      refine hpA_load1 tystring H rfl (sg.slot 0 (sg.anc 0 rfl)) hwant (by (repeat (first | exact List.Mem.head _ | apply List.Mem.tail))) (by rfl) ?_
      exact hgo _ () _ (fun _ _ => rfl) rfl hst
    · intro LL xx ac wc sg hst hwant QQ hgo
      have se37 : ac.eval (.tmp 37) = _ := (sg.slot 1 (sg.anc 1 rfl))
      have sg37 := gt_of se37
      (try simp only [nth] at se37 sg37)
      exact op_val hwant hgo hst _ (by simp only [execOp, nth]; go_simp <;> omega) rfl
    · intro LL xx ac wc sg hst hwant QQ hgo
      have se38 : ac.eval (.tmp 38) = _ := (sg.slot 2 (sg.anc 2 rfl))
      have sg38 := gt_of se38
      (try simp only [nth] at se38 sg38)
      exact op_val hwant hgo hst _ (by simp only [execOp, nth]; go_simp <;> omega) rfl
  · exact skips [] (by kernel_rfl) (fun _ h => by cases h)
  · intro xx ac1 wz hfr hsl hst
    exact hfin ac1 wz (hfr.size.trans hz) hfr.defers (fr_keep hfr [36, 37, 38, 39] (by kernel_rfl)) (hsl 3 (by decide)) (Lib.hid hst)
set_option maxRecDepth 20000 in
theorem once_w_r11 (c : Cfg) (rc : Nat) (acts : List ActK) (b2 : Nat) (b5 : Nat) (i : Nat) (a : Option Addr) (cc : Nat) (ps : List PairV) (now : Int) (ad : Option Addr) (cd : Nat) (ds : List ActK) (hi : i ≤ acts.length) (hi2 : i ≤ 80) (hl : ps.length ≤ i) (hd : ds.length ≤ i) (hn0 : 0 ≤ now) (hn1 : now ≤ 3 * i) (z1ld : i < acts.length) (z1rd : (i : Int) < 80) (y : Addr) (x : ActK) (hk0 : 0 ≤ x.key) (hk1 : x.key ≤ 18446744073709551615) (b9 : Nat) (z2d : 40 < (x.body.size : Int)) {wa wb : World} (H : Hid (Hp [] wa wb [rB b9 87 [.int .i64 x.kind, .int .i64 x.now, .int .i64 x.who, .int .u64 x.key, .string x.body], rA ad cd 87 5 (ds.map actRow), rB b5 84 (kL (mkC c) (mkR c) (.slice a ps.length cc)), rB b2 24 (cL c), rS a cc 4 (ps.map rowOf), rS (some y) rc 5 (acts.map actRow)])) (ac0 : Act) (hz : ac0.tmps.size = 192)  {QR : Exit → Act → World → Prop} (hfin : ∀ (ac1 : Act) (wz : World), ac1.tmps.size = 192 → ac1.defers = ac0.defers → (∀ t, ([4] : List Nat).contains t = false → ac1.eval (.tmp t) = ac0.eval (.tmp t)) → ac1.eval (.tmp 4) = .bool true →  Hid (Hp [] wa wz [rB b9 87 [.int .i64 x.kind, .int .i64 x.now, .int .i64 x.who, .int .u64 x.key, .string x.body], rA ad cd 87 5 (ds.map actRow), rB b5 84 (kL (mkC c) (mkR c) (.slice a ps.length cc)), rB b2 24 (cL c), rS a cc 4 (ps.map rowOf), rS (some y) rc 5 (acts.map actRow)]) → QR .normal ac1 wz) : (regAt Try.f10 11).wp Try.prog QR ac0 wb := by
  refine wp_region_sq (by kernel_rfl) 192 hz (by kernel_rfl) (fun (xx : Unit) jx => nth [.bool true] jx) (fun (LL : Nat → Bool) (xx : Unit) ww => Hp [] wa ww [rB b9 87 [.int .i64 x.kind, .int .i64 x.now, .int .i64 x.who, .int .u64 x.key, .string x.body], rA ad cd 87 5 (ds.map actRow), rB b5 84 (kL (mkC c) (mkR c) (.slice a ps.length cc)), rB b2 24 (cL c), rS a cc 4 (ps.map rowOf), rS (some y) rc 5 (acts.map actRow)]) () H.out ?_ (steps_al ?_) ?_ ?_
  · exact fun _ _ _ _ _ h => h
  · refine al_cons ?_ (al_nil)
    · intro LL xx ac wc sg hst hwant QQ hgo
      exact op_val hwant hgo hst _ (exec_assign rfl rfl) rfl
  · exact skips [] (by kernel_rfl) (fun _ h => by cases h)
  · intro xx ac1 wz hfr hsl hst
    exact hfin ac1 wz (hfr.size.trans hz) hfr.defers (fr_keep hfr [4] (by kernel_rfl)) (hsl 0 (by decide)) (Lib.hid hst)
set_option maxRecDepth 20000 in
theorem once_w_r12 (c : Cfg) (rc : Nat) (acts : List ActK) (b2 : Nat) (b5 : Nat) (i : Nat) (a : Option Addr) (cc : Nat) (ps : List PairV) (now : Int) (ad : Option Addr) (cd : Nat) (ds : List ActK) (hi : i ≤ acts.length) (hi2 : i ≤ 80) (hl : ps.length ≤ i) (hd : ds.length ≤ i) (hn0 : 0 ≤ now) (hn1 : now ≤ 3 * i) (z1ld : i < acts.length) (z1rd : (i : Int) < 80) (y : Addr) (x : ActK) (hk0 : 0 ≤ x.key) (hk1 : x.key ≤ 18446744073709551615) (b9 : Nat) (z2d : ¬ (40 < (x.body.size : Int))) (m : Nat) (hm1 : m ≤ 3) (hm : IntKind.i64.wrap ((IntKind.u64.wrap x.now).tmod 4) = (m : Int)) (hm0 : now ≤ now + m) (hxb : x.body.size ≤ 40) (hfl : (ps.filter (keepB (mkC c) (now + m))).length ≤ i) {wa wb : World} (H : Hid (Hp [] wa wb [rB b9 87 [.int .i64 x.kind, .int .i64 x.now, .int .i64 x.who, .int .u64 x.key, .string x.body], rA ad cd 87 5 (ds.map actRow), rB b5 84 (kL (mkC c) (mkR c) (.slice a ps.length cc)), rB b2 24 (cL c), rS a cc 4 (ps.map rowOf), rS (some y) rc 5 (acts.map actRow)])) (ac0 : Act) (hz : ac0.tmps.size = 192) (so6 : ac0.eval (.tmp 6) = .int .i64 now) (so9 : ac0.eval (.tmp 9) = .pointer (some ⟨b9, 0, none⟩)) {QR : Exit → Act → World → Prop} (hfin : ∀ (ac1 : Act) (wz : World), ac1.tmps.size = 192 → ac1.defers = ac0.defers → (∀ t, ([6, 40, 41, 42, 43, 44, 45, 46] : List Nat).contains t = false → ac1.eval (.tmp t) = ac0.eval (.tmp t)) → ac1.eval (.tmp 6) = .int .i64 (now + m) →  Hid (Hp [] wa wz [rB b9 87 [.int .i64 x.kind, .int .i64 x.now, .int .i64 x.who, .int .u64 x.key, .string x.body], rA ad cd 87 5 (ds.map actRow), rB b5 84 (kL (mkC c) (mkR c) (.slice a ps.length cc)), rB b2 24 (cL c), rS a cc 4 (ps.map rowOf), rS (some y) rc 5 (acts.map actRow)]) → QR .normal ac1 wz) : (regAt Try.f10 12).wp Try.prog QR ac0 wb := by
  refine wp_region_sq (by kernel_rfl) 192 hz (by kernel_rfl) (fun (xx : Unit) jx => nth [.int .i64 now, .pointer (some ⟨b9, 1, none⟩), .int .i64 x.now, .int .u64 (IntKind.u64.wrap x.now), .int .u64 ((IntKind.u64.wrap x.now).tmod 4), .int .i64 m, .int .i64 (now + m), .int .i64 (now + m)] jx) (fun (LL : Nat → Bool) (xx : Unit) ww => Hp [] wa ww [rB b9 87 [.int .i64 x.kind, .int .i64 x.now, .int .i64 x.who, .int .u64 x.key, .string x.body], rA ad cd 87 5 (ds.map actRow), rB b5 84 (kL (mkC c) (mkR c) (.slice a ps.length cc)), rB b2 24 (cL c), rS a cc 4 (ps.map rowOf), rS (some y) rc 5 (acts.map actRow)]) () H.out ?_ (steps_al ?_) ?_ ?_
  · exact fun _ _ _ _ _ h => h
  · refine al_cons ?_ (al_cons ?_ (al_cons ?_ (al_cons ?_ (al_cons ?_ (al_cons ?_ (al_cons ?_ (al_cons ?_ (al_nil))))))))
    · intro LL xx ac wc sg hst hwant QQ hgo
      exact op_val hwant hgo hst _ (exec_move rfl ((sg.yet 6 7 (sg.des 7 rfl) (by kernel_rfl)).trans so6)) rfl
    · intro LL xx ac wc sg hst hwant QQ hgo
      have se9 : ac.eval (.tmp 9) = _ := ((sg.free 9 (by kernel_rfl)).trans so9)
      have sg9 := gt_of se9
      exact op_val hwant hgo hst _ (by simp only [execOp, nth]; go_simp <;> omega) rfl
    · intro LL xx ac wc sg hst hwant QQ hgo
      have H := Lib.hid hst
      refine hpA_load1 tyint H rfl (sg.slot 1 (sg.anc 1 rfl)) hwant (by (repeat (first | exact List.Mem.head _ | apply List.Mem.tail))) (by rfl) ?_
      exact hgo _ () _ (fun _ _ => rfl) rfl hst
    · intro LL xx ac wc sg hst hwant QQ hgo
      have se42 : ac.eval (.tmp 42) = _ := (sg.slot 2 (sg.anc 2 rfl))
      have sg42 := gt_of se42
      (try simp only [nth] at se42 sg42)
      exact op_val hwant hgo hst _ (by simp only [execOp, nth]; go_simp <;> omega) rfl
    · intro LL xx ac wc sg hst hwant QQ hgo
      have se43 : ac.eval (.tmp 43) = _ := (sg.slot 3 (sg.anc 3 rfl))
      have sg43 := gt_of se43
      (try simp only [nth] at se43 sg43)
      exact op_val hwant hgo hst _ (by simp only [execOp, nth]; go_simp <;> omega) rfl
    · intro LL xx ac wc sg hst hwant QQ hgo
      have se44 : ac.eval (.tmp 44) = _ := (sg.slot 4 (sg.anc 4 rfl))
      have sg44 := gt_of se44
      (try simp only [nth] at se44 sg44)
      exact op_val hwant hgo hst _ (by simp only [execOp, nth]; go_simp <;> omega) rfl
    · intro LL xx ac wc sg hst hwant QQ hgo
      have se40 : ac.eval (.tmp 40) = _ := (sg.slot 0 (sg.anc 0 rfl))
      have sg40 := gt_of se40
      have se45 : ac.eval (.tmp 45) = _ := (sg.slot 5 (sg.anc 5 rfl))
      have sg45 := gt_of se45
      (try simp only [nth] at se40 sg40 se45 sg45)
      have hnw : IntKind.i64.wrap (now + m : Int) = now + m := IntWalk.i64_in _ (by omega)
      exact op_val hwant hgo hst _ (by simp only [execOp, nth]; go_simp <;> omega) rfl
    · intro LL xx ac wc sg hst hwant QQ hgo
      exact op_val hwant hgo hst _ (exec_assign rfl (sg.slot 6 (sg.anc 6 rfl))) rfl
  · exact skips [] (by kernel_rfl) (fun _ h => by cases h)
  · intro xx ac1 wz hfr hsl hst
    exact hfin ac1 wz (hfr.size.trans hz) hfr.defers (fr_keep hfr [6, 40, 41, 42, 43, 44, 45, 46] (by kernel_rfl)) (hsl 7 (by decide)) (Lib.hid hst)
set_option maxRecDepth 20000 in
theorem once_w_r13 (c : Cfg) (rc : Nat) (acts : List ActK) (b2 : Nat) (b5 : Nat) (i : Nat) (a : Option Addr) (cc : Nat) (ps : List PairV) (now : Int) (ad : Option Addr) (cd : Nat) (ds : List ActK) (hi : i ≤ acts.length) (hi2 : i ≤ 80) (hl : ps.length ≤ i) (hd : ds.length ≤ i) (hs : Hid (Sorted ps)) (hn0 : 0 ≤ now) (hn1 : now ≤ 3 * i) (z1ld : i < acts.length) (z1rd : (i : Int) < 80) (y : Addr) (x : ActK) (hk0 : 0 ≤ x.key) (hk1 : x.key ≤ 18446744073709551615) (b9 : Nat) (z2d : ¬ (40 < (x.body.size : Int))) (m : Nat) (hm1 : m ≤ 3) (hm : IntKind.i64.wrap ((IntKind.u64.wrap x.now).tmod 4) = (m : Int)) (hm0 : now ≤ now + m) (hxb : x.body.size ≤ 40) (hfl : (ps.filter (keepB (mkC c) (now + m))).length ≤ i) {wa wb : World} (H : Hid (Hp [] wa wb [rB b9 87 [.int .i64 x.kind, .int .i64 x.now, .int .i64 x.who, .int .u64 x.key, .string x.body], rA ad cd 87 5 (ds.map actRow), rB b5 84 (kL (mkC c) (mkR c) (.slice a ps.length cc)), rB b2 24 (cL c), rS a cc 4 (ps.map rowOf), rS (some y) rc 5 (acts.map actRow)])) (ac0 : Act) (hz : ac0.tmps.size = 192) (so5 : ac0.eval (.tmp 5) = .pointer (some ⟨b5, 0, none⟩)) (so6 : ac0.eval (.tmp 6) = .int .i64 (now + m)) (so9 : ac0.eval (.tmp 9) = .pointer (some ⟨b9, 0, none⟩)) {QR : Exit → Act → World → Prop} (hfin : ∀ (ac1 : Act) (wz : World), ac1.tmps.size = 192 → ac1.defers = ac0.defers → (∀ t, ([10, 11, 47, 48, 49, 50, 51, 52, 53, 54, 55, 56, 57, 58] : List Nat).contains t = false → ac1.eval (.tmp t) = ac0.eval (.tmp t)) → ac1.eval (.tmp 10) = .string ((lookV (mkC c) ps (now + m) x.who x.key x.body).1) → ac1.eval (.tmp 11) = .int .i64 ((lookV (mkC c) ps (now + m) x.who x.key x.body).2) →  Hid (Hp [] wa wz [rB b9 87 [.int .i64 x.kind, .int .i64 x.now, .int .i64 x.who, .int .u64 x.key, .string x.body], rA ad cd 87 5 (ds.map actRow), rB b5 84 (kL (mkC c) (mkR c) (.slice a ps.length cc)), rB b2 24 (cL c), rS a cc 4 (ps.map rowOf), rS (some y) rc 5 (acts.map actRow)]) → QR .normal ac1 wz) : (regAt Try.f10 13).wp Try.prog QR ac0 wb := by
  refine wp_region_sq (by kernel_rfl) 192 hz (by kernel_rfl) (fun (xx : Unit) jx => nth [.agg (kA (mkC c) (mkR c) (.slice a ps.length cc)), .int .i64 (now + m), .pointer (some ⟨b9, 2, none⟩), .int .i64 x.who, .pointer (some ⟨b9, 3, none⟩), .int .u64 x.key, .pointer (some ⟨b9, 4, none⟩), .string x.body, .tuple #[.string ((lookV (mkC c) ps (now + m) x.who x.key x.body).1), .int .i64 ((lookV (mkC c) ps (now + m) x.who x.key x.body).2)], .tuple #[.string ((lookV (mkC c) ps (now + m) x.who x.key x.body).1), .int .i64 ((lookV (mkC c) ps (now + m) x.who x.key x.body).2)], .string ((lookV (mkC c) ps (now + m) x.who x.key x.body).1), .int .i64 ((lookV (mkC c) ps (now + m) x.who x.key x.body).2), .string ((lookV (mkC c) ps (now + m) x.who x.key x.body).1), .int .i64 ((lookV (mkC c) ps (now + m) x.who x.key x.body).2)] jx) (fun (LL : Nat → Bool) (xx : Unit) ww => Hp [] wa ww [rB b9 87 [.int .i64 x.kind, .int .i64 x.now, .int .i64 x.who, .int .u64 x.key, .string x.body], rA ad cd 87 5 (ds.map actRow), rB b5 84 (kL (mkC c) (mkR c) (.slice a ps.length cc)), rB b2 24 (cL c), rS a cc 4 (ps.map rowOf), rS (some y) rc 5 (acts.map actRow)]) () H.out ?_ (steps_al ?_) ?_ ?_
  · exact fun _ _ _ _ _ h => h
  · refine al_cons ?_ (al_cons ?_ (al_cons ?_ (al_cons ?_ (al_cons ?_ (al_cons ?_ (al_cons ?_ (al_cons ?_ (al_cons ?_ (al_cons ?_ (al_cons ?_ (al_cons ?_ (al_cons ?_ (al_cons ?_ (al_nil))))))))))))))
    · intro LL xx ac wc sg hst hwant QQ hgo
      have H := Lib.hid hst
      refine hpA_load tykeys_Keys H rfl ((sg.free 5 (by kernel_rfl)).trans so5) hwant (by (repeat (first | exact List.Mem.head _ | apply List.Mem.tail))) (by rfl) rfl ?_
      exact hgo _ () _ (fun _ _ => rfl) rfl hst
    · intro LL xx ac wc sg hst hwant QQ hgo
      exact op_val hwant hgo hst _ (exec_move rfl ((sg.free 6 (by kernel_rfl)).trans so6)) rfl
    · intro LL xx ac wc sg hst hwant QQ hgo
      have se9 : ac.eval (.tmp 9) = _ := ((sg.free 9 (by kernel_rfl)).trans so9)
      have sg9 := gt_of se9
      exact op_val hwant hgo hst _ (by simp only [execOp, nth]; go_simp <;> omega) rfl
    · intro LL xx ac wc sg hst hwant QQ hgo
      have H := Lib.hid hst
      refine hpA_load1 tyint H rfl (sg.slot 2 (sg.anc 2 rfl)) hwant (by (repeat (first | exact List.Mem.head _ | apply List.Mem.tail))) (by rfl) ?_
      exact hgo _ () _ (fun _ _ => rfl) rfl hst
    · intro LL xx ac wc sg hst hwant QQ hgo
      have se9 : ac.eval (.tmp 9) = _ := ((sg.free 9 (by kernel_rfl)).trans so9)
      have sg9 := gt_of se9
      exact op_val hwant hgo hst _ (by simp only [execOp, nth]; go_simp <;> omega) rfl
    · intro LL xx ac wc sg hst hwant QQ hgo
      have H := Lib.hid hst
      refine hpA_load1 tyuint64 H rfl (sg.slot 4 (sg.anc 4 rfl)) hwant (by (repeat (first | exact List.Mem.head _ | apply List.Mem.tail))) (by rfl) ?_
      exact hgo _ () _ (fun _ _ => rfl) rfl hst
    · intro LL xx ac wc sg hst hwant QQ hgo
      have se9 : ac.eval (.tmp 9) = _ := ((sg.free 9 (by kernel_rfl)).trans so9)
      have sg9 := gt_of se9
      exact op_val hwant hgo hst _ (by simp only [execOp, nth]; go_simp <;> omega) rfl
    · intro LL xx ac wc sg hst hwant QQ hgo
      have H := Lib.hid hst
      refine hpA_load1 tystring H rfl (sg.slot 6 (sg.anc 6 rfl)) hwant (by (repeat (first | exact List.Mem.head _ | apply List.Mem.tail))) (by rfl) ?_
      exact hgo _ () _ (fun _ _ => rfl) rfl hst
    · intro LL xx ac wc sg hst hwant QQ hgo
      have se48 : ac.eval (.tmp 48) = _ := (sg.slot 0 (sg.anc 0 rfl))
      have sg48 := gt_of se48
      have se49 : ac.eval (.tmp 49) = _ := (sg.slot 1 (sg.anc 1 rfl))
      have sg49 := gt_of se49
      have se51 : ac.eval (.tmp 51) = _ := (sg.slot 3 (sg.anc 3 rfl))
      have sg51 := gt_of se51
      have se53 : ac.eval (.tmp 53) = _ := (sg.slot 5 (sg.anc 5 rfl))
      have sg53 := gt_of se53
      have se55 : ac.eval (.tmp 55) = _ := (sg.slot 7 (sg.anc 7 rfl))
      have sg55 := gt_of se55
      (try simp only [nth] at se48 sg48 se49 sg49 se51 sg51 se53 sg53 se55 sg55)
      have H := Lib.hid hst
      refine op_call hwant hgo 48 _ (by simp only [execOp]; go_simp) (lookC (mkC c) (mkR c) a cc ps (now + m) x.who x.key x.body wc (hp_held H (by (repeat (first | exact List.Mem.head _ | apply List.Mem.tail)))) hk0 hk1 hs (by omega)) ?_
      rintro er wd ⟨rfl, hof⟩
      exact ⟨_, (), rfl, fun _ _ => rfl, rfl, Hp.quiet hst hof⟩
    · intro LL xx ac wc sg hst hwant QQ hgo
      exact op_val hwant hgo hst _ (exec_move rfl (sg.slot 8 (sg.anc 8 rfl))) rfl
    · intro LL xx ac wc sg hst hwant QQ hgo
      have se47 : ac.eval (.tmp 47) = _ := (sg.slot 9 (sg.anc 9 rfl))
      have sg47 := gt_of se47
      (try simp only [nth] at se47 sg47)
      exact op_val hwant hgo hst _ (by simp only [execOp, nth]; go_simp <;> omega) rfl
    · intro LL xx ac wc sg hst hwant QQ hgo
      have se47 : ac.eval (.tmp 47) = _ := (sg.slot 9 (sg.anc 9 rfl))
      have sg47 := gt_of se47
      (try simp only [nth] at se47 sg47)
      exact op_val hwant hgo hst _ (by simp only [execOp, nth]; go_simp <;> omega) rfl
    · intro LL xx ac wc sg hst hwant QQ hgo
      exact op_val hwant hgo hst _ (exec_assign rfl (sg.slot 10 (sg.anc 10 rfl))) rfl
    · intro LL xx ac wc sg hst hwant QQ hgo
      exact op_val hwant hgo hst _ (exec_assign rfl (sg.slot 11 (sg.anc 11 rfl))) rfl
  · exact skips [] (by kernel_rfl) (fun _ h => by cases h)
  · intro xx ac1 wz hfr hsl hst
    exact hfin ac1 wz (hfr.size.trans hz) hfr.defers (fr_keep hfr [10, 11, 47, 48, 49, 50, 51, 52, 53, 54, 55, 56, 57, 58] (by kernel_rfl)) (hsl 12 (by decide)) (hsl 13 (by decide)) (Lib.hid hst)
set_option maxRecDepth 20000 in
theorem once_w_r14 (c : Cfg) (rc : Nat) (acts : List ActK) (b2 : Nat) (b5 : Nat) (i : Nat) (a : Option Addr) (cc : Nat) (ps : List PairV) (now : Int) (ad : Option Addr) (cd : Nat) (ds : List ActK) (hi : i ≤ acts.length) (hi2 : i ≤ 80) (hl : ps.length ≤ i) (hd : ds.length ≤ i) (hn0 : 0 ≤ now) (hn1 : now ≤ 3 * i) (z1ld : i < acts.length) (z1rd : (i : Int) < 80) (y : Addr) (x : ActK) (hk0 : 0 ≤ x.key) (hk1 : x.key ≤ 18446744073709551615) (b9 : Nat) (z2d : ¬ (40 < (x.body.size : Int))) (m : Nat) (hm1 : m ≤ 3) (hm : IntKind.i64.wrap ((IntKind.u64.wrap x.now).tmod 4) = (m : Int)) (hm0 : now ≤ now + m) (hxb : x.body.size ≤ 40) (hfl : (ps.filter (keepB (mkC c) (now + m))).length ≤ i) {wa wb : World} (H : Hid (Hp [] wa wb [rB b9 87 [.int .i64 x.kind, .int .i64 x.now, .int .i64 x.who, .int .u64 x.key, .string x.body], rA ad cd 87 5 (ds.map actRow), rB b5 84 (kL (mkC c) (mkR c) (.slice a ps.length cc)), rB b2 24 (cL c), rS a cc 4 (ps.map rowOf), rS (some y) rc 5 (acts.map actRow)])) (ac0 : Act) (hz : ac0.tmps.size = 192)  {QR : Exit → Act → World → Prop} (hfin : ∀ (ac1 : Act) (wz : World), ac1.tmps.size = 192 → ac1.defers = ac0.defers → (∀ t, ([12] : List Nat).contains t = false → ac1.eval (.tmp t) = ac0.eval (.tmp t)) → ac1.eval (.tmp 12) = .int .i64 0 →  Hid (Hp [] wa wz [rB b9 87 [.int .i64 x.kind, .int .i64 x.now, .int .i64 x.who, .int .u64 x.key, .string x.body], rA ad cd 87 5 (ds.map actRow), rB b5 84 (kL (mkC c) (mkR c) (.slice a ps.length cc)), rB b2 24 (cL c), rS a cc 4 (ps.map rowOf), rS (some y) rc 5 (acts.map actRow)]) → QR .normal ac1 wz) : (regAt Try.f10 14).wp Try.prog QR ac0 wb := by
  refine wp_region_sq (by kernel_rfl) 192 hz (by kernel_rfl) (fun (xx : Unit) jx => nth [.int .i64 0] jx) (fun (LL : Nat → Bool) (xx : Unit) ww => Hp [] wa ww [rB b9 87 [.int .i64 x.kind, .int .i64 x.now, .int .i64 x.who, .int .u64 x.key, .string x.body], rA ad cd 87 5 (ds.map actRow), rB b5 84 (kL (mkC c) (mkR c) (.slice a ps.length cc)), rB b2 24 (cL c), rS a cc 4 (ps.map rowOf), rS (some y) rc 5 (acts.map actRow)]) () H.out ?_ (steps_al ?_) ?_ ?_
  · exact fun _ _ _ _ _ h => h
  · refine al_cons ?_ (al_nil)
    · intro LL xx ac wc sg hst hwant QQ hgo
      exact op_val hwant hgo hst _ (exec_assign rfl rfl) rfl
  · exact skips [] (by kernel_rfl) (fun _ h => by cases h)
  · intro xx ac1 wz hfr hsl hst
    exact hfin ac1 wz (hfr.size.trans hz) hfr.defers (fr_keep hfr [12] (by kernel_rfl)) (hsl 0 (by decide)) (Lib.hid hst)
set_option maxRecDepth 20000 in
theorem once_w_r15 (c : Cfg) (rc : Nat) (acts : List ActK) (b2 : Nat) (b5 : Nat) (i : Nat) (a : Option Addr) (cc : Nat) (ps : List PairV) (now : Int) (ad : Option Addr) (cd : Nat) (ds : List ActK) (hi : i ≤ acts.length) (hi2 : i ≤ 80) (hl : ps.length ≤ i) (hd : ds.length ≤ i) (hn0 : 0 ≤ now) (hn1 : now ≤ 3 * i) (z1ld : i < acts.length) (z1rd : (i : Int) < 80) (y : Addr) (x : ActK) (hk0 : 0 ≤ x.key) (hk1 : x.key ≤ 18446744073709551615) (b9 : Nat) (z2d : ¬ (40 < (x.body.size : Int))) (m : Nat) (hm1 : m ≤ 3) (hm : IntKind.i64.wrap ((IntKind.u64.wrap x.now).tmod 4) = (m : Int)) (hm0 : now ≤ now + m) (hxb : x.body.size ≤ 40) (hfl : (ps.filter (keepB (mkC c) (now + m))).length ≤ i) (j : Nat) (hj0 : j ≤ ds.length) {wa wb : World} (H : Hid (Hp [] wa wb [rB b9 87 [.int .i64 x.kind, .int .i64 x.now, .int .i64 x.who, .int .u64 x.key, .string x.body], rA ad cd 87 5 (ds.map actRow), rB b5 84 (kL (mkC c) (mkR c) (.slice a ps.length cc)), rB b2 24 (cL c), rS a cc 4 (ps.map rowOf), rS (some y) rc 5 (acts.map actRow)])) (ac0 : Act) (hz : ac0.tmps.size = 192) (so7 : ac0.eval (.tmp 7) = .slice ad ds.length cd) (so12 : ac0.eval (.tmp 12) = .int .i64 j) {QR : Exit → Act → World → Prop} (hfin : ∀ (ac1 : Act) (wz : World), ac1.tmps.size = 192 → ac1.defers = ac0.defers → (∀ t, ([59, 60, 61, 62] : List Nat).contains t = false → ac1.eval (.tmp t) = ac0.eval (.tmp t)) → ac1.eval (.tmp 62) = .bool (decide (j < ds.length)) →  Hid (Hp [] wa wz [rB b9 87 [.int .i64 x.kind, .int .i64 x.now, .int .i64 x.who, .int .u64 x.key, .string x.body], rA ad cd 87 5 (ds.map actRow), rB b5 84 (kL (mkC c) (mkR c) (.slice a ps.length cc)), rB b2 24 (cL c), rS a cc 4 (ps.map rowOf), rS (some y) rc 5 (acts.map actRow)]) → QR .normal ac1 wz) : (regAt Try.f10 15).wp Try.prog QR ac0 wb := by
  refine wp_region_sq (by kernel_rfl) 192 hz (by kernel_rfl) (fun (xx : Unit) jx => nth [.int .i64 j, .slice ad ds.length cd, .int .i64 ds.length, .bool (decide (j < ds.length))] jx) (fun (LL : Nat → Bool) (xx : Unit) ww => Hp [] wa ww [rB b9 87 [.int .i64 x.kind, .int .i64 x.now, .int .i64 x.who, .int .u64 x.key, .string x.body], rA ad cd 87 5 (ds.map actRow), rB b5 84 (kL (mkC c) (mkR c) (.slice a ps.length cc)), rB b2 24 (cL c), rS a cc 4 (ps.map rowOf), rS (some y) rc 5 (acts.map actRow)]) () H.out ?_ (steps_al ?_) ?_ ?_
  · exact fun _ _ _ _ _ h => h
  · refine al_cons ?_ (al_cons ?_ (al_cons ?_ (al_cons ?_ (al_nil))))
    · intro LL xx ac wc sg hst hwant QQ hgo
      exact op_val hwant hgo hst _ (exec_move rfl ((sg.free 12 (by kernel_rfl)).trans so12)) rfl
    · intro LL xx ac wc sg hst hwant QQ hgo
      exact op_val hwant hgo hst _ (exec_move rfl ((sg.free 7 (by kernel_rfl)).trans so7)) rfl
    · intro LL xx ac wc sg hst hwant QQ hgo
      have se60 : ac.eval (.tmp 60) = _ := (sg.slot 1 (sg.anc 1 rfl))
      have sg60 := gt_of se60
      (try simp only [nth] at se60 sg60)
      exact op_val hwant hgo hst _ (by simp only [execOp, nth]; go_simp <;> omega) rfl
    · intro LL xx ac wc sg hst hwant QQ hgo
      have se59 : ac.eval (.tmp 59) = _ := (sg.slot 0 (sg.anc 0 rfl))
      have sg59 := gt_of se59
      have se61 : ac.eval (.tmp 61) = _ := (sg.slot 2 (sg.anc 2 rfl))
      have sg61 := gt_of se61
      (try simp only [nth] at se59 sg59 se61 sg61)
      exact op_val hwant hgo hst _ (by simp only [execOp, nth]; go_simp <;> omega) rfl
  · exact skips [] (by kernel_rfl) (fun _ h => by cases h)
  · intro xx ac1 wz hfr hsl hst
    exact hfin ac1 wz (hfr.size.trans hz) hfr.defers (fr_keep hfr [59, 60, 61, 62] (by kernel_rfl)) (hsl 3 (by decide)) (Lib.hid hst)
set_option maxRecDepth 20000 in
theorem once_w_r17 (c : Cfg) (rc : Nat) (acts : List ActK) (b2 : Nat) (b5 : Nat) (i : Nat) (a : Option Addr) (cc : Nat) (ps : List PairV) (now : Int) (cd : Nat) (ds : List ActK) (hi : i ≤ acts.length) (hi2 : i ≤ 80) (hl : ps.length ≤ i) (hd : ds.length ≤ i) (hn0 : 0 ≤ now) (hn1 : now ≤ 3 * i) (z1ld : i < acts.length) (z1rd : (i : Int) < 80) (y : Addr) (x : ActK) (hk0 : 0 ≤ x.key) (hk1 : x.key ≤ 18446744073709551615) (b9 : Nat) (z2d : ¬ (40 < (x.body.size : Int))) (m : Nat) (hm1 : m ≤ 3) (hm : IntKind.i64.wrap ((IntKind.u64.wrap x.now).tmod 4) = (m : Int)) (hm0 : now ≤ now + m) (hxb : x.body.size ≤ 40) (hfl : (ps.filter (keepB (mkC c) (now + m))).length ≤ i) (j : Nat) (hj0 : j ≤ ds.length) (z3d : j < ds.length) (yd : Addr) (u : ActK) (HU : Hid ((ds.map actRow)[j]? = some [.int .i64 u.kind, .int .i64 u.now, .int .i64 u.who, .int .u64 u.key, .string u.body])) (hub : u.body.size ≤ 40) {wa wb : World} (H : Hid (Hp [] wa wb [rB b9 87 [.int .i64 x.kind, .int .i64 x.now, .int .i64 x.who, .int .u64 x.key, .string x.body], rA (some yd) cd 87 5 (ds.map actRow), rB b5 84 (kL (mkC c) (mkR c) (.slice a ps.length cc)), rB b2 24 (cL c), rS a cc 4 (ps.map rowOf), rS (some y) rc 5 (acts.map actRow)])) (ac0 : Act) (hz : ac0.tmps.size = 192) (so7 : ac0.eval (.tmp 7) = .slice (some yd) ds.length cd) (so12 : ac0.eval (.tmp 12) = .int .i64 j) {QR : Exit → Act → World → Prop} (hfin : ∀ (b13 : Nat) (ac1 : Act) (wz : World), ac1.tmps.size = 192 → ac1.defers = ac0.defers → (∀ t, ([13, 65, 66, 67, 68] : List Nat).contains t = false → ac1.eval (.tmp t) = ac0.eval (.tmp t)) → ac1.eval (.tmp 13) = .pointer (some ⟨b13, 0, none⟩) →  Hid (Hp [] wa wz [rB b13 87 [.int .i64 u.kind, .int .i64 u.now, .int .i64 u.who, .int .u64 u.key, .string u.body], rB b9 87 [.int .i64 x.kind, .int .i64 x.now, .int .i64 x.who, .int .u64 x.key, .string x.body], rA (some yd) cd 87 5 (ds.map actRow), rB b5 84 (kL (mkC c) (mkR c) (.slice a ps.length cc)), rB b2 24 (cL c), rS a cc 4 (ps.map rowOf), rS (some y) rc 5 (acts.map actRow)]) → QR .normal ac1 wz) : (regAt Try.f10 17).wp Try.prog QR ac0 wb := by
  refine wp_region_sq (by kernel_rfl) 192 hz (by kernel_rfl) (fun (xx : Nat) jx => match xx with | b13 => nth [.slice (some yd) ds.length cd, .int .i64 j, .pointer (some (yd.add (j * 5))), .agg #[.int .i64 u.kind, .int .i64 u.now, .int .i64 u.who, .int .u64 u.key, .string u.body], .pointer (some ⟨b13, 0, none⟩), undef] jx) (fun (LL : Nat → Bool) (xx : Nat) ww => match xx with | b13 => Hp [] wa ww (bif LL 5 then [rB b13 87 [.int .i64 u.kind, .int .i64 u.now, .int .i64 u.who, .int .u64 u.key, .string u.body], rB b9 87 [.int .i64 x.kind, .int .i64 x.now, .int .i64 x.who, .int .u64 x.key, .string x.body], rA (some yd) cd 87 5 (ds.map actRow), rB b5 84 (kL (mkC c) (mkR c) (.slice a ps.length cc)), rB b2 24 (cL c), rS a cc 4 (ps.map rowOf), rS (some y) rc 5 (acts.map actRow)] else (bif LL 4 then [rB b13 87 [.int .i64 0, .int .i64 0, .int .i64 0, .int .u64 0, .string (⟨#[]⟩ : ByteArray)], rB b9 87 [.int .i64 x.kind, .int .i64 x.now, .int .i64 x.who, .int .u64 x.key, .string x.body], rA (some yd) cd 87 5 (ds.map actRow), rB b5 84 (kL (mkC c) (mkR c) (.slice a ps.length cc)), rB b2 24 (cL c), rS a cc 4 (ps.map rowOf), rS (some y) rc 5 (acts.map actRow)] else [rB b9 87 [.int .i64 x.kind, .int .i64 x.now, .int .i64 x.who, .int .u64 x.key, .string x.body], rA (some yd) cd 87 5 (ds.map actRow), rB b5 84 (kL (mkC c) (mkR c) (.slice a ps.length cc)), rB b2 24 (cL c), rS a cc 4 (ps.map rowOf), rS (some y) rc 5 (acts.map actRow)]))) default H.out ?_ (steps_al ?_) ?_ ?_
  · intro L1 L2 xx ww hL sg
    have lh4 := hL 4 (by decide)
    have lh5 := hL 5 (by decide)
    simp only [lh4, lh5] at sg
    exact sg
  · refine al_cons ?_ (al_cons ?_ (al_cons ?_ (al_cons ?_ (al_cons ?_ (al_cons ?_ (al_nil))))))
    · intro LL xx ac wc sg hst hwant QQ hgo
      revert sg hst hgo; revert xx; intro b13 sg hst hgo
      exact op_val hwant hgo hst _ (exec_move rfl ((sg.free 7 (by kernel_rfl)).trans so7)) rfl
    · intro LL xx ac wc sg hst hwant QQ hgo
      revert sg hst hgo; revert xx; intro b13 sg hst hgo
      exact op_val hwant hgo hst _ (exec_move rfl ((sg.free 12 (by kernel_rfl)).trans so12)) rfl
    · intro LL xx ac wc sg hst hwant QQ hgo
      revert sg hst hgo; revert xx; intro b13 sg hst hgo
      have se65 : ac.eval (.tmp 65) = _ := (sg.slot 0 (sg.anc 0 rfl))
      have sg65 := gt_of se65
      have se66 : ac.eval (.tmp 66) = _ := (sg.slot 1 (sg.anc 1 rfl))
      have sg66 := gt_of se66
      (try simp only [nth] at se65 sg65 se66 sg66)
      exact op_val hwant hgo hst _ (by simp only [execOp, nth]; go_simp <;> omega) rfl
    · intro LL xx ac wc sg hst hwant QQ hgo
      revert sg hst hgo; revert xx; intro b13 sg hst hgo
      have H := Lib.hid hst
      simp only [sg.des 4 rfl, sg.des 5 rfl, cond_true, cond_false] at H
      replace H := hp_read H 1 rfl
      refine hpS_load tyhoistwaylaw10_Act H rfl (sg.slot 2 (sg.anc 2 rfl)) hwant (by (repeat (first | exact List.Mem.head _ | apply List.Mem.tail))) HU.out rfl ?_
      exact hgo _ b13 _ (fun _ _ => rfl) rfl hst
    · intro LL xx ac wc sg hst hwant QQ hgo
      revert sg hst hgo; revert xx; intro xold sg hst hgo
      have H := Lib.hid hst
      simp only [sg.self, sg.des 5 rfl, cond_true, cond_false] at H
      refine hpA_alloc tyhoistwaylaw10_Act H rfl rfl ?_
      intro wd b13 H2
      exact hgo _ b13 _ (sg.agree (x' := b13) (n := 6) rfl (by (iterate 6 (refine ix_cons (by first | exact fun _ => rfl | exact no sg.self | exact no (sg.des _ rfl)) ?_)); exact ix_nil)) rfl (by simp only [(show upd LL 4 4 = true from rfl), (show upd LL 4 5 = LL 5 from rfl), sg.des 5 rfl, cond_true, cond_false]; exact H2.out)
    · intro LL xx ac wc sg hst hwant QQ hgo
      revert sg hst hgo; revert xx; intro b13 sg hst hgo
      have H := Lib.hid hst
      simp only [sg.anc 4 rfl, sg.self, cond_true, cond_false] at H
      refine hpA_store tyhoistwaylaw10_Act H rfl rfl (sg.slot 4 (sg.anc 4 rfl)) (sg.slot 3 (sg.anc 3 rfl)) rfl (by repeat (first | apply Put.head | apply Put.tail)) (by simp [kA, kL, rkA, rkL, cA, cL]) (by simp [kA, kL, rkA, rkL, cA, cL, Value.oneCell']) (by first | rfl | (simp only [spl]; rfl)) rfl ?_
      intro wd H2
      exact hgo _ b13 _ (sg.agree (x' := b13) (n := 6) rfl (by (iterate 6 (refine ix_cons (by first | exact fun _ => rfl | exact no sg.self | exact no (sg.des _ rfl)) ?_)); exact ix_nil)) rfl (by simp only [(show upd LL 5 4 = LL 4 from rfl), sg.anc 4 rfl, (show upd LL 5 5 = true from rfl), cond_true, cond_false]; exact H2.out)
  · exact skips [] (by kernel_rfl) (fun _ h => by cases h)
  · intro xx ac1 wz hfr hsl hst
    revert hsl hst; revert xx; intro b13 hsl hst
    exact hfin b13 ac1 wz (hfr.size.trans hz) hfr.defers (fr_keep hfr [13, 65, 66, 67, 68] (by kernel_rfl)) (hsl 4 (by decide)) (Lib.hid hst)
set_option maxRecDepth 20000 in
theorem once_w_r18 (c : Cfg) (rc : Nat) (acts : List ActK) (b2 : Nat) (b5 : Nat) (i : Nat) (a : Option Addr) (cc : Nat) (ps : List PairV) (now : Int) (cd : Nat) (ds : List ActK) (hi : i ≤ acts.length) (hi2 : i ≤ 80) (hl : ps.length ≤ i) (hd : ds.length ≤ i) (hn0 : 0 ≤ now) (hn1 : now ≤ 3 * i) (z1ld : i < acts.length) (z1rd : (i : Int) < 80) (y : Addr) (x : ActK) (hk0 : 0 ≤ x.key) (hk1 : x.key ≤ 18446744073709551615) (b9 : Nat) (z2d : ¬ (40 < (x.body.size : Int))) (m : Nat) (hm1 : m ≤ 3) (hm : IntKind.i64.wrap ((IntKind.u64.wrap x.now).tmod 4) = (m : Int)) (hm0 : now ≤ now + m) (hxb : x.body.size ≤ 40) (hfl : (ps.filter (keepB (mkC c) (now + m))).length ≤ i) (j : Nat) (hj0 : j ≤ ds.length) (z3d : j < ds.length) (yd : Addr) (u : ActK) (hub : u.body.size ≤ 40) (b13 : Nat) {wa wb : World} (H : Hid (Hp [] wa wb [rB b13 87 [.int .i64 u.kind, .int .i64 u.now, .int .i64 u.who, .int .u64 u.key, .string u.body], rB b9 87 [.int .i64 x.kind, .int .i64 x.now, .int .i64 x.who, .int .u64 x.key, .string x.body], rA (some yd) cd 87 5 (ds.map actRow), rB b5 84 (kL (mkC c) (mkR c) (.slice a ps.length cc)), rB b2 24 (cL c), rS a cc 4 (ps.map rowOf), rS (some y) rc 5 (acts.map actRow)])) (ac0 : Act) (hz : ac0.tmps.size = 192) (so9 : ac0.eval (.tmp 9) = .pointer (some ⟨b9, 0, none⟩)) (so13 : ac0.eval (.tmp 13) = .pointer (some ⟨b13, 0, none⟩)) {QR : Exit → Act → World → Prop} (hfin : ∀ (ac1 : Act) (wz : World), ac1.tmps.size = 192 → ac1.defers = ac0.defers → (∀ t, ([69, 70, 71, 72, 73, 74, 75, 76, 77, 78, 79, 80] : List Nat).contains t = false → ac1.eval (.tmp t) = ac0.eval (.tmp t)) → ac1.eval (.tmp 80) = .bool ((u.who != x.who) || (u.key != x.key)) →  Hid (Hp [] wa wz [rB b13 87 [.int .i64 u.kind, .int .i64 u.now, .int .i64 u.who, .int .u64 u.key, .string u.body], rB b9 87 [.int .i64 x.kind, .int .i64 x.now, .int .i64 x.who, .int .u64 x.key, .string x.body], rA (some yd) cd 87 5 (ds.map actRow), rB b5 84 (kL (mkC c) (mkR c) (.slice a ps.length cc)), rB b2 24 (cL c), rS a cc 4 (ps.map rowOf), rS (some y) rc 5 (acts.map actRow)]) → QR .normal ac1 wz) : (regAt Try.f10 18).wp Try.prog QR ac0 wb := by
  refine wp_region_sq (by kernel_rfl) 192 hz (by kernel_rfl) (fun (xx : Unit) jx => nth [.pointer (some ⟨b13, 2, none⟩), .int .i64 u.who, .pointer (some ⟨b9, 2, none⟩), .int .i64 x.who, .bool (u.who != x.who), .bool (u.who != x.who), bif !(u.who != x.who) then .pointer (some ⟨b13, 3, none⟩) else undef, bif !(u.who != x.who) then .int .u64 u.key else undef, bif !(u.who != x.who) then .pointer (some ⟨b9, 3, none⟩) else undef, bif !(u.who != x.who) then .int .u64 x.key else undef, bif !(u.who != x.who) then .bool (u.key != x.key) else undef, .bool ((u.who != x.who) || (u.key != x.key))] jx) (fun (LL : Nat → Bool) (xx : Unit) ww => Hp [] wa ww [rB b13 87 [.int .i64 u.kind, .int .i64 u.now, .int .i64 u.who, .int .u64 u.key, .string u.body], rB b9 87 [.int .i64 x.kind, .int .i64 x.now, .int .i64 x.who, .int .u64 x.key, .string x.body], rA (some yd) cd 87 5 (ds.map actRow), rB b5 84 (kL (mkC c) (mkR c) (.slice a ps.length cc)), rB b2 24 (cL c), rS a cc 4 (ps.map rowOf), rS (some y) rc 5 (acts.map actRow)]) () H.out ?_ (steps_al ?_) ?_ ?_
  · exact fun _ _ _ _ _ h => h
  · refine al_cons ?_ (al_cons ?_ (al_cons ?_ (al_cons ?_ (al_cons ?_ (al_cons ?_ (al_cons ?_ (al_cons ?_ (al_cons ?_ (al_cons ?_ (al_cons ?_ (al_cons ?_ (al_nil))))))))))))
    · intro LL xx ac wc sg hst hwant QQ hgo
      have se13 : ac.eval (.tmp 13) = _ := ((sg.free 13 (by kernel_rfl)).trans so13)
      have sg13 := gt_of se13
      exact op_val hwant hgo hst _ (by simp only [execOp, nth]; go_simp <;> omega) rfl
    · intro LL xx ac wc sg hst hwant QQ hgo
      have H := Lib.hid hst
      refine hpA_load1 tyint H rfl (sg.slot 0 (sg.anc 0 rfl)) hwant (by (repeat (first | exact List.Mem.head _ | apply List.Mem.tail))) (by rfl) ?_
      exact hgo _ () _ (fun _ _ => rfl) rfl hst
    · intro LL xx ac wc sg hst hwant QQ hgo
      have se9 : ac.eval (.tmp 9) = _ := ((sg.free 9 (by kernel_rfl)).trans so9)
      have sg9 := gt_of se9
      exact op_val hwant hgo hst _ (by simp only [execOp, nth]; go_simp <;> omega) rfl
    · intro LL xx ac wc sg hst hwant QQ hgo
      have H := Lib.hid hst
      refine hpA_load1 tyint H rfl (sg.slot 2 (sg.anc 2 rfl)) hwant (by (repeat (first | exact List.Mem.head _ | apply List.Mem.tail))) (by rfl) ?_
      exact hgo _ () _ (fun _ _ => rfl) rfl hst
    · intro LL xx ac wc sg hst hwant QQ hgo
      have se70 : ac.eval (.tmp 70) = _ := (sg.slot 1 (sg.anc 1 rfl))
      have sg70 := gt_of se70
      have se72 : ac.eval (.tmp 72) = _ := (sg.slot 3 (sg.anc 3 rfl))
      have sg72 := gt_of se72
      (try simp only [nth] at se70 sg70 se72 sg72)
      exact op_val hwant hgo hst _ (by simp only [execOp, nth]; go_simp <;> omega) rfl
    · intro LL xx ac wc sg hst hwant QQ hgo
      exact op_val hwant hgo hst _ (exec_move rfl (sg.slot 4 (sg.anc 4 rfl))) rfl
    · intro LL xx ac wc sg hst hwant QQ hgo
      have hG : (!(u.who != x.who)) = true := (want_f rfl rfl (sg.slot 5 (sg.anc 5 rfl))).symm.trans hwant
      have se13 : ac.eval (.tmp 13) = _ := ((sg.free 13 (by kernel_rfl)).trans so13)
      have sg13 := gt_of se13
      exact op_val hwant hgo hst _ (by simp only [execOp, nth]; go_simp <;> omega) (cI hG)
    · intro LL xx ac wc sg hst hwant QQ hgo
      have hG : (!(u.who != x.who)) = true := (want_f rfl rfl (sg.slot 5 (sg.anc 5 rfl))).symm.trans hwant
      have H := Lib.hid hst
      refine hpA_load1 tyuint64 H rfl (cT (sg.slot 6 (sg.anc 6 rfl)) hG) hwant (by (repeat (first | exact List.Mem.head _ | apply List.Mem.tail))) (by rfl) ?_
      exact hgo _ () _ (fun _ _ => rfl) (cI hG) hst
    · intro LL xx ac wc sg hst hwant QQ hgo
      have hG : (!(u.who != x.who)) = true := (want_f rfl rfl (sg.slot 5 (sg.anc 5 rfl))).symm.trans hwant
      have se9 : ac.eval (.tmp 9) = _ := ((sg.free 9 (by kernel_rfl)).trans so9)
      have sg9 := gt_of se9
      exact op_val hwant hgo hst _ (by simp only [execOp, nth]; go_simp <;> omega) (cI hG)
    · intro LL xx ac wc sg hst hwant QQ hgo
      have hG : (!(u.who != x.who)) = true := (want_f rfl rfl (sg.slot 5 (sg.anc 5 rfl))).symm.trans hwant
      have H := Lib.hid hst
      refine hpA_load1 tyuint64 H rfl (cT (sg.slot 8 (sg.anc 8 rfl)) hG) hwant (by (repeat (first | exact List.Mem.head _ | apply List.Mem.tail))) (by rfl) ?_
      exact hgo _ () _ (fun _ _ => rfl) (cI hG) hst
    · intro LL xx ac wc sg hst hwant QQ hgo
      have hG : (!(u.who != x.who)) = true := (want_f rfl rfl (sg.slot 5 (sg.anc 5 rfl))).symm.trans hwant
      have se76 : ac.eval (.tmp 76) = _ := (cT (sg.slot 7 (sg.anc 7 rfl)) hG)
      have sg76 := gt_of se76
      have se78 : ac.eval (.tmp 78) = _ := (cT (sg.slot 9 (sg.anc 9 rfl)) hG)
      have sg78 := gt_of se78
      (try simp only [nth] at se76 sg76 se78 sg78)
      exact op_val hwant hgo hst _ (by simp only [execOp, nth]; go_simp <;> omega) (cI hG)
    · intro LL xx ac wc sg hst hwant QQ hgo
      exact op_val hwant hgo hst (.bool ((u.who != x.who) || (u.key != x.key))) (exec_or (Y := u.key != x.key) rfl (sg.slot 5 (sg.anc 5 rfl)) (fun qq => cT (sg.slot 10 (sg.anc 10 rfl)) (bk qq))) rfl
  · refine skips [6, 7, 8, 9, 10] (by kernel_rfl) ?_
    refine List.forall_mem_cons.2 ⟨?_, List.forall_mem_cons.2 ⟨?_, List.forall_mem_cons.2 ⟨?_, List.forall_mem_cons.2 ⟨?_, List.forall_mem_cons.2 ⟨?_, fun _ h => by cases h⟩⟩⟩⟩⟩
    · intro oo hop LL xx ac sg hwant
      cases Option.some.inj hop
      have hG : (!(u.who != x.who)) = false := (want_f rfl rfl (sg.slot 5 (sg.anc 5 rfl))).symm.trans hwant
      exact ⟨cF hG, fun _ h => h⟩
    · intro oo hop LL xx ac sg hwant
      cases Option.some.inj hop
      have hG : (!(u.who != x.who)) = false := (want_f rfl rfl (sg.slot 5 (sg.anc 5 rfl))).symm.trans hwant
      exact ⟨cF hG, fun _ h => h⟩
    · intro oo hop LL xx ac sg hwant
      cases Option.some.inj hop
      have hG : (!(u.who != x.who)) = false := (want_f rfl rfl (sg.slot 5 (sg.anc 5 rfl))).symm.trans hwant
      exact ⟨cF hG, fun _ h => h⟩
    · intro oo hop LL xx ac sg hwant
      cases Option.some.inj hop
      have hG : (!(u.who != x.who)) = false := (want_f rfl rfl (sg.slot 5 (sg.anc 5 rfl))).symm.trans hwant
      exact ⟨cF hG, fun _ h => h⟩
    · intro oo hop LL xx ac sg hwant
      cases Option.some.inj hop
      have hG : (!(u.who != x.who)) = false := (want_f rfl rfl (sg.slot 5 (sg.anc 5 rfl))).symm.trans hwant
      exact ⟨cF hG, fun _ h => h⟩
  · intro xx ac1 wz hfr hsl hst
    exact hfin ac1 wz (hfr.size.trans hz) hfr.defers (fr_keep hfr [69, 70, 71, 72, 73, 74, 75, 76, 77, 78, 79, 80] (by kernel_rfl)) (hsl 11 (by decide)) (Lib.hid hst)
set_option maxRecDepth 20000 in
theorem once_w_r16 (c : Cfg) (rc : Nat) (acts : List ActK) (b2 : Nat) (b5 : Nat) (i : Nat) (a : Option Addr) (cc : Nat) (ps : List PairV) (now : Int) (cd : Nat) (ds : List ActK) (hi : i ≤ acts.length) (hi2 : i ≤ 80) (hl : ps.length ≤ i) (hd : ds.length ≤ i) (hn0 : 0 ≤ now) (hn1 : now ≤ 3 * i) (z1ld : i < acts.length) (z1rd : (i : Int) < 80) (y : Addr) (x : ActK) (hk0 : 0 ≤ x.key) (hk1 : x.key ≤ 18446744073709551615) (b9 : Nat) (z2d : ¬ (40 < (x.body.size : Int))) (m : Nat) (hm1 : m ≤ 3) (hm : IntKind.i64.wrap ((IntKind.u64.wrap x.now).tmod 4) = (m : Int)) (hm0 : now ≤ now + m) (hxb : x.body.size ≤ 40) (hfl : (ps.filter (keepB (mkC c) (now + m))).length ≤ i) (j : Nat) (hj0 : j ≤ ds.length) (z3d : j < ds.length) (yd : Addr) (u : ActK) (hub : u.body.size ≤ 40) (b13 : Nat) {wa wb : World} (H : Hid (Hp [] wa wb [rB b13 87 [.int .i64 u.kind, .int .i64 u.now, .int .i64 u.who, .int .u64 u.key, .string u.body], rB b9 87 [.int .i64 x.kind, .int .i64 x.now, .int .i64 x.who, .int .u64 x.key, .string x.body], rA (some yd) cd 87 5 (ds.map actRow), rB b5 84 (kL (mkC c) (mkR c) (.slice a ps.length cc)), rB b2 24 (cL c), rS a cc 4 (ps.map rowOf), rS (some y) rc 5 (acts.map actRow)])) (ac0 : Act) (hz : ac0.tmps.size = 192) (so12 : ac0.eval (.tmp 12) = .int .i64 j) {QR : Exit → Act → World → Prop} (hfin : ∀ (ac1 : Act) (wz : World), ac1.tmps.size = 192 → ac1.defers = ac0.defers → (∀ t, ([12, 63, 64] : List Nat).contains t = false → ac1.eval (.tmp t) = ac0.eval (.tmp t)) → ac1.eval (.tmp 12) = .int .i64 (j + 1) →  Hid (Hp [] wa wz [rB b13 87 [.int .i64 u.kind, .int .i64 u.now, .int .i64 u.who, .int .u64 u.key, .string u.body], rB b9 87 [.int .i64 x.kind, .int .i64 x.now, .int .i64 x.who, .int .u64 x.key, .string x.body], rA (some yd) cd 87 5 (ds.map actRow), rB b5 84 (kL (mkC c) (mkR c) (.slice a ps.length cc)), rB b2 24 (cL c), rS a cc 4 (ps.map rowOf), rS (some y) rc 5 (acts.map actRow)]) → QR .normal ac1 wz) : (regAt Try.f10 16).wp Try.prog QR ac0 wb := by
  refine wp_region_sq (by kernel_rfl) 192 hz (by kernel_rfl) (fun (xx : Unit) jx => nth [.int .i64 j, .int .i64 (j + 1), .int .i64 (j + 1)] jx) (fun (LL : Nat → Bool) (xx : Unit) ww => Hp [] wa ww [rB b13 87 [.int .i64 u.kind, .int .i64 u.now, .int .i64 u.who, .int .u64 u.key, .string u.body], rB b9 87 [.int .i64 x.kind, .int .i64 x.now, .int .i64 x.who, .int .u64 x.key, .string x.body], rA (some yd) cd 87 5 (ds.map actRow), rB b5 84 (kL (mkC c) (mkR c) (.slice a ps.length cc)), rB b2 24 (cL c), rS a cc 4 (ps.map rowOf), rS (some y) rc 5 (acts.map actRow)]) () H.out ?_ (steps_al ?_) ?_ ?_
  · exact fun _ _ _ _ _ h => h
  · refine al_cons ?_ (al_cons ?_ (al_cons ?_ (al_nil)))
    · intro LL xx ac wc sg hst hwant QQ hgo
      exact op_val hwant hgo hst _ (exec_move rfl ((sg.yet 12 2 (sg.des 2 rfl) (by kernel_rfl)).trans so12)) rfl
    · intro LL xx ac wc sg hst hwant QQ hgo
      have se63 : ac.eval (.tmp 63) = _ := (sg.slot 0 (sg.anc 0 rfl))
      have sg63 := gt_of se63
      (try simp only [nth] at se63 sg63)
      have hnw : IntKind.i64.wrap (j + 1 : Int) = j + 1 := IntWalk.i64_in _ (by omega)
      exact op_val hwant hgo hst _ (by simp only [execOp, nth]; go_simp <;> omega) rfl
    · intro LL xx ac wc sg hst hwant QQ hgo
      exact op_val hwant hgo hst _ (exec_assign rfl (sg.slot 1 (sg.anc 1 rfl))) rfl
  · exact skips [] (by kernel_rfl) (fun _ h => by cases h)
  · intro xx ac1 wz hfr hsl hst
    exact hfin ac1 wz (hfr.size.trans hz) hfr.defers (fr_keep hfr [12, 63, 64] (by kernel_rfl)) (hsl 2 (by decide)) (Lib.hid hst)
set_option maxRecDepth 20000 in
theorem once_w_r19 (c : Cfg) (rc : Nat) (acts : List ActK) (b2 : Nat) (b5 : Nat) (i : Nat) (a : Option Addr) (cc : Nat) (ps : List PairV) (now : Int) (cd : Nat) (ds : List ActK) (hi : i ≤ acts.length) (hi2 : i ≤ 80) (hl : ps.length ≤ i) (hd : ds.length ≤ i) (hn0 : 0 ≤ now) (hn1 : now ≤ 3 * i) (z1ld : i < acts.length) (z1rd : (i : Int) < 80) (y : Addr) (x : ActK) (hk0 : 0 ≤ x.key) (hk1 : x.key ≤ 18446744073709551615) (b9 : Nat) (z2d : ¬ (40 < (x.body.size : Int))) (m : Nat) (hm1 : m ≤ 3) (hm : IntKind.i64.wrap ((IntKind.u64.wrap x.now).tmod 4) = (m : Int)) (hm0 : now ≤ now + m) (hxb : x.body.size ≤ 40) (hfl : (ps.filter (keepB (mkC c) (now + m))).length ≤ i) (j : Nat) (hj0 : j ≤ ds.length) (z3d : j < ds.length) (yd : Addr) (u : ActK) (hub : u.body.size ≤ 40) (b13 : Nat) {wa wb : World} (H : Hid (Hp [] wa wb [rB b13 87 [.int .i64 u.kind, .int .i64 u.now, .int .i64 u.who, .int .u64 u.key, .string u.body], rB b9 87 [.int .i64 x.kind, .int .i64 x.now, .int .i64 x.who, .int .u64 x.key, .string x.body], rA (some yd) cd 87 5 (ds.map actRow), rB b5 84 (kL (mkC c) (mkR c) (.slice a ps.length cc)), rB b2 24 (cL c), rS a cc 4 (ps.map rowOf), rS (some y) rc 5 (acts.map actRow)])) (ac0 : Act) (hz : ac0.tmps.size = 192) (so2 : ac0.eval (.tmp 2) = .pointer (some ⟨b2, 0, none⟩)) (so6 : ac0.eval (.tmp 6) = .int .i64 (now + m)) (so9 : ac0.eval (.tmp 9) = .pointer (some ⟨b9, 0, none⟩)) {QR : Exit → Act → World → Prop} (hfin : ∀ (ac1 : Act) (wz : World), ac1.tmps.size = 192 → ac1.defers = ac0.defers → (∀ t, ([14, 81, 82, 83, 84, 85] : List Nat).contains t = false → ac1.eval (.tmp t) = ac0.eval (.tmp t)) → ac1.eval (.tmp 14) = .bool (isGoodV c x.key (now + m)) →  Hid (Hp [] wa wz [rB b13 87 [.int .i64 u.kind, .int .i64 u.now, .int .i64 u.who, .int .u64 u.key, .string u.body], rB b9 87 [.int .i64 x.kind, .int .i64 x.now, .int .i64 x.who, .int .u64 x.key, .string x.body], rA (some yd) cd 87 5 (ds.map actRow), rB b5 84 (kL (mkC c) (mkR c) (.slice a ps.length cc)), rB b2 24 (cL c), rS a cc 4 (ps.map rowOf), rS (some y) rc 5 (acts.map actRow)]) → QR .normal ac1 wz) : (regAt Try.f10 19).wp Try.prog QR ac0 wb := by
  refine wp_region_sq (by kernel_rfl) 192 hz (by kernel_rfl) (fun (xx : Unit) jx => nth [.agg (cA c), .pointer (some ⟨b9, 3, none⟩), .int .u64 x.key, .int .i64 (now + m), .bool (isGoodV c x.key (now + m)), .bool (isGoodV c x.key (now + m))] jx) (fun (LL : Nat → Bool) (xx : Unit) ww => Hp [] wa ww [rB b13 87 [.int .i64 u.kind, .int .i64 u.now, .int .i64 u.who, .int .u64 u.key, .string u.body], rB b9 87 [.int .i64 x.kind, .int .i64 x.now, .int .i64 x.who, .int .u64 x.key, .string x.body], rA (some yd) cd 87 5 (ds.map actRow), rB b5 84 (kL (mkC c) (mkR c) (.slice a ps.length cc)), rB b2 24 (cL c), rS a cc 4 (ps.map rowOf), rS (some y) rc 5 (acts.map actRow)]) () H.out ?_ (steps_al ?_) ?_ ?_
  · exact fun _ _ _ _ _ h => h
  · refine al_cons ?_ (al_cons ?_ (al_cons ?_ (al_cons ?_ (al_cons ?_ (al_cons ?_ (al_nil))))))
    · intro LL xx ac wc sg hst hwant QQ hgo
      have H := Lib.hid hst
      refine hpA_load tyapi_Config H rfl ((sg.free 2 (by kernel_rfl)).trans so2) hwant (by (repeat (first | exact List.Mem.head _ | apply List.Mem.tail))) (by rfl) rfl ?_
      exact hgo _ () _ (fun _ _ => rfl) rfl hst
    · intro LL xx ac wc sg hst hwant QQ hgo
      have se9 : ac.eval (.tmp 9) = _ := ((sg.free 9 (by kernel_rfl)).trans so9)
      have sg9 := gt_of se9
      exact op_val hwant hgo hst _ (by simp only [execOp, nth]; go_simp <;> omega) rfl
    · intro LL xx ac wc sg hst hwant QQ hgo
      have H := Lib.hid hst
      refine hpA_load1 tyuint64 H rfl (sg.slot 1 (sg.anc 1 rfl)) hwant (by (repeat (first | exact List.Mem.head _ | apply List.Mem.tail))) (by rfl) ?_
      exact hgo _ () _ (fun _ _ => rfl) rfl hst
    · intro LL xx ac wc sg hst hwant QQ hgo
      exact op_val hwant hgo hst _ (exec_move rfl ((sg.free 6 (by kernel_rfl)).trans so6)) rfl
    · intro LL xx ac wc sg hst hwant QQ hgo
      have se81 : ac.eval (.tmp 81) = _ := (sg.slot 0 (sg.anc 0 rfl))
      have sg81 := gt_of se81
      have se83 : ac.eval (.tmp 83) = _ := (sg.slot 2 (sg.anc 2 rfl))
      have sg83 := gt_of se83
      have se84 : ac.eval (.tmp 84) = _ := (sg.slot 3 (sg.anc 3 rfl))
      have sg84 := gt_of se84
      (try simp only [nth] at se81 sg81 se83 sg83 se84 sg84)
      refine op_call hwant hgo 49 _ (by simp only [execOp]; go_simp) (isGoodC c x.key (now + m) wc hk0 hk1) ?_
      rintro er wd ⟨rfl, hof⟩
      exact ⟨_, (), rfl, fun _ _ => rfl, rfl, Hp.quiet hst hof⟩
    · intro LL xx ac wc sg hst hwant QQ hgo
      exact op_val hwant hgo hst _ (exec_assign rfl (sg.slot 4 (sg.anc 4 rfl))) rfl
  · exact skips [] (by kernel_rfl) (fun _ h => by cases h)
  · intro xx ac1 wz hfr hsl hst
    exact hfin ac1 wz (hfr.size.trans hz) hfr.defers (fr_keep hfr [14, 81, 82, 83, 84, 85] (by kernel_rfl)) (hsl 5 (by decide)) (Lib.hid hst)
set_option maxRecDepth 20000 in
theorem once_w_r20 (c : Cfg) (rc : Nat) (acts : List ActK) (b2 : Nat) (b5 : Nat) (i : Nat) (a : Option Addr) (cc : Nat) (ps : List PairV) (now : Int) (cd : Nat) (ds : List ActK) (hi : i ≤ acts.length) (hi2 : i ≤ 80) (hl : ps.length ≤ i) (hd : ds.length ≤ i) (hn0 : 0 ≤ now) (hn1 : now ≤ 3 * i) (z1ld : i < acts.length) (z1rd : (i : Int) < 80) (y : Addr) (x : ActK) (hk0 : 0 ≤ x.key) (hk1 : x.key ≤ 18446744073709551615) (b9 : Nat) (z2d : ¬ (40 < (x.body.size : Int))) (m : Nat) (hm1 : m ≤ 3) (hm : IntKind.i64.wrap ((IntKind.u64.wrap x.now).tmod 4) = (m : Int)) (hm0 : now ≤ now + m) (hxb : x.body.size ≤ 40) (hfl : (ps.filter (keepB (mkC c) (now + m))).length ≤ i) (j : Nat) (hj0 : j ≤ ds.length) (z3d : j < ds.length) (yd : Addr) (u : ActK) (hub : u.body.size ≤ 40) (b13 : Nat) {wa wb : World} (H : Hid (Hp [] wa wb [rB b13 87 [.int .i64 u.kind, .int .i64 u.now, .int .i64 u.who, .int .u64 u.key, .string u.body], rB b9 87 [.int .i64 x.kind, .int .i64 x.now, .int .i64 x.who, .int .u64 x.key, .string x.body], rA (some yd) cd 87 5 (ds.map actRow), rB b5 84 (kL (mkC c) (mkR c) (.slice a ps.length cc)), rB b2 24 (cL c), rS a cc 4 (ps.map rowOf), rS (some y) rc 5 (acts.map actRow)])) (ac0 : Act) (hz : ac0.tmps.size = 192) (so9 : ac0.eval (.tmp 9) = .pointer (some ⟨b9, 0, none⟩)) (so10 : ac0.eval (.tmp 10) = .string ((lookV (mkC c) ps (now + m) x.who x.key x.body).1)) (so11 : ac0.eval (.tmp 11) = .int .i64 ((lookV (mkC c) ps (now + m) x.who x.key x.body).2)) (so13 : ac0.eval (.tmp 13) = .pointer (some ⟨b13, 0, none⟩)) (so14 : ac0.eval (.tmp 14) = .bool (isGoodV c x.key (now + m))) {QR : Exit → Act → World → Prop} (hfin : ∀ (ac1 : Act) (wz : World), ac1.tmps.size = 192 → ac1.defers = ac0.defers → (∀ t, ([86, 87, 88, 89, 90, 91, 92, 93, 94, 95, 96, 97, 98, 99, 100, 101, 102, 103, 104, 105, 106, 107, 108, 109, 110, 111, 112, 113, 114, 115, 116, 117, 118, 119, 120, 121, 122, 123, 124, 125, 126, 127, 128, 129, 130, 131, 132, 133, 134] : List Nat).contains t = false → ac1.eval (.tmp t) = ac0.eval (.tmp t)) → ac1.eval (.tmp 134) = .bool (((((((lookV (mkC c) ps (now + m) x.who x.key x.body).2) == 1) || (((lookV (mkC c) ps (now + m) x.who x.key x.body).2) == 5)) || (((isGoodV c x.key (now + m)) && (u.body.toList == x.body.toList)) && ((((lookV (mkC c) ps (now + m) x.who x.key x.body).2) != 2) || (!(((lookV (mkC c) ps (now + m) x.who x.key x.body).1).toList == (u.body ++ (⟨#[33]⟩ : ByteArray)).toList))))) || (((isGoodV c x.key (now + m)) && (!(u.body.toList == x.body.toList))) && (((lookV (mkC c) ps (now + m) x.who x.key x.body).2) != 3))) || ((!(isGoodV c x.key (now + m))) && (((lookV (mkC c) ps (now + m) x.who x.key x.body).2) != 4))) →  Hid (Hp [] wa wz [rB b13 87 [.int .i64 u.kind, .int .i64 u.now, .int .i64 u.who, .int .u64 u.key, .string u.body], rB b9 87 [.int .i64 x.kind, .int .i64 x.now, .int .i64 x.who, .int .u64 x.key, .string x.body], rA (some yd) cd 87 5 (ds.map actRow), rB b5 84 (kL (mkC c) (mkR c) (.slice a ps.length cc)), rB b2 24 (cL c), rS a cc 4 (ps.map rowOf), rS (some y) rc 5 (acts.map actRow)]) → QR .normal ac1 wz) : (regAt Try.f10 20).wp Try.prog QR ac0 wb := by
  refine wp_region_sq (by kernel_rfl) 192 hz (by kernel_rfl) (fun (xx : Unit) jx => nth [.int .i64 ((lookV (mkC c) ps (now + m) x.who x.key x.body).2), .bool (((lookV (mkC c) ps (now + m) x.who x.key x.body).2) == 1), .bool (((lookV (mkC c) ps (now + m) x.who x.key x.body).2) == 1), bif !(((lookV (mkC c) ps (now + m) x.who x.key x.body).2) == 1) then .int .i64 ((lookV (mkC c) ps (now + m) x.who x.key x.body).2) else undef, bif !(((lookV (mkC c) ps (now + m) x.who x.key x.body).2) == 1) then .bool (((lookV (mkC c) ps (now + m) x.who x.key x.body).2) == 5) else undef, .bool ((((lookV (mkC c) ps (now + m) x.who x.key x.body).2) == 1) || (((lookV (mkC c) ps (now + m) x.who x.key x.body).2) == 5)), .bool ((((lookV (mkC c) ps (now + m) x.who x.key x.body).2) == 1) || (((lookV (mkC c) ps (now + m) x.who x.key x.body).2) == 5)), bif !((((lookV (mkC c) ps (now + m) x.who x.key x.body).2) == 1) || (((lookV (mkC c) ps (now + m) x.who x.key x.body).2) == 5)) then .bool (isGoodV c x.key (now + m)) else undef, bif !((((lookV (mkC c) ps (now + m) x.who x.key x.body).2) == 1) || (((lookV (mkC c) ps (now + m) x.who x.key x.body).2) == 5)) then .bool (isGoodV c x.key (now + m)) else undef, bif (!((((lookV (mkC c) ps (now + m) x.who x.key x.body).2) == 1) || (((lookV (mkC c) ps (now + m) x.who x.key x.body).2) == 5)) && (isGoodV c x.key (now + m))) then .pointer (some ⟨b13, 4, none⟩) else undef, bif (!((((lookV (mkC c) ps (now + m) x.who x.key x.body).2) == 1) || (((lookV (mkC c) ps (now + m) x.who x.key x.body).2) == 5)) && (isGoodV c x.key (now + m))) then .string u.body else undef, bif (!((((lookV (mkC c) ps (now + m) x.who x.key x.body).2) == 1) || (((lookV (mkC c) ps (now + m) x.who x.key x.body).2) == 5)) && (isGoodV c x.key (now + m))) then .pointer (some ⟨b9, 4, none⟩) else undef, bif (!((((lookV (mkC c) ps (now + m) x.who x.key x.body).2) == 1) || (((lookV (mkC c) ps (now + m) x.who x.key x.body).2) == 5)) && (isGoodV c x.key (now + m))) then .string x.body else undef, bif (!((((lookV (mkC c) ps (now + m) x.who x.key x.body).2) == 1) || (((lookV (mkC c) ps (now + m) x.who x.key x.body).2) == 5)) && (isGoodV c x.key (now + m))) then .bool (u.body.toList == x.body.toList) else undef, bif !((((lookV (mkC c) ps (now + m) x.who x.key x.body).2) == 1) || (((lookV (mkC c) ps (now + m) x.who x.key x.body).2) == 5)) then .bool ((isGoodV c x.key (now + m)) && (u.body.toList == x.body.toList)) else undef, bif !((((lookV (mkC c) ps (now + m) x.who x.key x.body).2) == 1) || (((lookV (mkC c) ps (now + m) x.who x.key x.body).2) == 5)) then .bool ((isGoodV c x.key (now + m)) && (u.body.toList == x.body.toList)) else undef, bif (!((((lookV (mkC c) ps (now + m) x.who x.key x.body).2) == 1) || (((lookV (mkC c) ps (now + m) x.who x.key x.body).2) == 5)) && ((isGoodV c x.key (now + m)) && (u.body.toList == x.body.toList))) then .int .i64 ((lookV (mkC c) ps (now + m) x.who x.key x.body).2) else undef, bif (!((((lookV (mkC c) ps (now + m) x.who x.key x.body).2) == 1) || (((lookV (mkC c) ps (now + m) x.who x.key x.body).2) == 5)) && ((isGoodV c x.key (now + m)) && (u.body.toList == x.body.toList))) then .bool (((lookV (mkC c) ps (now + m) x.who x.key x.body).2) != 2) else undef, bif (!((((lookV (mkC c) ps (now + m) x.who x.key x.body).2) == 1) || (((lookV (mkC c) ps (now + m) x.who x.key x.body).2) == 5)) && ((isGoodV c x.key (now + m)) && (u.body.toList == x.body.toList))) then .bool (((lookV (mkC c) ps (now + m) x.who x.key x.body).2) != 2) else undef, bif ((!((((lookV (mkC c) ps (now + m) x.who x.key x.body).2) == 1) || (((lookV (mkC c) ps (now + m) x.who x.key x.body).2) == 5)) && ((isGoodV c x.key (now + m)) && (u.body.toList == x.body.toList))) && !(((lookV (mkC c) ps (now + m) x.who x.key x.body).2) != 2)) then .string ((lookV (mkC c) ps (now + m) x.who x.key x.body).1) else undef, bif ((!((((lookV (mkC c) ps (now + m) x.who x.key x.body).2) == 1) || (((lookV (mkC c) ps (now + m) x.who x.key x.body).2) == 5)) && ((isGoodV c x.key (now + m)) && (u.body.toList == x.body.toList))) && !(((lookV (mkC c) ps (now + m) x.who x.key x.body).2) != 2)) then .pointer (some ⟨b13, 4, none⟩) else undef, bif ((!((((lookV (mkC c) ps (now + m) x.who x.key x.body).2) == 1) || (((lookV (mkC c) ps (now + m) x.who x.key x.body).2) == 5)) && ((isGoodV c x.key (now + m)) && (u.body.toList == x.body.toList))) && !(((lookV (mkC c) ps (now + m) x.who x.key x.body).2) != 2)) then .string u.body else undef, bif ((!((((lookV (mkC c) ps (now + m) x.who x.key x.body).2) == 1) || (((lookV (mkC c) ps (now + m) x.who x.key x.body).2) == 5)) && ((isGoodV c x.key (now + m)) && (u.body.toList == x.body.toList))) && !(((lookV (mkC c) ps (now + m) x.who x.key x.body).2) != 2)) then .string (u.body ++ (⟨#[33]⟩ : ByteArray)) else undef, bif ((!((((lookV (mkC c) ps (now + m) x.who x.key x.body).2) == 1) || (((lookV (mkC c) ps (now + m) x.who x.key x.body).2) == 5)) && ((isGoodV c x.key (now + m)) && (u.body.toList == x.body.toList))) && !(((lookV (mkC c) ps (now + m) x.who x.key x.body).2) != 2)) then .bool (!(((lookV (mkC c) ps (now + m) x.who x.key x.body).1).toList == (u.body ++ (⟨#[33]⟩ : ByteArray)).toList)) else undef, bif (!((((lookV (mkC c) ps (now + m) x.who x.key x.body).2) == 1) || (((lookV (mkC c) ps (now + m) x.who x.key x.body).2) == 5)) && ((isGoodV c x.key (now + m)) && (u.body.toList == x.body.toList))) then .bool ((((lookV (mkC c) ps (now + m) x.who x.key x.body).2) != 2) || (!(((lookV (mkC c) ps (now + m) x.who x.key x.body).1).toList == (u.body ++ (⟨#[33]⟩ : ByteArray)).toList))) else undef, bif !((((lookV (mkC c) ps (now + m) x.who x.key x.body).2) == 1) || (((lookV (mkC c) ps (now + m) x.who x.key x.body).2) == 5)) then .bool (((isGoodV c x.key (now + m)) && (u.body.toList == x.body.toList)) && ((((lookV (mkC c) ps (now + m) x.who x.key x.body).2) != 2) || (!(((lookV (mkC c) ps (now + m) x.who x.key x.body).1).toList == (u.body ++ (⟨#[33]⟩ : ByteArray)).toList)))) else undef, .bool (((((lookV (mkC c) ps (now + m) x.who x.key x.body).2) == 1) || (((lookV (mkC c) ps (now + m) x.who x.key x.body).2) == 5)) || (((isGoodV c x.key (now + m)) && (u.body.toList == x.body.toList)) && ((((lookV (mkC c) ps (now + m) x.who x.key x.body).2) != 2) || (!(((lookV (mkC c) ps (now + m) x.who x.key x.body).1).toList == (u.body ++ (⟨#[33]⟩ : ByteArray)).toList))))), .bool (((((lookV (mkC c) ps (now + m) x.who x.key x.body).2) == 1) || (((lookV (mkC c) ps (now + m) x.who x.key x.body).2) == 5)) || (((isGoodV c x.key (now + m)) && (u.body.toList == x.body.toList)) && ((((lookV (mkC c) ps (now + m) x.who x.key x.body).2) != 2) || (!(((lookV (mkC c) ps (now + m) x.who x.key x.body).1).toList == (u.body ++ (⟨#[33]⟩ : ByteArray)).toList))))), bif !(((((lookV (mkC c) ps (now + m) x.who x.key x.body).2) == 1) || (((lookV (mkC c) ps (now + m) x.who x.key x.body).2) == 5)) || (((isGoodV c x.key (now + m)) && (u.body.toList == x.body.toList)) && ((((lookV (mkC c) ps (now + m) x.who x.key x.body).2) != 2) || (!(((lookV (mkC c) ps (now + m) x.who x.key x.body).1).toList == (u.body ++ (⟨#[33]⟩ : ByteArray)).toList))))) then .bool (isGoodV c x.key (now + m)) else undef, bif !(((((lookV (mkC c) ps (now + m) x.who x.key x.body).2) == 1) || (((lookV (mkC c) ps (now + m) x.who x.key x.body).2) == 5)) || (((isGoodV c x.key (now + m)) && (u.body.toList == x.body.toList)) && ((((lookV (mkC c) ps (now + m) x.who x.key x.body).2) != 2) || (!(((lookV (mkC c) ps (now + m) x.who x.key x.body).1).toList == (u.body ++ (⟨#[33]⟩ : ByteArray)).toList))))) then .bool (isGoodV c x.key (now + m)) else undef, bif (!(((((lookV (mkC c) ps (now + m) x.who x.key x.body).2) == 1) || (((lookV (mkC c) ps (now + m) x.who x.key x.body).2) == 5)) || (((isGoodV c x.key (now + m)) && (u.body.toList == x.body.toList)) && ((((lookV (mkC c) ps (now + m) x.who x.key x.body).2) != 2) || (!(((lookV (mkC c) ps (now + m) x.who x.key x.body).1).toList == (u.body ++ (⟨#[33]⟩ : ByteArray)).toList))))) && (isGoodV c x.key (now + m))) then .pointer (some ⟨b13, 4, none⟩) else undef, bif (!(((((lookV (mkC c) ps (now + m) x.who x.key x.body).2) == 1) || (((lookV (mkC c) ps (now + m) x.who x.key x.body).2) == 5)) || (((isGoodV c x.key (now + m)) && (u.body.toList == x.body.toList)) && ((((lookV (mkC c) ps (now + m) x.who x.key x.body).2) != 2) || (!(((lookV (mkC c) ps (now + m) x.who x.key x.body).1).toList == (u.body ++ (⟨#[33]⟩ : ByteArray)).toList))))) && (isGoodV c x.key (now + m))) then .string u.body else undef, bif (!(((((lookV (mkC c) ps (now + m) x.who x.key x.body).2) == 1) || (((lookV (mkC c) ps (now + m) x.who x.key x.body).2) == 5)) || (((isGoodV c x.key (now + m)) && (u.body.toList == x.body.toList)) && ((((lookV (mkC c) ps (now + m) x.who x.key x.body).2) != 2) || (!(((lookV (mkC c) ps (now + m) x.who x.key x.body).1).toList == (u.body ++ (⟨#[33]⟩ : ByteArray)).toList))))) && (isGoodV c x.key (now + m))) then .pointer (some ⟨b9, 4, none⟩) else undef, bif (!(((((lookV (mkC c) ps (now + m) x.who x.key x.body).2) == 1) || (((lookV (mkC c) ps (now + m) x.who x.key x.body).2) == 5)) || (((isGoodV c x.key (now + m)) && (u.body.toList == x.body.toList)) && ((((lookV (mkC c) ps (now + m) x.who x.key x.body).2) != 2) || (!(((lookV (mkC c) ps (now + m) x.who x.key x.body).1).toList == (u.body ++ (⟨#[33]⟩ : ByteArray)).toList))))) && (isGoodV c x.key (now + m))) then .string x.body else undef, bif (!(((((lookV (mkC c) ps (now + m) x.who x.key x.body).2) == 1) || (((lookV (mkC c) ps (now + m) x.who x.key x.body).2) == 5)) || (((isGoodV c x.key (now + m)) && (u.body.toList == x.body.toList)) && ((((lookV (mkC c) ps (now + m) x.who x.key x.body).2) != 2) || (!(((lookV (mkC c) ps (now + m) x.who x.key x.body).1).toList == (u.body ++ (⟨#[33]⟩ : ByteArray)).toList))))) && (isGoodV c x.key (now + m))) then .bool (!(u.body.toList == x.body.toList)) else undef, bif !(((((lookV (mkC c) ps (now + m) x.who x.key x.body).2) == 1) || (((lookV (mkC c) ps (now + m) x.who x.key x.body).2) == 5)) || (((isGoodV c x.key (now + m)) && (u.body.toList == x.body.toList)) && ((((lookV (mkC c) ps (now + m) x.who x.key x.body).2) != 2) || (!(((lookV (mkC c) ps (now + m) x.who x.key x.body).1).toList == (u.body ++ (⟨#[33]⟩ : ByteArray)).toList))))) then .bool ((isGoodV c x.key (now + m)) && (!(u.body.toList == x.body.toList))) else undef, bif !(((((lookV (mkC c) ps (now + m) x.who x.key x.body).2) == 1) || (((lookV (mkC c) ps (now + m) x.who x.key x.body).2) == 5)) || (((isGoodV c x.key (now + m)) && (u.body.toList == x.body.toList)) && ((((lookV (mkC c) ps (now + m) x.who x.key x.body).2) != 2) || (!(((lookV (mkC c) ps (now + m) x.who x.key x.body).1).toList == (u.body ++ (⟨#[33]⟩ : ByteArray)).toList))))) then .bool ((isGoodV c x.key (now + m)) && (!(u.body.toList == x.body.toList))) else undef, bif (!(((((lookV (mkC c) ps (now + m) x.who x.key x.body).2) == 1) || (((lookV (mkC c) ps (now + m) x.who x.key x.body).2) == 5)) || (((isGoodV c x.key (now + m)) && (u.body.toList == x.body.toList)) && ((((lookV (mkC c) ps (now + m) x.who x.key x.body).2) != 2) || (!(((lookV (mkC c) ps (now + m) x.who x.key x.body).1).toList == (u.body ++ (⟨#[33]⟩ : ByteArray)).toList))))) && ((isGoodV c x.key (now + m)) && (!(u.body.toList == x.body.toList)))) then .int .i64 ((lookV (mkC c) ps (now + m) x.who x.key x.body).2) else undef, bif (!(((((lookV (mkC c) ps (now + m) x.who x.key x.body).2) == 1) || (((lookV (mkC c) ps (now + m) x.who x.key x.body).2) == 5)) || (((isGoodV c x.key (now + m)) && (u.body.toList == x.body.toList)) && ((((lookV (mkC c) ps (now + m) x.who x.key x.body).2) != 2) || (!(((lookV (mkC c) ps (now + m) x.who x.key x.body).1).toList == (u.body ++ (⟨#[33]⟩ : ByteArray)).toList))))) && ((isGoodV c x.key (now + m)) && (!(u.body.toList == x.body.toList)))) then .bool (((lookV (mkC c) ps (now + m) x.who x.key x.body).2) != 3) else undef, bif !(((((lookV (mkC c) ps (now + m) x.who x.key x.body).2) == 1) || (((lookV (mkC c) ps (now + m) x.who x.key x.body).2) == 5)) || (((isGoodV c x.key (now + m)) && (u.body.toList == x.body.toList)) && ((((lookV (mkC c) ps (now + m) x.who x.key x.body).2) != 2) || (!(((lookV (mkC c) ps (now + m) x.who x.key x.body).1).toList == (u.body ++ (⟨#[33]⟩ : ByteArray)).toList))))) then .bool (((isGoodV c x.key (now + m)) && (!(u.body.toList == x.body.toList))) && (((lookV (mkC c) ps (now + m) x.who x.key x.body).2) != 3)) else undef, .bool ((((((lookV (mkC c) ps (now + m) x.who x.key x.body).2) == 1) || (((lookV (mkC c) ps (now + m) x.who x.key x.body).2) == 5)) || (((isGoodV c x.key (now + m)) && (u.body.toList == x.body.toList)) && ((((lookV (mkC c) ps (now + m) x.who x.key x.body).2) != 2) || (!(((lookV (mkC c) ps (now + m) x.who x.key x.body).1).toList == (u.body ++ (⟨#[33]⟩ : ByteArray)).toList))))) || (((isGoodV c x.key (now + m)) && (!(u.body.toList == x.body.toList))) && (((lookV (mkC c) ps (now + m) x.who x.key x.body).2) != 3))), .bool ((((((lookV (mkC c) ps (now + m) x.who x.key x.body).2) == 1) || (((lookV (mkC c) ps (now + m) x.who x.key x.body).2) == 5)) || (((isGoodV c x.key (now + m)) && (u.body.toList == x.body.toList)) && ((((lookV (mkC c) ps (now + m) x.who x.key x.body).2) != 2) || (!(((lookV (mkC c) ps (now + m) x.who x.key x.body).1).toList == (u.body ++ (⟨#[33]⟩ : ByteArray)).toList))))) || (((isGoodV c x.key (now + m)) && (!(u.body.toList == x.body.toList))) && (((lookV (mkC c) ps (now + m) x.who x.key x.body).2) != 3))), bif !((((((lookV (mkC c) ps (now + m) x.who x.key x.body).2) == 1) || (((lookV (mkC c) ps (now + m) x.who x.key x.body).2) == 5)) || (((isGoodV c x.key (now + m)) && (u.body.toList == x.body.toList)) && ((((lookV (mkC c) ps (now + m) x.who x.key x.body).2) != 2) || (!(((lookV (mkC c) ps (now + m) x.who x.key x.body).1).toList == (u.body ++ (⟨#[33]⟩ : ByteArray)).toList))))) || (((isGoodV c x.key (now + m)) && (!(u.body.toList == x.body.toList))) && (((lookV (mkC c) ps (now + m) x.who x.key x.body).2) != 3))) then .bool (isGoodV c x.key (now + m)) else undef, bif !((((((lookV (mkC c) ps (now + m) x.who x.key x.body).2) == 1) || (((lookV (mkC c) ps (now + m) x.who x.key x.body).2) == 5)) || (((isGoodV c x.key (now + m)) && (u.body.toList == x.body.toList)) && ((((lookV (mkC c) ps (now + m) x.who x.key x.body).2) != 2) || (!(((lookV (mkC c) ps (now + m) x.who x.key x.body).1).toList == (u.body ++ (⟨#[33]⟩ : ByteArray)).toList))))) || (((isGoodV c x.key (now + m)) && (!(u.body.toList == x.body.toList))) && (((lookV (mkC c) ps (now + m) x.who x.key x.body).2) != 3))) then .bool (!(isGoodV c x.key (now + m))) else undef, bif !((((((lookV (mkC c) ps (now + m) x.who x.key x.body).2) == 1) || (((lookV (mkC c) ps (now + m) x.who x.key x.body).2) == 5)) || (((isGoodV c x.key (now + m)) && (u.body.toList == x.body.toList)) && ((((lookV (mkC c) ps (now + m) x.who x.key x.body).2) != 2) || (!(((lookV (mkC c) ps (now + m) x.who x.key x.body).1).toList == (u.body ++ (⟨#[33]⟩ : ByteArray)).toList))))) || (((isGoodV c x.key (now + m)) && (!(u.body.toList == x.body.toList))) && (((lookV (mkC c) ps (now + m) x.who x.key x.body).2) != 3))) then .bool (!(isGoodV c x.key (now + m))) else undef, bif (!((((((lookV (mkC c) ps (now + m) x.who x.key x.body).2) == 1) || (((lookV (mkC c) ps (now + m) x.who x.key x.body).2) == 5)) || (((isGoodV c x.key (now + m)) && (u.body.toList == x.body.toList)) && ((((lookV (mkC c) ps (now + m) x.who x.key x.body).2) != 2) || (!(((lookV (mkC c) ps (now + m) x.who x.key x.body).1).toList == (u.body ++ (⟨#[33]⟩ : ByteArray)).toList))))) || (((isGoodV c x.key (now + m)) && (!(u.body.toList == x.body.toList))) && (((lookV (mkC c) ps (now + m) x.who x.key x.body).2) != 3))) && (!(isGoodV c x.key (now + m)))) then .int .i64 ((lookV (mkC c) ps (now + m) x.who x.key x.body).2) else undef, bif (!((((((lookV (mkC c) ps (now + m) x.who x.key x.body).2) == 1) || (((lookV (mkC c) ps (now + m) x.who x.key x.body).2) == 5)) || (((isGoodV c x.key (now + m)) && (u.body.toList == x.body.toList)) && ((((lookV (mkC c) ps (now + m) x.who x.key x.body).2) != 2) || (!(((lookV (mkC c) ps (now + m) x.who x.key x.body).1).toList == (u.body ++ (⟨#[33]⟩ : ByteArray)).toList))))) || (((isGoodV c x.key (now + m)) && (!(u.body.toList == x.body.toList))) && (((lookV (mkC c) ps (now + m) x.who x.key x.body).2) != 3))) && (!(isGoodV c x.key (now + m)))) then .bool (((lookV (mkC c) ps (now + m) x.who x.key x.body).2) != 4) else undef, bif !((((((lookV (mkC c) ps (now + m) x.who x.key x.body).2) == 1) || (((lookV (mkC c) ps (now + m) x.who x.key x.body).2) == 5)) || (((isGoodV c x.key (now + m)) && (u.body.toList == x.body.toList)) && ((((lookV (mkC c) ps (now + m) x.who x.key x.body).2) != 2) || (!(((lookV (mkC c) ps (now + m) x.who x.key x.body).1).toList == (u.body ++ (⟨#[33]⟩ : ByteArray)).toList))))) || (((isGoodV c x.key (now + m)) && (!(u.body.toList == x.body.toList))) && (((lookV (mkC c) ps (now + m) x.who x.key x.body).2) != 3))) then .bool ((!(isGoodV c x.key (now + m))) && (((lookV (mkC c) ps (now + m) x.who x.key x.body).2) != 4)) else undef, .bool (((((((lookV (mkC c) ps (now + m) x.who x.key x.body).2) == 1) || (((lookV (mkC c) ps (now + m) x.who x.key x.body).2) == 5)) || (((isGoodV c x.key (now + m)) && (u.body.toList == x.body.toList)) && ((((lookV (mkC c) ps (now + m) x.who x.key x.body).2) != 2) || (!(((lookV (mkC c) ps (now + m) x.who x.key x.body).1).toList == (u.body ++ (⟨#[33]⟩ : ByteArray)).toList))))) || (((isGoodV c x.key (now + m)) && (!(u.body.toList == x.body.toList))) && (((lookV (mkC c) ps (now + m) x.who x.key x.body).2) != 3))) || ((!(isGoodV c x.key (now + m))) && (((lookV (mkC c) ps (now + m) x.who x.key x.body).2) != 4)))] jx) (fun (LL : Nat → Bool) (xx : Unit) ww => Hp [] wa ww [rB b13 87 [.int .i64 u.kind, .int .i64 u.now, .int .i64 u.who, .int .u64 u.key, .string u.body], rB b9 87 [.int .i64 x.kind, .int .i64 x.now, .int .i64 x.who, .int .u64 x.key, .string x.body], rA (some yd) cd 87 5 (ds.map actRow), rB b5 84 (kL (mkC c) (mkR c) (.slice a ps.length cc)), rB b2 24 (cL c), rS a cc 4 (ps.map rowOf), rS (some y) rc 5 (acts.map actRow)]) () H.out ?_ (steps_al ?_) ?_ ?_
  · exact fun _ _ _ _ _ h => h
  · refine al_cons ?_ (al_cons ?_ (al_cons ?_ (al_cons ?_ (al_cons ?_ (al_cons ?_ (al_cons ?_ (al_cons ?_ (al_cons ?_ (al_cons ?_ (al_cons ?_ (al_cons ?_ (al_cons ?_ (al_cons ?_ (al_cons ?_ (al_cons ?_ (al_cons ?_ (al_cons ?_ (al_cons ?_ (al_cons ?_ (al_cons ?_ (al_cons ?_ (al_cons ?_ (al_cons ?_ (al_cons ?_ (al_cons ?_ (al_cons ?_ (al_cons ?_ (al_cons ?_ (al_cons ?_ (al_cons ?_ (al_cons ?_ (al_cons ?_ (al_cons ?_ (al_cons ?_ (al_cons ?_ (al_cons ?_ (al_cons ?_ (al_cons ?_ (al_cons ?_ (al_cons ?_ (al_cons ?_ (al_cons ?_ (al_cons ?_ (al_cons ?_ (al_cons ?_ (al_cons ?_ (al_cons ?_ (al_cons ?_ (al_nil)))))))))))))))))))))))))))))))))))))))))))))))))
    · intro LL xx ac wc sg hst hwant QQ hgo
      exact op_val hwant hgo hst _ (exec_move rfl ((sg.free 11 (by kernel_rfl)).trans so11)) rfl
    · intro LL xx ac wc sg hst hwant QQ hgo
      have se86 : ac.eval (.tmp 86) = _ := (sg.slot 0 (sg.anc 0 rfl))
      have sg86 := gt_of se86
      (try simp only [nth] at se86 sg86)
      exact op_val hwant hgo hst _ (by simp only [execOp, nth]; go_simp <;> omega) rfl
    · intro LL xx ac wc sg hst hwant QQ hgo
      exact op_val hwant hgo hst _ (exec_move rfl (sg.slot 1 (sg.anc 1 rfl))) rfl
    · intro LL xx ac wc sg hst hwant QQ hgo
      have hG : (!(((lookV (mkC c) ps (now + m) x.who x.key x.body).2) == 1)) = true := (want_f rfl rfl (sg.slot 2 (sg.anc 2 rfl))).symm.trans hwant
      exact op_val hwant hgo hst _ (exec_move rfl ((sg.free 11 (by kernel_rfl)).trans so11)) (cI hG)
    · intro LL xx ac wc sg hst hwant QQ hgo
      have hG : (!(((lookV (mkC c) ps (now + m) x.who x.key x.body).2) == 1)) = true := (want_f rfl rfl (sg.slot 2 (sg.anc 2 rfl))).symm.trans hwant
      have se89 : ac.eval (.tmp 89) = _ := (cT (sg.slot 3 (sg.anc 3 rfl)) hG)
      have sg89 := gt_of se89
      (try simp only [nth] at se89 sg89)
      exact op_val hwant hgo hst _ (by simp only [execOp, nth]; go_simp <;> omega) (cI hG)
    · intro LL xx ac wc sg hst hwant QQ hgo
      exact op_val hwant hgo hst (.bool ((((lookV (mkC c) ps (now + m) x.who x.key x.body).2) == 1) || (((lookV (mkC c) ps (now + m) x.who x.key x.body).2) == 5))) (exec_or (Y := ((lookV (mkC c) ps (now + m) x.who x.key x.body).2) == 5) rfl (sg.slot 2 (sg.anc 2 rfl)) (fun qq => cT (sg.slot 4 (sg.anc 4 rfl)) (bk qq))) rfl
    · intro LL xx ac wc sg hst hwant QQ hgo
      exact op_val hwant hgo hst _ (exec_move rfl (sg.slot 5 (sg.anc 5 rfl))) rfl
    · intro LL xx ac wc sg hst hwant QQ hgo
      have hG : (!((((lookV (mkC c) ps (now + m) x.who x.key x.body).2) == 1) || (((lookV (mkC c) ps (now + m) x.who x.key x.body).2) == 5))) = true := (want_f rfl rfl (sg.slot 6 (sg.anc 6 rfl))).symm.trans hwant
      exact op_val hwant hgo hst _ (exec_move rfl ((sg.free 14 (by kernel_rfl)).trans so14)) (cI hG)
    · intro LL xx ac wc sg hst hwant QQ hgo
      have hG : (!((((lookV (mkC c) ps (now + m) x.who x.key x.body).2) == 1) || (((lookV (mkC c) ps (now + m) x.who x.key x.body).2) == 5))) = true := (want_f rfl rfl (sg.slot 6 (sg.anc 6 rfl))).symm.trans hwant
      exact op_val hwant hgo hst _ (exec_move rfl (cT (sg.slot 7 (sg.anc 7 rfl)) hG)) (cI hG)
    · intro LL xx ac wc sg hst hwant QQ hgo
      have hG : (!((((lookV (mkC c) ps (now + m) x.who x.key x.body).2) == 1) || (((lookV (mkC c) ps (now + m) x.who x.key x.body).2) == 5)) && (isGoodV c x.key (now + m))) = true := (want_gt rfl rfl (sg.slot 8 (sg.anc 8 rfl))).symm.trans hwant
      have se13 : ac.eval (.tmp 13) = _ := ((sg.free 13 (by kernel_rfl)).trans so13)
      have sg13 := gt_of se13
      exact op_val hwant hgo hst _ (by simp only [execOp, nth]; go_simp <;> omega) (cI hG)
    · intro LL xx ac wc sg hst hwant QQ hgo
      have hG : (!((((lookV (mkC c) ps (now + m) x.who x.key x.body).2) == 1) || (((lookV (mkC c) ps (now + m) x.who x.key x.body).2) == 5)) && (isGoodV c x.key (now + m))) = true := (want_gt rfl rfl (sg.slot 8 (sg.anc 8 rfl))).symm.trans hwant
      have H := Lib.hid hst
      refine hpA_load1 tystring H rfl (cT (sg.slot 9 (sg.anc 9 rfl)) hG) hwant (by (repeat (first | exact List.Mem.head _ | apply List.Mem.tail))) (by rfl) ?_
      exact hgo _ () _ (fun _ _ => rfl) (cI hG) hst
    · intro LL xx ac wc sg hst hwant QQ hgo
      have hG : (!((((lookV (mkC c) ps (now + m) x.who x.key x.body).2) == 1) || (((lookV (mkC c) ps (now + m) x.who x.key x.body).2) == 5)) && (isGoodV c x.key (now + m))) = true := (want_gt rfl rfl (sg.slot 8 (sg.anc 8 rfl))).symm.trans hwant
      have se9 : ac.eval (.tmp 9) = _ := ((sg.free 9 (by kernel_rfl)).trans so9)
      have sg9 := gt_of se9
      exact op_val hwant hgo hst _ (by simp only [execOp, nth]; go_simp <;> omega) (cI hG)
    · intro LL xx ac wc sg hst hwant QQ hgo
      have hG : (!((((lookV (mkC c) ps (now + m) x.who x.key x.body).2) == 1) || (((lookV (mkC c) ps (now + m) x.who x.key x.body).2) == 5)) && (isGoodV c x.key (now + m))) = true := (want_gt rfl rfl (sg.slot 8 (sg.anc 8 rfl))).symm.trans hwant
      have H := Lib.hid hst
      refine hpA_load1 tystring H rfl (cT (sg.slot 11 (sg.anc 11 rfl)) hG) hwant (by (repeat (first | exact List.Mem.head _ | apply List.Mem.tail))) (by rfl) ?_
      exact hgo _ () _ (fun _ _ => rfl) (cI hG) hst
    · intro LL xx ac wc sg hst hwant QQ hgo
      have hG : (!((((lookV (mkC c) ps (now + m) x.who x.key x.body).2) == 1) || (((lookV (mkC c) ps (now + m) x.who x.key x.body).2) == 5)) && (isGoodV c x.key (now + m))) = true := (want_gt rfl rfl (sg.slot 8 (sg.anc 8 rfl))).symm.trans hwant
      have se96 : ac.eval (.tmp 96) = _ := (cT (sg.slot 10 (sg.anc 10 rfl)) hG)
      have sg96 := gt_of se96
      have se98 : ac.eval (.tmp 98) = _ := (cT (sg.slot 12 (sg.anc 12 rfl)) hG)
      have sg98 := gt_of se98
      (try simp only [nth] at se96 sg96 se98 sg98)
      exact op_val hwant hgo hst _ (by simp only [execOp, nth]; go_simp <;> omega) (cI hG)
    · intro LL xx ac wc sg hst hwant QQ hgo
      have hG : (!((((lookV (mkC c) ps (now + m) x.who x.key x.body).2) == 1) || (((lookV (mkC c) ps (now + m) x.who x.key x.body).2) == 5))) = true := (want_f rfl rfl (sg.slot 6 (sg.anc 6 rfl))).symm.trans hwant
      exact op_val hwant hgo hst (.bool ((isGoodV c x.key (now + m)) && (u.body.toList == x.body.toList))) (exec_and (Y := u.body.toList == x.body.toList) rfl (cT (sg.slot 8 (sg.anc 8 rfl)) hG) (fun qq => cT (sg.slot 13 (sg.anc 13 rfl)) (bj hG qq))) (cI hG)
    · intro LL xx ac wc sg hst hwant QQ hgo
      have hG : (!((((lookV (mkC c) ps (now + m) x.who x.key x.body).2) == 1) || (((lookV (mkC c) ps (now + m) x.who x.key x.body).2) == 5))) = true := (want_f rfl rfl (sg.slot 6 (sg.anc 6 rfl))).symm.trans hwant
      exact op_val hwant hgo hst _ (exec_move rfl (cT (sg.slot 14 (sg.anc 14 rfl)) hG)) (cI hG)
    · intro LL xx ac wc sg hst hwant QQ hgo
      have hG : (!((((lookV (mkC c) ps (now + m) x.who x.key x.body).2) == 1) || (((lookV (mkC c) ps (now + m) x.who x.key x.body).2) == 5)) && ((isGoodV c x.key (now + m)) && (u.body.toList == x.body.toList))) = true := (want_gt rfl rfl (sg.slot 15 (sg.anc 15 rfl))).symm.trans hwant
      exact op_val hwant hgo hst _ (exec_move rfl ((sg.free 11 (by kernel_rfl)).trans so11)) (cI hG)
    · intro LL xx ac wc sg hst hwant QQ hgo
      have hG : (!((((lookV (mkC c) ps (now + m) x.who x.key x.body).2) == 1) || (((lookV (mkC c) ps (now + m) x.who x.key x.body).2) == 5)) && ((isGoodV c x.key (now + m)) && (u.body.toList == x.body.toList))) = true := (want_gt rfl rfl (sg.slot 15 (sg.anc 15 rfl))).symm.trans hwant
      have se102 : ac.eval (.tmp 102) = _ := (cT (sg.slot 16 (sg.anc 16 rfl)) hG)
      have sg102 := gt_of se102
      (try simp only [nth] at se102 sg102)
      exact op_val hwant hgo hst _ (by simp only [execOp, nth]; go_simp <;> omega) (cI hG)
    · intro LL xx ac wc sg hst hwant QQ hgo
      have hG : (!((((lookV (mkC c) ps (now + m) x.who x.key x.body).2) == 1) || (((lookV (mkC c) ps (now + m) x.who x.key x.body).2) == 5)) && ((isGoodV c x.key (now + m)) && (u.body.toList == x.body.toList))) = true := (want_gt rfl rfl (sg.slot 15 (sg.anc 15 rfl))).symm.trans hwant
      exact op_val hwant hgo hst _ (exec_move rfl (cT (sg.slot 17 (sg.anc 17 rfl)) hG)) (cI hG)
    · intro LL xx ac wc sg hst hwant QQ hgo
      have hG : ((!((((lookV (mkC c) ps (now + m) x.who x.key x.body).2) == 1) || (((lookV (mkC c) ps (now + m) x.who x.key x.body).2) == 5)) && ((isGoodV c x.key (now + m)) && (u.body.toList == x.body.toList))) && !(((lookV (mkC c) ps (now + m) x.who x.key x.body).2) != 2)) = true := (want_gf rfl rfl (sg.slot 18 (sg.anc 18 rfl))).symm.trans hwant
      exact op_val hwant hgo hst _ (exec_move rfl ((sg.free 10 (by kernel_rfl)).trans so10)) (cI hG)
    · intro LL xx ac wc sg hst hwant QQ hgo
      have hG : ((!((((lookV (mkC c) ps (now + m) x.who x.key x.body).2) == 1) || (((lookV (mkC c) ps (now + m) x.who x.key x.body).2) == 5)) && ((isGoodV c x.key (now + m)) && (u.body.toList == x.body.toList))) && !(((lookV (mkC c) ps (now + m) x.who x.key x.body).2) != 2)) = true := (want_gf rfl rfl (sg.slot 18 (sg.anc 18 rfl))).symm.trans hwant
      have se13 : ac.eval (.tmp 13) = _ := ((sg.free 13 (by kernel_rfl)).trans so13)
      have sg13 := gt_of se13
      exact op_val hwant hgo hst _ (by simp only [execOp, nth]; go_simp <;> omega) (cI hG)
    · intro LL xx ac wc sg hst hwant QQ hgo
      have hG : ((!((((lookV (mkC c) ps (now + m) x.who x.key x.body).2) == 1) || (((lookV (mkC c) ps (now + m) x.who x.key x.body).2) == 5)) && ((isGoodV c x.key (now + m)) && (u.body.toList == x.body.toList))) && !(((lookV (mkC c) ps (now + m) x.who x.key x.body).2) != 2)) = true := (want_gf rfl rfl (sg.slot 18 (sg.anc 18 rfl))).symm.trans hwant
      have H := Lib.hid hst
      refine hpA_load1 tystring H rfl (cT (sg.slot 20 (sg.anc 20 rfl)) hG) hwant (by (repeat (first | exact List.Mem.head _ | apply List.Mem.tail))) (by rfl) ?_
      exact hgo _ () _ (fun _ _ => rfl) (cI hG) hst
    · intro LL xx ac wc sg hst hwant QQ hgo
      have hG : ((!((((lookV (mkC c) ps (now + m) x.who x.key x.body).2) == 1) || (((lookV (mkC c) ps (now + m) x.who x.key x.body).2) == 5)) && ((isGoodV c x.key (now + m)) && (u.body.toList == x.body.toList))) && !(((lookV (mkC c) ps (now + m) x.who x.key x.body).2) != 2)) = true := (want_gf rfl rfl (sg.slot 18 (sg.anc 18 rfl))).symm.trans hwant
      have se107 : ac.eval (.tmp 107) = _ := (cT (sg.slot 21 (sg.anc 21 rfl)) hG)
      have sg107 := gt_of se107
      (try simp only [nth] at se107 sg107)
      exact op_val hwant hgo hst _ (by simp only [execOp, nth]; go_simp <;> omega) (cI hG)
    · intro LL xx ac wc sg hst hwant QQ hgo
      have hG : ((!((((lookV (mkC c) ps (now + m) x.who x.key x.body).2) == 1) || (((lookV (mkC c) ps (now + m) x.who x.key x.body).2) == 5)) && ((isGoodV c x.key (now + m)) && (u.body.toList == x.body.toList))) && !(((lookV (mkC c) ps (now + m) x.who x.key x.body).2) != 2)) = true := (want_gf rfl rfl (sg.slot 18 (sg.anc 18 rfl))).symm.trans hwant
      have se105 : ac.eval (.tmp 105) = _ := (cT (sg.slot 19 (sg.anc 19 rfl)) hG)
      have sg105 := gt_of se105
      have se108 : ac.eval (.tmp 108) = _ := (cT (sg.slot 22 (sg.anc 22 rfl)) hG)
      have sg108 := gt_of se108
      (try simp only [nth] at se105 sg105 se108 sg108)
      exact op_val hwant hgo hst _ (by simp only [execOp, nth]; go_simp <;> omega) (cI hG)
    · intro LL xx ac wc sg hst hwant QQ hgo
      have hG : (!((((lookV (mkC c) ps (now + m) x.who x.key x.body).2) == 1) || (((lookV (mkC c) ps (now + m) x.who x.key x.body).2) == 5)) && ((isGoodV c x.key (now + m)) && (u.body.toList == x.body.toList))) = true := (want_gt rfl rfl (sg.slot 15 (sg.anc 15 rfl))).symm.trans hwant
      exact op_val hwant hgo hst (.bool ((((lookV (mkC c) ps (now + m) x.who x.key x.body).2) != 2) || (!(((lookV (mkC c) ps (now + m) x.who x.key x.body).1).toList == (u.body ++ (⟨#[33]⟩ : ByteArray)).toList)))) (exec_or (Y := !(((lookV (mkC c) ps (now + m) x.who x.key x.body).1).toList == (u.body ++ (⟨#[33]⟩ : ByteArray)).toList)) rfl (cT (sg.slot 18 (sg.anc 18 rfl)) hG) (fun qq => cT (sg.slot 23 (sg.anc 23 rfl)) (bj hG (bk qq)))) (cI hG)
    · intro LL xx ac wc sg hst hwant QQ hgo
      have hG : (!((((lookV (mkC c) ps (now + m) x.who x.key x.body).2) == 1) || (((lookV (mkC c) ps (now + m) x.who x.key x.body).2) == 5))) = true := (want_f rfl rfl (sg.slot 6 (sg.anc 6 rfl))).symm.trans hwant
      exact op_val hwant hgo hst (.bool (((isGoodV c x.key (now + m)) && (u.body.toList == x.body.toList)) && ((((lookV (mkC c) ps (now + m) x.who x.key x.body).2) != 2) || (!(((lookV (mkC c) ps (now + m) x.who x.key x.body).1).toList == (u.body ++ (⟨#[33]⟩ : ByteArray)).toList))))) (exec_and (Y := (((lookV (mkC c) ps (now + m) x.who x.key x.body).2) != 2) || (!(((lookV (mkC c) ps (now + m) x.who x.key x.body).1).toList == (u.body ++ (⟨#[33]⟩ : ByteArray)).toList))) rfl (cT (sg.slot 15 (sg.anc 15 rfl)) hG) (fun qq => cT (sg.slot 24 (sg.anc 24 rfl)) (bj hG qq))) (cI hG)
    · intro LL xx ac wc sg hst hwant QQ hgo
      exact op_val hwant hgo hst (.bool (((((lookV (mkC c) ps (now + m) x.who x.key x.body).2) == 1) || (((lookV (mkC c) ps (now + m) x.who x.key x.body).2) == 5)) || (((isGoodV c x.key (now + m)) && (u.body.toList == x.body.toList)) && ((((lookV (mkC c) ps (now + m) x.who x.key x.body).2) != 2) || (!(((lookV (mkC c) ps (now + m) x.who x.key x.body).1).toList == (u.body ++ (⟨#[33]⟩ : ByteArray)).toList)))))) (exec_or (Y := ((isGoodV c x.key (now + m)) && (u.body.toList == x.body.toList)) && ((((lookV (mkC c) ps (now + m) x.who x.key x.body).2) != 2) || (!(((lookV (mkC c) ps (now + m) x.who x.key x.body).1).toList == (u.body ++ (⟨#[33]⟩ : ByteArray)).toList)))) rfl (sg.slot 6 (sg.anc 6 rfl)) (fun qq => cT (sg.slot 25 (sg.anc 25 rfl)) (bk qq))) rfl
    · intro LL xx ac wc sg hst hwant QQ hgo
      exact op_val hwant hgo hst _ (exec_move rfl (sg.slot 26 (sg.anc 26 rfl))) rfl
    · intro LL xx ac wc sg hst hwant QQ hgo
      have hG : (!(((((lookV (mkC c) ps (now + m) x.who x.key x.body).2) == 1) || (((lookV (mkC c) ps (now + m) x.who x.key x.body).2) == 5)) || (((isGoodV c x.key (now + m)) && (u.body.toList == x.body.toList)) && ((((lookV (mkC c) ps (now + m) x.who x.key x.body).2) != 2) || (!(((lookV (mkC c) ps (now + m) x.who x.key x.body).1).toList == (u.body ++ (⟨#[33]⟩ : ByteArray)).toList)))))) = true := (want_f rfl rfl (sg.slot 27 (sg.anc 27 rfl))).symm.trans hwant
      exact op_val hwant hgo hst _ (exec_move rfl ((sg.free 14 (by kernel_rfl)).trans so14)) (cI hG)
    · intro LL xx ac wc sg hst hwant QQ hgo
      have hG : (!(((((lookV (mkC c) ps (now + m) x.who x.key x.body).2) == 1) || (((lookV (mkC c) ps (now + m) x.who x.key x.body).2) == 5)) || (((isGoodV c x.key (now + m)) && (u.body.toList == x.body.toList)) && ((((lookV (mkC c) ps (now + m) x.who x.key x.body).2) != 2) || (!(((lookV (mkC c) ps (now + m) x.who x.key x.body).1).toList == (u.body ++ (⟨#[33]⟩ : ByteArray)).toList)))))) = true := (want_f rfl rfl (sg.slot 27 (sg.anc 27 rfl))).symm.trans hwant
      exact op_val hwant hgo hst _ (exec_move rfl (cT (sg.slot 28 (sg.anc 28 rfl)) hG)) (cI hG)
    · intro LL xx ac wc sg hst hwant QQ hgo
      have hG : (!(((((lookV (mkC c) ps (now + m) x.who x.key x.body).2) == 1) || (((lookV (mkC c) ps (now + m) x.who x.key x.body).2) == 5)) || (((isGoodV c x.key (now + m)) && (u.body.toList == x.body.toList)) && ((((lookV (mkC c) ps (now + m) x.who x.key x.body).2) != 2) || (!(((lookV (mkC c) ps (now + m) x.who x.key x.body).1).toList == (u.body ++ (⟨#[33]⟩ : ByteArray)).toList))))) && (isGoodV c x.key (now + m))) = true := (want_gt rfl rfl (sg.slot 29 (sg.anc 29 rfl))).symm.trans hwant
      have se13 : ac.eval (.tmp 13) = _ := ((sg.free 13 (by kernel_rfl)).trans so13)
      have sg13 := gt_of se13
      exact op_val hwant hgo hst _ (by simp only [execOp, nth]; go_simp <;> omega) (cI hG)
    · intro LL xx ac wc sg hst hwant QQ hgo
      have hG : (!(((((lookV (mkC c) ps (now + m) x.who x.key x.body).2) == 1) || (((lookV (mkC c) ps (now + m) x.who x.key x.body).2) == 5)) || (((isGoodV c x.key (now + m)) && (u.body.toList == x.body.toList)) && ((((lookV (mkC c) ps (now + m) x.who x.key x.body).2) != 2) || (!(((lookV (mkC c) ps (now + m) x.who x.key x.body).1).toList == (u.body ++ (⟨#[33]⟩ : ByteArray)).toList))))) && (isGoodV c x.key (now + m))) = true := (want_gt rfl rfl (sg.slot 29 (sg.anc 29 rfl))).symm.trans hwant
      have H := Lib.hid hst
      refine hpA_load1 tystring H rfl (cT (sg.slot 30 (sg.anc 30 rfl)) hG) hwant (by (repeat (first | exact List.Mem.head _ | apply List.Mem.tail))) (by rfl) ?_
      exact hgo _ () _ (fun _ _ => rfl) (cI hG) hst
    · intro LL xx ac wc sg hst hwant QQ hgo
      have hG : (!(((((lookV (mkC c) ps (now + m) x.who x.key x.body).2) == 1) || (((lookV (mkC c) ps (now + m) x.who x.key x.body).2) == 5)) || (((isGoodV c x.key (now + m)) && (u.body.toList == x.body.toList)) && ((((lookV (mkC c) ps (now + m) x.who x.key x.body).2) != 2) || (!(((lookV (mkC c) ps (now + m) x.who x.key x.body).1).toList == (u.body ++ (⟨#[33]⟩ : ByteArray)).toList))))) && (isGoodV c x.key (now + m))) = true := (want_gt rfl rfl (sg.slot 29 (sg.anc 29 rfl))).symm.trans hwant
      have se9 : ac.eval (.tmp 9) = _ := ((sg.free 9 (by kernel_rfl)).trans so9)
      have sg9 := gt_of se9
      exact op_val hwant hgo hst _ (by simp only [execOp, nth]; go_simp <;> omega) (cI hG)
    · intro LL xx ac wc sg hst hwant QQ hgo
      have hG : (!(((((lookV (mkC c) ps (now + m) x.who x.key x.body).2) == 1) || (((lookV (mkC c) ps (now + m) x.who x.key x.body).2) == 5)) || (((isGoodV c x.key (now + m)) && (u.body.toList == x.body.toList)) && ((((lookV (mkC c) ps (now + m) x.who x.key x.body).2) != 2) || (!(((lookV (mkC c) ps (now + m) x.who x.key x.body).1).toList == (u.body ++ (⟨#[33]⟩ : ByteArray)).toList))))) && (isGoodV c x.key (now + m))) = true := (want_gt rfl rfl (sg.slot 29 (sg.anc 29 rfl))).symm.trans hwant
      have H := Lib.hid hst
      refine hpA_load1 tystring H rfl (cT (sg.slot 32 (sg.anc 32 rfl)) hG) hwant (by (repeat (first | exact List.Mem.head _ | apply List.Mem.tail))) (by rfl) ?_
      exact hgo _ () _ (fun _ _ => rfl) (cI hG) hst
    · intro LL xx ac wc sg hst hwant QQ hgo
      have hG : (!(((((lookV (mkC c) ps (now + m) x.who x.key x.body).2) == 1) || (((lookV (mkC c) ps (now + m) x.who x.key x.body).2) == 5)) || (((isGoodV c x.key (now + m)) && (u.body.toList == x.body.toList)) && ((((lookV (mkC c) ps (now + m) x.who x.key x.body).2) != 2) || (!(((lookV (mkC c) ps (now + m) x.who x.key x.body).1).toList == (u.body ++ (⟨#[33]⟩ : ByteArray)).toList))))) && (isGoodV c x.key (now + m))) = true := (want_gt rfl rfl (sg.slot 29 (sg.anc 29 rfl))).symm.trans hwant
      have se117 : ac.eval (.tmp 117) = _ := (cT (sg.slot 31 (sg.anc 31 rfl)) hG)
      have sg117 := gt_of se117
      have se119 : ac.eval (.tmp 119) = _ := (cT (sg.slot 33 (sg.anc 33 rfl)) hG)
      have sg119 := gt_of se119
      (try simp only [nth] at se117 sg117 se119 sg119)
      exact op_val hwant hgo hst _ (by simp only [execOp, nth]; go_simp <;> omega) (cI hG)
    · intro LL xx ac wc sg hst hwant QQ hgo
      have hG : (!(((((lookV (mkC c) ps (now + m) x.who x.key x.body).2) == 1) || (((lookV (mkC c) ps (now + m) x.who x.key x.body).2) == 5)) || (((isGoodV c x.key (now + m)) && (u.body.toList == x.body.toList)) && ((((lookV (mkC c) ps (now + m) x.who x.key x.body).2) != 2) || (!(((lookV (mkC c) ps (now + m) x.who x.key x.body).1).toList == (u.body ++ (⟨#[33]⟩ : ByteArray)).toList)))))) = true := (want_f rfl rfl (sg.slot 27 (sg.anc 27 rfl))).symm.trans hwant
      exact op_val hwant hgo hst (.bool ((isGoodV c x.key (now + m)) && (!(u.body.toList == x.body.toList)))) (exec_and (Y := !(u.body.toList == x.body.toList)) rfl (cT (sg.slot 29 (sg.anc 29 rfl)) hG) (fun qq => cT (sg.slot 34 (sg.anc 34 rfl)) (bj hG qq))) (cI hG)
    · intro LL xx ac wc sg hst hwant QQ hgo
      have hG : (!(((((lookV (mkC c) ps (now + m) x.who x.key x.body).2) == 1) || (((lookV (mkC c) ps (now + m) x.who x.key x.body).2) == 5)) || (((isGoodV c x.key (now + m)) && (u.body.toList == x.body.toList)) && ((((lookV (mkC c) ps (now + m) x.who x.key x.body).2) != 2) || (!(((lookV (mkC c) ps (now + m) x.who x.key x.body).1).toList == (u.body ++ (⟨#[33]⟩ : ByteArray)).toList)))))) = true := (want_f rfl rfl (sg.slot 27 (sg.anc 27 rfl))).symm.trans hwant
      exact op_val hwant hgo hst _ (exec_move rfl (cT (sg.slot 35 (sg.anc 35 rfl)) hG)) (cI hG)
    · intro LL xx ac wc sg hst hwant QQ hgo
      have hG : (!(((((lookV (mkC c) ps (now + m) x.who x.key x.body).2) == 1) || (((lookV (mkC c) ps (now + m) x.who x.key x.body).2) == 5)) || (((isGoodV c x.key (now + m)) && (u.body.toList == x.body.toList)) && ((((lookV (mkC c) ps (now + m) x.who x.key x.body).2) != 2) || (!(((lookV (mkC c) ps (now + m) x.who x.key x.body).1).toList == (u.body ++ (⟨#[33]⟩ : ByteArray)).toList))))) && ((isGoodV c x.key (now + m)) && (!(u.body.toList == x.body.toList)))) = true := (want_gt rfl rfl (sg.slot 36 (sg.anc 36 rfl))).symm.trans hwant
      exact op_val hwant hgo hst _ (exec_move rfl ((sg.free 11 (by kernel_rfl)).trans so11)) (cI hG)
    · intro LL xx ac wc sg hst hwant QQ hgo
      have hG : (!(((((lookV (mkC c) ps (now + m) x.who x.key x.body).2) == 1) || (((lookV (mkC c) ps (now + m) x.who x.key x.body).2) == 5)) || (((isGoodV c x.key (now + m)) && (u.body.toList == x.body.toList)) && ((((lookV (mkC c) ps (now + m) x.who x.key x.body).2) != 2) || (!(((lookV (mkC c) ps (now + m) x.who x.key x.body).1).toList == (u.body ++ (⟨#[33]⟩ : ByteArray)).toList))))) && ((isGoodV c x.key (now + m)) && (!(u.body.toList == x.body.toList)))) = true := (want_gt rfl rfl (sg.slot 36 (sg.anc 36 rfl))).symm.trans hwant
      have se123 : ac.eval (.tmp 123) = _ := (cT (sg.slot 37 (sg.anc 37 rfl)) hG)
      have sg123 := gt_of se123
      (try simp only [nth] at se123 sg123)
      exact op_val hwant hgo hst _ (by simp only [execOp, nth]; go_simp <;> omega) (cI hG)
    · intro LL xx ac wc sg hst hwant QQ hgo
      have hG : (!(((((lookV (mkC c) ps (now + m) x.who x.key x.body).2) == 1) || (((lookV (mkC c) ps (now + m) x.who x.key x.body).2) == 5)) || (((isGoodV c x.key (now + m)) && (u.body.toList == x.body.toList)) && ((((lookV (mkC c) ps (now + m) x.who x.key x.body).2) != 2) || (!(((lookV (mkC c) ps (now + m) x.who x.key x.body).1).toList == (u.body ++ (⟨#[33]⟩ : ByteArray)).toList)))))) = true := (want_f rfl rfl (sg.slot 27 (sg.anc 27 rfl))).symm.trans hwant
      exact op_val hwant hgo hst (.bool (((isGoodV c x.key (now + m)) && (!(u.body.toList == x.body.toList))) && (((lookV (mkC c) ps (now + m) x.who x.key x.body).2) != 3))) (exec_and (Y := ((lookV (mkC c) ps (now + m) x.who x.key x.body).2) != 3) rfl (cT (sg.slot 36 (sg.anc 36 rfl)) hG) (fun qq => cT (sg.slot 38 (sg.anc 38 rfl)) (bj hG qq))) (cI hG)
    · intro LL xx ac wc sg hst hwant QQ hgo
      exact op_val hwant hgo hst (.bool ((((((lookV (mkC c) ps (now + m) x.who x.key x.body).2) == 1) || (((lookV (mkC c) ps (now + m) x.who x.key x.body).2) == 5)) || (((isGoodV c x.key (now + m)) && (u.body.toList == x.body.toList)) && ((((lookV (mkC c) ps (now + m) x.who x.key x.body).2) != 2) || (!(((lookV (mkC c) ps (now + m) x.who x.key x.body).1).toList == (u.body ++ (⟨#[33]⟩ : ByteArray)).toList))))) || (((isGoodV c x.key (now + m)) && (!(u.body.toList == x.body.toList))) && (((lookV (mkC c) ps (now + m) x.who x.key x.body).2) != 3)))) (exec_or (Y := ((isGoodV c x.key (now + m)) && (!(u.body.toList == x.body.toList))) && (((lookV (mkC c) ps (now + m) x.who x.key x.body).2) != 3)) rfl (sg.slot 27 (sg.anc 27 rfl)) (fun qq => cT (sg.slot 39 (sg.anc 39 rfl)) (bk qq))) rfl
    · intro LL xx ac wc sg hst hwant QQ hgo
      exact op_val hwant hgo hst _ (exec_move rfl (sg.slot 40 (sg.anc 40 rfl))) rfl
    · intro LL xx ac wc sg hst hwant QQ hgo
      have hG : (!((((((lookV (mkC c) ps (now + m) x.who x.key x.body).2) == 1) || (((lookV (mkC c) ps (now + m) x.who x.key x.body).2) == 5)) || (((isGoodV c x.key (now + m)) && (u.body.toList == x.body.toList)) && ((((lookV (mkC c) ps (now + m) x.who x.key x.body).2) != 2) || (!(((lookV (mkC c) ps (now + m) x.who x.key x.body).1).toList == (u.body ++ (⟨#[33]⟩ : ByteArray)).toList))))) || (((isGoodV c x.key (now + m)) && (!(u.body.toList == x.body.toList))) && (((lookV (mkC c) ps (now + m) x.who x.key x.body).2) != 3)))) = true := (want_f rfl rfl (sg.slot 41 (sg.anc 41 rfl))).symm.trans hwant
      exact op_val hwant hgo hst _ (exec_move rfl ((sg.free 14 (by kernel_rfl)).trans so14)) (cI hG)
    · intro LL xx ac wc sg hst hwant QQ hgo
      have hG : (!((((((lookV (mkC c) ps (now + m) x.who x.key x.body).2) == 1) || (((lookV (mkC c) ps (now + m) x.who x.key x.body).2) == 5)) || (((isGoodV c x.key (now + m)) && (u.body.toList == x.body.toList)) && ((((lookV (mkC c) ps (now + m) x.who x.key x.body).2) != 2) || (!(((lookV (mkC c) ps (now + m) x.who x.key x.body).1).toList == (u.body ++ (⟨#[33]⟩ : ByteArray)).toList))))) || (((isGoodV c x.key (now + m)) && (!(u.body.toList == x.body.toList))) && (((lookV (mkC c) ps (now + m) x.who x.key x.body).2) != 3)))) = true := (want_f rfl rfl (sg.slot 41 (sg.anc 41 rfl))).symm.trans hwant
      have se128 : ac.eval (.tmp 128) = _ := (cT (sg.slot 42 (sg.anc 42 rfl)) hG)
      have sg128 := gt_of se128
      (try simp only [nth] at se128 sg128)
      exact op_val hwant hgo hst _ (by simp only [execOp, nth]; go_simp <;> omega) (cI hG)
    · intro LL xx ac wc sg hst hwant QQ hgo
      have hG : (!((((((lookV (mkC c) ps (now + m) x.who x.key x.body).2) == 1) || (((lookV (mkC c) ps (now + m) x.who x.key x.body).2) == 5)) || (((isGoodV c x.key (now + m)) && (u.body.toList == x.body.toList)) && ((((lookV (mkC c) ps (now + m) x.who x.key x.body).2) != 2) || (!(((lookV (mkC c) ps (now + m) x.who x.key x.body).1).toList == (u.body ++ (⟨#[33]⟩ : ByteArray)).toList))))) || (((isGoodV c x.key (now + m)) && (!(u.body.toList == x.body.toList))) && (((lookV (mkC c) ps (now + m) x.who x.key x.body).2) != 3)))) = true := (want_f rfl rfl (sg.slot 41 (sg.anc 41 rfl))).symm.trans hwant
      exact op_val hwant hgo hst _ (exec_move rfl (cT (sg.slot 43 (sg.anc 43 rfl)) hG)) (cI hG)
    · intro LL xx ac wc sg hst hwant QQ hgo
      have hG : (!((((((lookV (mkC c) ps (now + m) x.who x.key x.body).2) == 1) || (((lookV (mkC c) ps (now + m) x.who x.key x.body).2) == 5)) || (((isGoodV c x.key (now + m)) && (u.body.toList == x.body.toList)) && ((((lookV (mkC c) ps (now + m) x.who x.key x.body).2) != 2) || (!(((lookV (mkC c) ps (now + m) x.who x.key x.body).1).toList == (u.body ++ (⟨#[33]⟩ : ByteArray)).toList))))) || (((isGoodV c x.key (now + m)) && (!(u.body.toList == x.body.toList))) && (((lookV (mkC c) ps (now + m) x.who x.key x.body).2) != 3))) && (!(isGoodV c x.key (now + m)))) = true := (want_gt rfl rfl (sg.slot 44 (sg.anc 44 rfl))).symm.trans hwant
      exact op_val hwant hgo hst _ (exec_move rfl ((sg.free 11 (by kernel_rfl)).trans so11)) (cI hG)
    · intro LL xx ac wc sg hst hwant QQ hgo
      have hG : (!((((((lookV (mkC c) ps (now + m) x.who x.key x.body).2) == 1) || (((lookV (mkC c) ps (now + m) x.who x.key x.body).2) == 5)) || (((isGoodV c x.key (now + m)) && (u.body.toList == x.body.toList)) && ((((lookV (mkC c) ps (now + m) x.who x.key x.body).2) != 2) || (!(((lookV (mkC c) ps (now + m) x.who x.key x.body).1).toList == (u.body ++ (⟨#[33]⟩ : ByteArray)).toList))))) || (((isGoodV c x.key (now + m)) && (!(u.body.toList == x.body.toList))) && (((lookV (mkC c) ps (now + m) x.who x.key x.body).2) != 3))) && (!(isGoodV c x.key (now + m)))) = true := (want_gt rfl rfl (sg.slot 44 (sg.anc 44 rfl))).symm.trans hwant
      have se131 : ac.eval (.tmp 131) = _ := (cT (sg.slot 45 (sg.anc 45 rfl)) hG)
      have sg131 := gt_of se131
      (try simp only [nth] at se131 sg131)
      exact op_val hwant hgo hst _ (by simp only [execOp, nth]; go_simp <;> omega) (cI hG)
    · intro LL xx ac wc sg hst hwant QQ hgo
      have hG : (!((((((lookV (mkC c) ps (now + m) x.who x.key x.body).2) == 1) || (((lookV (mkC c) ps (now + m) x.who x.key x.body).2) == 5)) || (((isGoodV c x.key (now + m)) && (u.body.toList == x.body.toList)) && ((((lookV (mkC c) ps (now + m) x.who x.key x.body).2) != 2) || (!(((lookV (mkC c) ps (now + m) x.who x.key x.body).1).toList == (u.body ++ (⟨#[33]⟩ : ByteArray)).toList))))) || (((isGoodV c x.key (now + m)) && (!(u.body.toList == x.body.toList))) && (((lookV (mkC c) ps (now + m) x.who x.key x.body).2) != 3)))) = true := (want_f rfl rfl (sg.slot 41 (sg.anc 41 rfl))).symm.trans hwant
      exact op_val hwant hgo hst (.bool ((!(isGoodV c x.key (now + m))) && (((lookV (mkC c) ps (now + m) x.who x.key x.body).2) != 4))) (exec_and (Y := ((lookV (mkC c) ps (now + m) x.who x.key x.body).2) != 4) rfl (cT (sg.slot 44 (sg.anc 44 rfl)) hG) (fun qq => cT (sg.slot 46 (sg.anc 46 rfl)) (bj hG qq))) (cI hG)
    · intro LL xx ac wc sg hst hwant QQ hgo
      exact op_val hwant hgo hst (.bool (((((((lookV (mkC c) ps (now + m) x.who x.key x.body).2) == 1) || (((lookV (mkC c) ps (now + m) x.who x.key x.body).2) == 5)) || (((isGoodV c x.key (now + m)) && (u.body.toList == x.body.toList)) && ((((lookV (mkC c) ps (now + m) x.who x.key x.body).2) != 2) || (!(((lookV (mkC c) ps (now + m) x.who x.key x.body).1).toList == (u.body ++ (⟨#[33]⟩ : ByteArray)).toList))))) || (((isGoodV c x.key (now + m)) && (!(u.body.toList == x.body.toList))) && (((lookV (mkC c) ps (now + m) x.who x.key x.body).2) != 3))) || ((!(isGoodV c x.key (now + m))) && (((lookV (mkC c) ps (now + m) x.who x.key x.body).2) != 4)))) (exec_or (Y := (!(isGoodV c x.key (now + m))) && (((lookV (mkC c) ps (now + m) x.who x.key x.body).2) != 4)) rfl (sg.slot 41 (sg.anc 41 rfl)) (fun qq => cT (sg.slot 47 (sg.anc 47 rfl)) (bk qq))) rfl
  · refine skips [3, 4, 7, 8, 9, 10, 11, 12, 13, 14, 15, 16, 17, 18, 19, 20, 21, 22, 23, 24, 25, 28, 29, 30, 31, 32, 33, 34, 35, 36, 37, 38, 39, 42, 43, 44, 45, 46, 47] (by kernel_rfl) ?_
    refine List.forall_mem_cons.2 ⟨?_, List.forall_mem_cons.2 ⟨?_, List.forall_mem_cons.2 ⟨?_, List.forall_mem_cons.2 ⟨?_, List.forall_mem_cons.2 ⟨?_, List.forall_mem_cons.2 ⟨?_, List.forall_mem_cons.2 ⟨?_, List.forall_mem_cons.2 ⟨?_, List.forall_mem_cons.2 ⟨?_, List.forall_mem_cons.2 ⟨?_, List.forall_mem_cons.2 ⟨?_, List.forall_mem_cons.2 ⟨?_, List.forall_mem_cons.2 ⟨?_, List.forall_mem_cons.2 ⟨?_, List.forall_mem_cons.2 ⟨?_, List.forall_mem_cons.2 ⟨?_, List.forall_mem_cons.2 ⟨?_, List.forall_mem_cons.2 ⟨?_, List.forall_mem_cons.2 ⟨?_, List.forall_mem_cons.2 ⟨?_, List.forall_mem_cons.2 ⟨?_, List.forall_mem_cons.2 ⟨?_, List.forall_mem_cons.2 ⟨?_, List.forall_mem_cons.2 ⟨?_, List.forall_mem_cons.2 ⟨?_, List.forall_mem_cons.2 ⟨?_, List.forall_mem_cons.2 ⟨?_, List.forall_mem_cons.2 ⟨?_, List.forall_mem_cons.2 ⟨?_, List.forall_mem_cons.2 ⟨?_, List.forall_mem_cons.2 ⟨?_, List.forall_mem_cons.2 ⟨?_, List.forall_mem_cons.2 ⟨?_, List.forall_mem_cons.2 ⟨?_, List.forall_mem_cons.2 ⟨?_, List.forall_mem_cons.2 ⟨?_, List.forall_mem_cons.2 ⟨?_, List.forall_mem_cons.2 ⟨?_, List.forall_mem_cons.2 ⟨?_, fun _ h => by cases h⟩⟩⟩⟩⟩⟩⟩⟩⟩⟩⟩⟩⟩⟩⟩⟩⟩⟩⟩⟩⟩⟩⟩⟩⟩⟩⟩⟩⟩⟩⟩⟩⟩⟩⟩⟩⟩⟩⟩
    · intro oo hop LL xx ac sg hwant
      cases Option.some.inj hop
      have hG : (!(((lookV (mkC c) ps (now + m) x.who x.key x.body).2) == 1)) = false := (want_f rfl rfl (sg.slot 2 (sg.anc 2 rfl))).symm.trans hwant
      exact ⟨cF hG, fun _ h => h⟩
    · intro oo hop LL xx ac sg hwant
      cases Option.some.inj hop
      have hG : (!(((lookV (mkC c) ps (now + m) x.who x.key x.body).2) == 1)) = false := (want_f rfl rfl (sg.slot 2 (sg.anc 2 rfl))).symm.trans hwant
      exact ⟨cF hG, fun _ h => h⟩
    · intro oo hop LL xx ac sg hwant
      cases Option.some.inj hop
      have hG : (!((((lookV (mkC c) ps (now + m) x.who x.key x.body).2) == 1) || (((lookV (mkC c) ps (now + m) x.who x.key x.body).2) == 5))) = false := (want_f rfl rfl (sg.slot 6 (sg.anc 6 rfl))).symm.trans hwant
      exact ⟨cF hG, fun _ h => h⟩
    · intro oo hop LL xx ac sg hwant
      cases Option.some.inj hop
      have hG : (!((((lookV (mkC c) ps (now + m) x.who x.key x.body).2) == 1) || (((lookV (mkC c) ps (now + m) x.who x.key x.body).2) == 5))) = false := (want_f rfl rfl (sg.slot 6 (sg.anc 6 rfl))).symm.trans hwant
      exact ⟨cF hG, fun _ h => h⟩
    · intro oo hop LL xx ac sg hwant
      cases Option.some.inj hop
      have hG : (!((((lookV (mkC c) ps (now + m) x.who x.key x.body).2) == 1) || (((lookV (mkC c) ps (now + m) x.who x.key x.body).2) == 5)) && (isGoodV c x.key (now + m))) = false := (want_gt rfl rfl (sg.slot 8 (sg.anc 8 rfl))).symm.trans hwant
      exact ⟨cF hG, fun _ h => h⟩
    · intro oo hop LL xx ac sg hwant
      cases Option.some.inj hop
      have hG : (!((((lookV (mkC c) ps (now + m) x.who x.key x.body).2) == 1) || (((lookV (mkC c) ps (now + m) x.who x.key x.body).2) == 5)) && (isGoodV c x.key (now + m))) = false := (want_gt rfl rfl (sg.slot 8 (sg.anc 8 rfl))).symm.trans hwant
      exact ⟨cF hG, fun _ h => h⟩
    · intro oo hop LL xx ac sg hwant
      cases Option.some.inj hop
      have hG : (!((((lookV (mkC c) ps (now + m) x.who x.key x.body).2) == 1) || (((lookV (mkC c) ps (now + m) x.who x.key x.body).2) == 5)) && (isGoodV c x.key (now + m))) = false := (want_gt rfl rfl (sg.slot 8 (sg.anc 8 rfl))).symm.trans hwant
      exact ⟨cF hG, fun _ h => h⟩
    · intro oo hop LL xx ac sg hwant
      cases Option.some.inj hop
      have hG : (!((((lookV (mkC c) ps (now + m) x.who x.key x.body).2) == 1) || (((lookV (mkC c) ps (now + m) x.who x.key x.body).2) == 5)) && (isGoodV c x.key (now + m))) = false := (want_gt rfl rfl (sg.slot 8 (sg.anc 8 rfl))).symm.trans hwant
      exact ⟨cF hG, fun _ h => h⟩
    · intro oo hop LL xx ac sg hwant
      cases Option.some.inj hop
      have hG : (!((((lookV (mkC c) ps (now + m) x.who x.key x.body).2) == 1) || (((lookV (mkC c) ps (now + m) x.who x.key x.body).2) == 5)) && (isGoodV c x.key (now + m))) = false := (want_gt rfl rfl (sg.slot 8 (sg.anc 8 rfl))).symm.trans hwant
      exact ⟨cF hG, fun _ h => h⟩
    · intro oo hop LL xx ac sg hwant
      cases Option.some.inj hop
      have hG : (!((((lookV (mkC c) ps (now + m) x.who x.key x.body).2) == 1) || (((lookV (mkC c) ps (now + m) x.who x.key x.body).2) == 5))) = false := (want_f rfl rfl (sg.slot 6 (sg.anc 6 rfl))).symm.trans hwant
      exact ⟨cF hG, fun _ h => h⟩
    · intro oo hop LL xx ac sg hwant
      cases Option.some.inj hop
      have hG : (!((((lookV (mkC c) ps (now + m) x.who x.key x.body).2) == 1) || (((lookV (mkC c) ps (now + m) x.who x.key x.body).2) == 5))) = false := (want_f rfl rfl (sg.slot 6 (sg.anc 6 rfl))).symm.trans hwant
      exact ⟨cF hG, fun _ h => h⟩
    · intro oo hop LL xx ac sg hwant
      cases Option.some.inj hop
      have hG : (!((((lookV (mkC c) ps (now + m) x.who x.key x.body).2) == 1) || (((lookV (mkC c) ps (now + m) x.who x.key x.body).2) == 5)) && ((isGoodV c x.key (now + m)) && (u.body.toList == x.body.toList))) = false := (want_gt rfl rfl (sg.slot 15 (sg.anc 15 rfl))).symm.trans hwant
      exact ⟨cF hG, fun _ h => h⟩
    · intro oo hop LL xx ac sg hwant
      cases Option.some.inj hop
      have hG : (!((((lookV (mkC c) ps (now + m) x.who x.key x.body).2) == 1) || (((lookV (mkC c) ps (now + m) x.who x.key x.body).2) == 5)) && ((isGoodV c x.key (now + m)) && (u.body.toList == x.body.toList))) = false := (want_gt rfl rfl (sg.slot 15 (sg.anc 15 rfl))).symm.trans hwant
      exact ⟨cF hG, fun _ h => h⟩
    · intro oo hop LL xx ac sg hwant
      cases Option.some.inj hop
      have hG : (!((((lookV (mkC c) ps (now + m) x.who x.key x.body).2) == 1) || (((lookV (mkC c) ps (now + m) x.who x.key x.body).2) == 5)) && ((isGoodV c x.key (now + m)) && (u.body.toList == x.body.toList))) = false := (want_gt rfl rfl (sg.slot 15 (sg.anc 15 rfl))).symm.trans hwant
      exact ⟨cF hG, fun _ h => h⟩
    · intro oo hop LL xx ac sg hwant
      cases Option.some.inj hop
      have hG : ((!((((lookV (mkC c) ps (now + m) x.who x.key x.body).2) == 1) || (((lookV (mkC c) ps (now + m) x.who x.key x.body).2) == 5)) && ((isGoodV c x.key (now + m)) && (u.body.toList == x.body.toList))) && !(((lookV (mkC c) ps (now + m) x.who x.key x.body).2) != 2)) = false := (want_gf rfl rfl (sg.slot 18 (sg.anc 18 rfl))).symm.trans hwant
      exact ⟨cF hG, fun _ h => h⟩
    · intro oo hop LL xx ac sg hwant
      cases Option.some.inj hop
      have hG : ((!((((lookV (mkC c) ps (now + m) x.who x.key x.body).2) == 1) || (((lookV (mkC c) ps (now + m) x.who x.key x.body).2) == 5)) && ((isGoodV c x.key (now + m)) && (u.body.toList == x.body.toList))) && !(((lookV (mkC c) ps (now + m) x.who x.key x.body).2) != 2)) = false := (want_gf rfl rfl (sg.slot 18 (sg.anc 18 rfl))).symm.trans hwant
      exact ⟨cF hG, fun _ h => h⟩
    · intro oo hop LL xx ac sg hwant
      cases Option.some.inj hop
      have hG : ((!((((lookV (mkC c) ps (now + m) x.who x.key x.body).2) == 1) || (((lookV (mkC c) ps (now + m) x.who x.key x.body).2) == 5)) && ((isGoodV c x.key (now + m)) && (u.body.toList == x.body.toList))) && !(((lookV (mkC c) ps (now + m) x.who x.key x.body).2) != 2)) = false := (want_gf rfl rfl (sg.slot 18 (sg.anc 18 rfl))).symm.trans hwant
      exact ⟨cF hG, fun _ h => h⟩
    · intro oo hop LL xx ac sg hwant
      cases Option.some.inj hop
      have hG : ((!((((lookV (mkC c) ps (now + m) x.who x.key x.body).2) == 1) || (((lookV (mkC c) ps (now + m) x.who x.key x.body).2) == 5)) && ((isGoodV c x.key (now + m)) && (u.body.toList == x.body.toList))) && !(((lookV (mkC c) ps (now + m) x.who x.key x.body).2) != 2)) = false := (want_gf rfl rfl (sg.slot 18 (sg.anc 18 rfl))).symm.trans hwant
      exact ⟨cF hG, fun _ h => h⟩
    · intro oo hop LL xx ac sg hwant
      cases Option.some.inj hop
      have hG : ((!((((lookV (mkC c) ps (now + m) x.who x.key x.body).2) == 1) || (((lookV (mkC c) ps (now + m) x.who x.key x.body).2) == 5)) && ((isGoodV c x.key (now + m)) && (u.body.toList == x.body.toList))) && !(((lookV (mkC c) ps (now + m) x.who x.key x.body).2) != 2)) = false := (want_gf rfl rfl (sg.slot 18 (sg.anc 18 rfl))).symm.trans hwant
      exact ⟨cF hG, fun _ h => h⟩
    · intro oo hop LL xx ac sg hwant
      cases Option.some.inj hop
      have hG : (!((((lookV (mkC c) ps (now + m) x.who x.key x.body).2) == 1) || (((lookV (mkC c) ps (now + m) x.who x.key x.body).2) == 5)) && ((isGoodV c x.key (now + m)) && (u.body.toList == x.body.toList))) = false := (want_gt rfl rfl (sg.slot 15 (sg.anc 15 rfl))).symm.trans hwant
      exact ⟨cF hG, fun _ h => h⟩
    · intro oo hop LL xx ac sg hwant
      cases Option.some.inj hop
      have hG : (!((((lookV (mkC c) ps (now + m) x.who x.key x.body).2) == 1) || (((lookV (mkC c) ps (now + m) x.who x.key x.body).2) == 5))) = false := (want_f rfl rfl (sg.slot 6 (sg.anc 6 rfl))).symm.trans hwant
      exact ⟨cF hG, fun _ h => h⟩
    · intro oo hop LL xx ac sg hwant
      cases Option.some.inj hop
      have hG : (!(((((lookV (mkC c) ps (now + m) x.who x.key x.body).2) == 1) || (((lookV (mkC c) ps (now + m) x.who x.key x.body).2) == 5)) || (((isGoodV c x.key (now + m)) && (u.body.toList == x.body.toList)) && ((((lookV (mkC c) ps (now + m) x.who x.key x.body).2) != 2) || (!(((lookV (mkC c) ps (now + m) x.who x.key x.body).1).toList == (u.body ++ (⟨#[33]⟩ : ByteArray)).toList)))))) = false := (want_f rfl rfl (sg.slot 27 (sg.anc 27 rfl))).symm.trans hwant
      exact ⟨cF hG, fun _ h => h⟩
    · intro oo hop LL xx ac sg hwant
      cases Option.some.inj hop
      have hG : (!(((((lookV (mkC c) ps (now + m) x.who x.key x.body).2) == 1) || (((lookV (mkC c) ps (now + m) x.who x.key x.body).2) == 5)) || (((isGoodV c x.key (now + m)) && (u.body.toList == x.body.toList)) && ((((lookV (mkC c) ps (now + m) x.who x.key x.body).2) != 2) || (!(((lookV (mkC c) ps (now + m) x.who x.key x.body).1).toList == (u.body ++ (⟨#[33]⟩ : ByteArray)).toList)))))) = false := (want_f rfl rfl (sg.slot 27 (sg.anc 27 rfl))).symm.trans hwant
      exact ⟨cF hG, fun _ h => h⟩
    · intro oo hop LL xx ac sg hwant
      cases Option.some.inj hop
      have hG : (!(((((lookV (mkC c) ps (now + m) x.who x.key x.body).2) == 1) || (((lookV (mkC c) ps (now + m) x.who x.key x.body).2) == 5)) || (((isGoodV c x.key (now + m)) && (u.body.toList == x.body.toList)) && ((((lookV (mkC c) ps (now + m) x.who x.key x.body).2) != 2) || (!(((lookV (mkC c) ps (now + m) x.who x.key x.body).1).toList == (u.body ++ (⟨#[33]⟩ : ByteArray)).toList))))) && (isGoodV c x.key (now + m))) = false := (want_gt rfl rfl (sg.slot 29 (sg.anc 29 rfl))).symm.trans hwant
      exact ⟨cF hG, fun _ h => h⟩
    · intro oo hop LL xx ac sg hwant
      cases Option.some.inj hop
      have hG : (!(((((lookV (mkC c) ps (now + m) x.who x.key x.body).2) == 1) || (((lookV (mkC c) ps (now + m) x.who x.key x.body).2) == 5)) || (((isGoodV c x.key (now + m)) && (u.body.toList == x.body.toList)) && ((((lookV (mkC c) ps (now + m) x.who x.key x.body).2) != 2) || (!(((lookV (mkC c) ps (now + m) x.who x.key x.body).1).toList == (u.body ++ (⟨#[33]⟩ : ByteArray)).toList))))) && (isGoodV c x.key (now + m))) = false := (want_gt rfl rfl (sg.slot 29 (sg.anc 29 rfl))).symm.trans hwant
      exact ⟨cF hG, fun _ h => h⟩
    · intro oo hop LL xx ac sg hwant
      cases Option.some.inj hop
      have hG : (!(((((lookV (mkC c) ps (now + m) x.who x.key x.body).2) == 1) || (((lookV (mkC c) ps (now + m) x.who x.key x.body).2) == 5)) || (((isGoodV c x.key (now + m)) && (u.body.toList == x.body.toList)) && ((((lookV (mkC c) ps (now + m) x.who x.key x.body).2) != 2) || (!(((lookV (mkC c) ps (now + m) x.who x.key x.body).1).toList == (u.body ++ (⟨#[33]⟩ : ByteArray)).toList))))) && (isGoodV c x.key (now + m))) = false := (want_gt rfl rfl (sg.slot 29 (sg.anc 29 rfl))).symm.trans hwant
      exact ⟨cF hG, fun _ h => h⟩
    · intro oo hop LL xx ac sg hwant
      cases Option.some.inj hop
      have hG : (!(((((lookV (mkC c) ps (now + m) x.who x.key x.body).2) == 1) || (((lookV (mkC c) ps (now + m) x.who x.key x.body).2) == 5)) || (((isGoodV c x.key (now + m)) && (u.body.toList == x.body.toList)) && ((((lookV (mkC c) ps (now + m) x.who x.key x.body).2) != 2) || (!(((lookV (mkC c) ps (now + m) x.who x.key x.body).1).toList == (u.body ++ (⟨#[33]⟩ : ByteArray)).toList))))) && (isGoodV c x.key (now + m))) = false := (want_gt rfl rfl (sg.slot 29 (sg.anc 29 rfl))).symm.trans hwant
      exact ⟨cF hG, fun _ h => h⟩
    · intro oo hop LL xx ac sg hwant
      cases Option.some.inj hop
      have hG : (!(((((lookV (mkC c) ps (now + m) x.who x.key x.body).2) == 1) || (((lookV (mkC c) ps (now + m) x.who x.key x.body).2) == 5)) || (((isGoodV c x.key (now + m)) && (u.body.toList == x.body.toList)) && ((((lookV (mkC c) ps (now + m) x.who x.key x.body).2) != 2) || (!(((lookV (mkC c) ps (now + m) x.who x.key x.body).1).toList == (u.body ++ (⟨#[33]⟩ : ByteArray)).toList))))) && (isGoodV c x.key (now + m))) = false := (want_gt rfl rfl (sg.slot 29 (sg.anc 29 rfl))).symm.trans hwant
      exact ⟨cF hG, fun _ h => h⟩
    · intro oo hop LL xx ac sg hwant
      cases Option.some.inj hop
      have hG : (!(((((lookV (mkC c) ps (now + m) x.who x.key x.body).2) == 1) || (((lookV (mkC c) ps (now + m) x.who x.key x.body).2) == 5)) || (((isGoodV c x.key (now + m)) && (u.body.toList == x.body.toList)) && ((((lookV (mkC c) ps (now + m) x.who x.key x.body).2) != 2) || (!(((lookV (mkC c) ps (now + m) x.who x.key x.body).1).toList == (u.body ++ (⟨#[33]⟩ : ByteArray)).toList)))))) = false := (want_f rfl rfl (sg.slot 27 (sg.anc 27 rfl))).symm.trans hwant
      exact ⟨cF hG, fun _ h => h⟩
    · intro oo hop LL xx ac sg hwant
      cases Option.some.inj hop
      have hG : (!(((((lookV (mkC c) ps (now + m) x.who x.key x.body).2) == 1) || (((lookV (mkC c) ps (now + m) x.who x.key x.body).2) == 5)) || (((isGoodV c x.key (now + m)) && (u.body.toList == x.body.toList)) && ((((lookV (mkC c) ps (now + m) x.who x.key x.body).2) != 2) || (!(((lookV (mkC c) ps (now + m) x.who x.key x.body).1).toList == (u.body ++ (⟨#[33]⟩ : ByteArray)).toList)))))) = false := (want_f rfl rfl (sg.slot 27 (sg.anc 27 rfl))).symm.trans hwant
      exact ⟨cF hG, fun _ h => h⟩
    · intro oo hop LL xx ac sg hwant
      cases Option.some.inj hop
      have hG : (!(((((lookV (mkC c) ps (now + m) x.who x.key x.body).2) == 1) || (((lookV (mkC c) ps (now + m) x.who x.key x.body).2) == 5)) || (((isGoodV c x.key (now + m)) && (u.body.toList == x.body.toList)) && ((((lookV (mkC c) ps (now + m) x.who x.key x.body).2) != 2) || (!(((lookV (mkC c) ps (now + m) x.who x.key x.body).1).toList == (u.body ++ (⟨#[33]⟩ : ByteArray)).toList))))) && ((isGoodV c x.key (now + m)) && (!(u.body.toList == x.body.toList)))) = false := (want_gt rfl rfl (sg.slot 36 (sg.anc 36 rfl))).symm.trans hwant
      exact ⟨cF hG, fun _ h => h⟩
    · intro oo hop LL xx ac sg hwant
      cases Option.some.inj hop
      have hG : (!(((((lookV (mkC c) ps (now + m) x.who x.key x.body).2) == 1) || (((lookV (mkC c) ps (now + m) x.who x.key x.body).2) == 5)) || (((isGoodV c x.key (now + m)) && (u.body.toList == x.body.toList)) && ((((lookV (mkC c) ps (now + m) x.who x.key x.body).2) != 2) || (!(((lookV (mkC c) ps (now + m) x.who x.key x.body).1).toList == (u.body ++ (⟨#[33]⟩ : ByteArray)).toList))))) && ((isGoodV c x.key (now + m)) && (!(u.body.toList == x.body.toList)))) = false := (want_gt rfl rfl (sg.slot 36 (sg.anc 36 rfl))).symm.trans hwant
      exact ⟨cF hG, fun _ h => h⟩
    · intro oo hop LL xx ac sg hwant
      cases Option.some.inj hop
      have hG : (!(((((lookV (mkC c) ps (now + m) x.who x.key x.body).2) == 1) || (((lookV (mkC c) ps (now + m) x.who x.key x.body).2) == 5)) || (((isGoodV c x.key (now + m)) && (u.body.toList == x.body.toList)) && ((((lookV (mkC c) ps (now + m) x.who x.key x.body).2) != 2) || (!(((lookV (mkC c) ps (now + m) x.who x.key x.body).1).toList == (u.body ++ (⟨#[33]⟩ : ByteArray)).toList)))))) = false := (want_f rfl rfl (sg.slot 27 (sg.anc 27 rfl))).symm.trans hwant
      exact ⟨cF hG, fun _ h => h⟩
    · intro oo hop LL xx ac sg hwant
      cases Option.some.inj hop
      have hG : (!((((((lookV (mkC c) ps (now + m) x.who x.key x.body).2) == 1) || (((lookV (mkC c) ps (now + m) x.who x.key x.body).2) == 5)) || (((isGoodV c x.key (now + m)) && (u.body.toList == x.body.toList)) && ((((lookV (mkC c) ps (now + m) x.who x.key x.body).2) != 2) || (!(((lookV (mkC c) ps (now + m) x.who x.key x.body).1).toList == (u.body ++ (⟨#[33]⟩ : ByteArray)).toList))))) || (((isGoodV c x.key (now + m)) && (!(u.body.toList == x.body.toList))) && (((lookV (mkC c) ps (now + m) x.who x.key x.body).2) != 3)))) = false := (want_f rfl rfl (sg.slot 41 (sg.anc 41 rfl))).symm.trans hwant
      exact ⟨cF hG, fun _ h => h⟩
    · intro oo hop LL xx ac sg hwant
      cases Option.some.inj hop
      have hG : (!((((((lookV (mkC c) ps (now + m) x.who x.key x.body).2) == 1) || (((lookV (mkC c) ps (now + m) x.who x.key x.body).2) == 5)) || (((isGoodV c x.key (now + m)) && (u.body.toList == x.body.toList)) && ((((lookV (mkC c) ps (now + m) x.who x.key x.body).2) != 2) || (!(((lookV (mkC c) ps (now + m) x.who x.key x.body).1).toList == (u.body ++ (⟨#[33]⟩ : ByteArray)).toList))))) || (((isGoodV c x.key (now + m)) && (!(u.body.toList == x.body.toList))) && (((lookV (mkC c) ps (now + m) x.who x.key x.body).2) != 3)))) = false := (want_f rfl rfl (sg.slot 41 (sg.anc 41 rfl))).symm.trans hwant
      exact ⟨cF hG, fun _ h => h⟩
    · intro oo hop LL xx ac sg hwant
      cases Option.some.inj hop
      have hG : (!((((((lookV (mkC c) ps (now + m) x.who x.key x.body).2) == 1) || (((lookV (mkC c) ps (now + m) x.who x.key x.body).2) == 5)) || (((isGoodV c x.key (now + m)) && (u.body.toList == x.body.toList)) && ((((lookV (mkC c) ps (now + m) x.who x.key x.body).2) != 2) || (!(((lookV (mkC c) ps (now + m) x.who x.key x.body).1).toList == (u.body ++ (⟨#[33]⟩ : ByteArray)).toList))))) || (((isGoodV c x.key (now + m)) && (!(u.body.toList == x.body.toList))) && (((lookV (mkC c) ps (now + m) x.who x.key x.body).2) != 3)))) = false := (want_f rfl rfl (sg.slot 41 (sg.anc 41 rfl))).symm.trans hwant
      exact ⟨cF hG, fun _ h => h⟩
    · intro oo hop LL xx ac sg hwant
      cases Option.some.inj hop
      have hG : (!((((((lookV (mkC c) ps (now + m) x.who x.key x.body).2) == 1) || (((lookV (mkC c) ps (now + m) x.who x.key x.body).2) == 5)) || (((isGoodV c x.key (now + m)) && (u.body.toList == x.body.toList)) && ((((lookV (mkC c) ps (now + m) x.who x.key x.body).2) != 2) || (!(((lookV (mkC c) ps (now + m) x.who x.key x.body).1).toList == (u.body ++ (⟨#[33]⟩ : ByteArray)).toList))))) || (((isGoodV c x.key (now + m)) && (!(u.body.toList == x.body.toList))) && (((lookV (mkC c) ps (now + m) x.who x.key x.body).2) != 3))) && (!(isGoodV c x.key (now + m)))) = false := (want_gt rfl rfl (sg.slot 44 (sg.anc 44 rfl))).symm.trans hwant
      exact ⟨cF hG, fun _ h => h⟩
    · intro oo hop LL xx ac sg hwant
      cases Option.some.inj hop
      have hG : (!((((((lookV (mkC c) ps (now + m) x.who x.key x.body).2) == 1) || (((lookV (mkC c) ps (now + m) x.who x.key x.body).2) == 5)) || (((isGoodV c x.key (now + m)) && (u.body.toList == x.body.toList)) && ((((lookV (mkC c) ps (now + m) x.who x.key x.body).2) != 2) || (!(((lookV (mkC c) ps (now + m) x.who x.key x.body).1).toList == (u.body ++ (⟨#[33]⟩ : ByteArray)).toList))))) || (((isGoodV c x.key (now + m)) && (!(u.body.toList == x.body.toList))) && (((lookV (mkC c) ps (now + m) x.who x.key x.body).2) != 3))) && (!(isGoodV c x.key (now + m)))) = false := (want_gt rfl rfl (sg.slot 44 (sg.anc 44 rfl))).symm.trans hwant
      exact ⟨cF hG, fun _ h => h⟩
    · intro oo hop LL xx ac sg hwant
      cases Option.some.inj hop
      have hG : (!((((((lookV (mkC c) ps (now + m) x.who x.key x.body).2) == 1) || (((lookV (mkC c) ps (now + m) x.who x.key x.body).2) == 5)) || (((isGoodV c x.key (now + m)) && (u.body.toList == x.body.toList)) && ((((lookV (mkC c) ps (now + m) x.who x.key x.body).2) != 2) || (!(((lookV (mkC c) ps (now + m) x.who x.key x.body).1).toList == (u.body ++ (⟨#[33]⟩ : ByteArray)).toList))))) || (((isGoodV c x.key (now + m)) && (!(u.body.toList == x.body.toList))) && (((lookV (mkC c) ps (now + m) x.who x.key x.body).2) != 3)))) = false := (want_f rfl rfl (sg.slot 41 (sg.anc 41 rfl))).symm.trans hwant
      exact ⟨cF hG, fun _ h => h⟩
  · intro xx ac1 wz hfr hsl hst
    exact hfin ac1 wz (hfr.size.trans hz) hfr.defers (fr_keep hfr [86, 87, 88, 89, 90, 91, 92, 93, 94, 95, 96, 97, 98, 99, 100, 101, 102, 103, 104, 105, 106, 107, 108, 109, 110, 111, 112, 113, 114, 115, 116, 117, 118, 119, 120, 121, 122, 123, 124, 125, 126, 127, 128, 129, 130, 131, 132, 133, 134] (by kernel_rfl)) (hsl 48 (by decide)) (Lib.hid hst)
set_option maxRecDepth 20000 in
theorem once_w_r16x1 (c : Cfg) (rc : Nat) (acts : List ActK) (b2 : Nat) (b5 : Nat) (i : Nat) (a : Option Addr) (cc : Nat) (ps : List PairV) (now : Int) (cd : Nat) (ds : List ActK) (hi : i ≤ acts.length) (hi2 : i ≤ 80) (hl : ps.length ≤ i) (hd : ds.length ≤ i) (hn0 : 0 ≤ now) (hn1 : now ≤ 3 * i) (z1ld : i < acts.length) (z1rd : (i : Int) < 80) (y : Addr) (x : ActK) (hk0 : 0 ≤ x.key) (hk1 : x.key ≤ 18446744073709551615) (b9 : Nat) (z2d : ¬ (40 < (x.body.size : Int))) (m : Nat) (hm1 : m ≤ 3) (hm : IntKind.i64.wrap ((IntKind.u64.wrap x.now).tmod 4) = (m : Int)) (hm0 : now ≤ now + m) (hxb : x.body.size ≤ 40) (hfl : (ps.filter (keepB (mkC c) (now + m))).length ≤ i) (j : Nat) (hj0 : j ≤ ds.length) (z3d : j < ds.length) (yd : Addr) (u : ActK) (hub : u.body.size ≤ 40) (b13 : Nat) {wa wb : World} (H : Hid (Hp [] wa wb [rB b13 87 [.int .i64 u.kind, .int .i64 u.now, .int .i64 u.who, .int .u64 u.key, .string u.body], rB b9 87 [.int .i64 x.kind, .int .i64 x.now, .int .i64 x.who, .int .u64 x.key, .string x.body], rA (some yd) cd 87 5 (ds.map actRow), rB b5 84 (kL (mkC c) (mkR c) (.slice a ps.length cc)), rB b2 24 (cL c), rS a cc 4 (ps.map rowOf), rS (some y) rc 5 (acts.map actRow)])) (ac0 : Act) (hz : ac0.tmps.size = 192) (so12 : ac0.eval (.tmp 12) = .int .i64 j) {QR : Exit → Act → World → Prop} (hfin : ∀ (ac1 : Act) (wz : World), ac1.tmps.size = 192 → ac1.defers = ac0.defers → (∀ t, ([12, 63, 64] : List Nat).contains t = false → ac1.eval (.tmp t) = ac0.eval (.tmp t)) → ac1.eval (.tmp 12) = .int .i64 (j + 1) →  Hid (Hp [] wa wz [rB b13 87 [.int .i64 u.kind, .int .i64 u.now, .int .i64 u.who, .int .u64 u.key, .string u.body], rB b9 87 [.int .i64 x.kind, .int .i64 x.now, .int .i64 x.who, .int .u64 x.key, .string x.body], rA (some yd) cd 87 5 (ds.map actRow), rB b5 84 (kL (mkC c) (mkR c) (.slice a ps.length cc)), rB b2 24 (cL c), rS a cc 4 (ps.map rowOf), rS (some y) rc 5 (acts.map actRow)]) → QR .normal ac1 wz) : (regAt Try.f10 16).wp Try.prog QR ac0 wb := by
  refine wp_region_sq (by kernel_rfl) 192 hz (by kernel_rfl) (fun (xx : Unit) jx => nth [.int .i64 j, .int .i64 (j + 1), .int .i64 (j + 1)] jx) (fun (LL : Nat → Bool) (xx : Unit) ww => Hp [] wa ww [rB b13 87 [.int .i64 u.kind, .int .i64 u.now, .int .i64 u.who, .int .u64 u.key, .string u.body], rB b9 87 [.int .i64 x.kind, .int .i64 x.now, .int .i64 x.who, .int .u64 x.key, .string x.body], rA (some yd) cd 87 5 (ds.map actRow), rB b5 84 (kL (mkC c) (mkR c) (.slice a ps.length cc)), rB b2 24 (cL c), rS a cc 4 (ps.map rowOf), rS (some y) rc 5 (acts.map actRow)]) () H.out ?_ (steps_al ?_) ?_ ?_
  · exact fun _ _ _ _ _ h => h
  · refine al_cons ?_ (al_cons ?_ (al_cons ?_ (al_nil)))
    · intro LL xx ac wc sg hst hwant QQ hgo
      exact op_val hwant hgo hst _ (exec_move rfl ((sg.yet 12 2 (sg.des 2 rfl) (by kernel_rfl)).trans so12)) rfl
    · intro LL xx ac wc sg hst hwant QQ hgo
      have se63 : ac.eval (.tmp 63) = _ := (sg.slot 0 (sg.anc 0 rfl))
      have sg63 := gt_of se63
      (try simp only [nth] at se63 sg63)
      have hnw : IntKind.i64.wrap (j + 1 : Int) = j + 1 := IntWalk.i64_in _ (by omega)
      exact op_val hwant hgo hst _ (by simp only [execOp, nth]; go_simp <;> omega) rfl
    · intro LL xx ac wc sg hst hwant QQ hgo
      exact op_val hwant hgo hst _ (exec_assign rfl (sg.slot 1 (sg.anc 1 rfl))) rfl
  · exact skips [] (by kernel_rfl) (fun _ h => by cases h)
  · intro xx ac1 wz hfr hsl hst
    exact hfin ac1 wz (hfr.size.trans hz) hfr.defers (fr_keep hfr [12, 63, 64] (by kernel_rfl)) (hsl 2 (by decide)) (Lib.hid hst)
set_option maxRecDepth 20000 in
theorem once_w_r22 (c : Cfg) (rc : Nat) (acts : List ActK) (b2 : Nat) (b5 : Nat) (i : Nat) (a : Option Addr) (cc : Nat) (ps : List PairV) (now : Int) (ad : Option Addr) (cd : Nat) (ds : List ActK) (hi : i ≤ acts.length) (hi2 : i ≤ 80) (hl : ps.length ≤ i) (hd : ds.length ≤ i) (hs : Hid (Sorted ps)) (hn0 : 0 ≤ now) (hn1 : now ≤ 3 * i) (z1ld : i < acts.length) (z1rd : (i : Int) < 80) (y : Addr) (x : ActK) (hk0 : 0 ≤ x.key) (hk1 : x.key ≤ 18446744073709551615) (b9 : Nat) (z2d : ¬ (40 < (x.body.size : Int))) (m : Nat) (hm1 : m ≤ 3) (hm : IntKind.i64.wrap ((IntKind.u64.wrap x.now).tmod 4) = (m : Int)) (hm0 : now ≤ now + m) (hxb : x.body.size ≤ 40) (hfl : (ps.filter (keepB (mkC c) (now + m))).length ≤ i) (j : Nat) (hj0 : j ≤ ds.length) (z3d : ¬ (j < ds.length)) (y6 : ((lookV (mkC c) ps (now + m) x.who x.key x.body).2 != 1) = true) {wa wb : World} (H : Hid (Hp [] wa wb [rB b9 87 [.int .i64 x.kind, .int .i64 x.now, .int .i64 x.who, .int .u64 x.key, .string x.body], rA ad cd 87 5 (ds.map actRow), rB b5 84 (kL (mkC c) (mkR c) (.slice a ps.length cc)), rB b2 24 (cL c), rS a cc 4 (ps.map rowOf), rS (some y) rc 5 (acts.map actRow)])) (ac0 : Act) (hz : ac0.tmps.size = 192) (so5 : ac0.eval (.tmp 5) = .pointer (some ⟨b5, 0, none⟩)) (so6 : ac0.eval (.tmp 6) = .int .i64 (now + m)) (so9 : ac0.eval (.tmp 9) = .pointer (some ⟨b9, 0, none⟩)) {QR : Exit → Act → World → Prop} (hfin : ∀ (b15 : Nat) (ac1 : Act) (wz : World), ac1.tmps.size = 192 → ac1.defers = ac0.defers → (∀ t, ([15, 16, 135, 136, 137, 138, 139, 140, 141, 142, 143, 144, 145, 146, 147, 148, 149] : List Nat).contains t = false → ac1.eval (.tmp t) = ac0.eval (.tmp t)) → ac1.eval (.tmp 15) = .pointer (some ⟨b15, 0, none⟩) → ac1.eval (.tmp 16) = .int .i64 7 →  Hid (Hp [] wa wz [rB b15 84 [.int .i64 0, .int .i64 0, .int .i64 0, .int .i64 0, .int .i64 0, .int .i64 0, .int .i64 0, .int .i64 0, .int .i64 0, .int .i64 0, .int .i64 0, .int .i64 0, .int .i64 0, .int .i64 0, .int .i64 0, .int .i64 0, .int .i64 0, .int .u32 0, .int .i64 0, .slice none 0 0], rB b9 87 [.int .i64 x.kind, .int .i64 x.now, .int .i64 x.who, .int .u64 x.key, .string x.body], rA ad cd 87 5 (ds.map actRow), rB b5 84 (kL (mkC c) (mkR c) (.slice a ps.length cc)), rB b2 24 (cL c), rS a cc 4 (ps.map rowOf), rS (some y) rc 5 (acts.map actRow)]) → QR .normal ac1 wz) : (regAt Try.f10 22).wp Try.prog QR ac0 wb := by
  refine wp_region_sq (by kernel_rfl) 192 hz (by kernel_rfl) (fun (xx : Nat) jx => match xx with | b15 => nth [.agg (kA (mkC c) (mkR c) (.slice a ps.length cc)), .int .i64 (now + m), .pointer (some ⟨b9, 2, none⟩), .int .i64 x.who, .pointer (some ⟨b9, 3, none⟩), .int .u64 x.key, .pointer (some ⟨b9, 4, none⟩), .string x.body, .pointer (some ⟨b9, 4, none⟩), .string x.body, .string (x.body ++ (⟨#[33]⟩ : ByteArray)), .tuple #[.agg #[.int .i64 0, .int .i64 0, .int .i64 0, .int .i64 0, .int .i64 0, .int .i64 0, .int .i64 0, .int .i64 0, .int .i64 0, .int .i64 0, .int .i64 0, .int .i64 0, .int .i64 0, .int .i64 0, .int .i64 0, .int .i64 0, .int .i64 0, .int .u32 0, .int .i64 0, .slice none 0 0], .int .i64 7], .tuple #[.agg #[.int .i64 0, .int .i64 0, .int .i64 0, .int .i64 0, .int .i64 0, .int .i64 0, .int .i64 0, .int .i64 0, .int .i64 0, .int .i64 0, .int .i64 0, .int .i64 0, .int .i64 0, .int .i64 0, .int .i64 0, .int .i64 0, .int .i64 0, .int .u32 0, .int .i64 0, .slice none 0 0], .int .i64 7], .agg #[.int .i64 0, .int .i64 0, .int .i64 0, .int .i64 0, .int .i64 0, .int .i64 0, .int .i64 0, .int .i64 0, .int .i64 0, .int .i64 0, .int .i64 0, .int .i64 0, .int .i64 0, .int .i64 0, .int .i64 0, .int .i64 0, .int .i64 0, .int .u32 0, .int .i64 0, .slice none 0 0], .int .i64 7, .pointer (some ⟨b15, 0, none⟩), undef, .int .i64 7] jx) (fun (LL : Nat → Bool) (xx : Nat) ww => match xx with | b15 => Hp [] wa ww (bif LL 16 then [rB b15 84 [.int .i64 0, .int .i64 0, .int .i64 0, .int .i64 0, .int .i64 0, .int .i64 0, .int .i64 0, .int .i64 0, .int .i64 0, .int .i64 0, .int .i64 0, .int .i64 0, .int .i64 0, .int .i64 0, .int .i64 0, .int .i64 0, .int .i64 0, .int .u32 0, .int .i64 0, .slice none 0 0], rB b9 87 [.int .i64 x.kind, .int .i64 x.now, .int .i64 x.who, .int .u64 x.key, .string x.body], rA ad cd 87 5 (ds.map actRow), rB b5 84 (kL (mkC c) (mkR c) (.slice a ps.length cc)), rB b2 24 (cL c), rS a cc 4 (ps.map rowOf), rS (some y) rc 5 (acts.map actRow)] else (bif LL 15 then [rB b15 84 [.int .i64 0, .int .i64 0, .int .i64 0, .int .i64 0, .int .i64 0, .int .i64 0, .int .i64 0, .int .i64 0, .int .i64 0, .int .i64 0, .int .i64 0, .int .i64 0, .int .i64 0, .int .i64 0, .int .i64 0, .int .i64 0, .int .i64 0, .int .u32 0, .int .i64 0, .slice none 0 0], rB b9 87 [.int .i64 x.kind, .int .i64 x.now, .int .i64 x.who, .int .u64 x.key, .string x.body], rA ad cd 87 5 (ds.map actRow), rB b5 84 (kL (mkC c) (mkR c) (.slice a ps.length cc)), rB b2 24 (cL c), rS a cc 4 (ps.map rowOf), rS (some y) rc 5 (acts.map actRow)] else [rB b9 87 [.int .i64 x.kind, .int .i64 x.now, .int .i64 x.who, .int .u64 x.key, .string x.body], rA ad cd 87 5 (ds.map actRow), rB b5 84 (kL (mkC c) (mkR c) (.slice a ps.length cc)), rB b2 24 (cL c), rS a cc 4 (ps.map rowOf), rS (some y) rc 5 (acts.map actRow)]))) default H.out ?_ (steps_al ?_) ?_ ?_
  · intro L1 L2 xx ww hL sg
    have lh15 := hL 15 (by decide)
    have lh16 := hL 16 (by decide)
    simp only [lh15, lh16] at sg
    exact sg
  · refine al_cons ?_ (al_cons ?_ (al_cons ?_ (al_cons ?_ (al_cons ?_ (al_cons ?_ (al_cons ?_ (al_cons ?_ (al_cons ?_ (al_cons ?_ (al_cons ?_ (al_cons ?_ (al_cons ?_ (al_cons ?_ (al_cons ?_ (al_cons ?_ (al_cons ?_ (al_cons ?_ (al_nil))))))))))))))))))
    · intro LL xx ac wc sg hst hwant QQ hgo
      revert sg hst hgo; revert xx; intro b15 sg hst hgo
      have H := Lib.hid hst
      simp only [sg.des 15 rfl, sg.des 16 rfl, cond_true, cond_false] at H
      refine hpA_load tykeys_Keys H rfl ((sg.free 5 (by kernel_rfl)).trans so5) hwant (by (repeat (first | exact List.Mem.head _ | apply List.Mem.tail))) (by rfl) rfl ?_
      exact hgo _ b15 _ (fun _ _ => rfl) rfl hst
    · intro LL xx ac wc sg hst hwant QQ hgo
      revert sg hst hgo; revert xx; intro b15 sg hst hgo
      exact op_val hwant hgo hst _ (exec_move rfl ((sg.free 6 (by kernel_rfl)).trans so6)) rfl
    · intro LL xx ac wc sg hst hwant QQ hgo
      revert sg hst hgo; revert xx; intro b15 sg hst hgo
      have se9 : ac.eval (.tmp 9) = _ := ((sg.free 9 (by kernel_rfl)).trans so9)
      have sg9 := gt_of se9
      exact op_val hwant hgo hst _ (by simp only [execOp, nth]; go_simp <;> omega) rfl
    · intro LL xx ac wc sg hst hwant QQ hgo
      revert sg hst hgo; revert xx; intro b15 sg hst hgo
      have H := Lib.hid hst
      simp only [sg.des 15 rfl, sg.des 16 rfl, cond_true, cond_false] at H
      refine hpA_load1 tyint H rfl (sg.slot 2 (sg.anc 2 rfl)) hwant (by (repeat (first | exact List.Mem.head _ | apply List.Mem.tail))) (by rfl) ?_
      exact hgo _ b15 _ (fun _ _ => rfl) rfl hst
    · intro LL xx ac wc sg hst hwant QQ hgo
      revert sg hst hgo; revert xx; intro b15 sg hst hgo
      have se9 : ac.eval (.tmp 9) = _ := ((sg.free 9 (by kernel_rfl)).trans so9)
      have sg9 := gt_of se9
      exact op_val hwant hgo hst _ (by simp only [execOp, nth]; go_simp <;> omega) rfl
    · intro LL xx ac wc sg hst hwant QQ hgo
      revert sg hst hgo; revert xx; intro b15 sg hst hgo
      have H := Lib.hid hst
      simp only [sg.des 15 rfl, sg.des 16 rfl, cond_true, cond_false] at H
      refine hpA_load1 tyuint64 H rfl (sg.slot 4 (sg.anc 4 rfl)) hwant (by (repeat (first | exact List.Mem.head _ | apply List.Mem.tail))) (by rfl) ?_
      exact hgo _ b15 _ (fun _ _ => rfl) rfl hst
    · intro LL xx ac wc sg hst hwant QQ hgo
      revert sg hst hgo; revert xx; intro b15 sg hst hgo
      have se9 : ac.eval (.tmp 9) = _ := ((sg.free 9 (by kernel_rfl)).trans so9)
      have sg9 := gt_of se9
      exact op_val hwant hgo hst _ (by simp only [execOp, nth]; go_simp <;> omega) rfl
    · intro LL xx ac wc sg hst hwant QQ hgo
      revert sg hst hgo; revert xx; intro b15 sg hst hgo
      have H := Lib.hid hst
      simp only [sg.des 15 rfl, sg.des 16 rfl, cond_true, cond_false] at H
      refine hpA_load1 tystring H rfl (sg.slot 6 (sg.anc 6 rfl)) hwant (by (repeat (first | exact List.Mem.head _ | apply List.Mem.tail))) (by rfl) ?_
      exact hgo _ b15 _ (fun _ _ => rfl) rfl hst
    · intro LL xx ac wc sg hst hwant QQ hgo
      revert sg hst hgo; revert xx; intro b15 sg hst hgo
      have se9 : ac.eval (.tmp 9) = _ := ((sg.free 9 (by kernel_rfl)).trans so9)
      have sg9 := gt_of se9
      exact op_val hwant hgo hst _ (by simp only [execOp, nth]; go_simp <;> omega) rfl
    · intro LL xx ac wc sg hst hwant QQ hgo
      revert sg hst hgo; revert xx; intro b15 sg hst hgo
      have H := Lib.hid hst
      simp only [sg.des 15 rfl, sg.des 16 rfl, cond_true, cond_false] at H
      refine hpA_load1 tystring H rfl (sg.slot 8 (sg.anc 8 rfl)) hwant (by (repeat (first | exact List.Mem.head _ | apply List.Mem.tail))) (by rfl) ?_
      exact hgo _ b15 _ (fun _ _ => rfl) rfl hst
    · intro LL xx ac wc sg hst hwant QQ hgo
      revert sg hst hgo; revert xx; intro b15 sg hst hgo
      have se145 : ac.eval (.tmp 145) = _ := (sg.slot 9 (sg.anc 9 rfl))
      have sg145 := gt_of se145
      (try simp only [nth] at se145 sg145)
      exact op_val hwant hgo hst _ (by simp only [execOp, nth]; go_simp <;> omega) rfl
    · intro LL xx ac wc sg hst hwant QQ hgo
      revert sg hst hgo; revert xx; intro b15 sg hst hgo
      have se136 : ac.eval (.tmp 136) = _ := (sg.slot 0 (sg.anc 0 rfl))
      have sg136 := gt_of se136
      have se137 : ac.eval (.tmp 137) = _ := (sg.slot 1 (sg.anc 1 rfl))
      have sg137 := gt_of se137
      have se139 : ac.eval (.tmp 139) = _ := (sg.slot 3 (sg.anc 3 rfl))
      have sg139 := gt_of se139
      have se141 : ac.eval (.tmp 141) = _ := (sg.slot 5 (sg.anc 5 rfl))
      have sg141 := gt_of se141
      have se143 : ac.eval (.tmp 143) = _ := (sg.slot 7 (sg.anc 7 rfl))
      have sg143 := gt_of se143
      have se146 : ac.eval (.tmp 146) = _ := (sg.slot 10 (sg.anc 10 rfl))
      have sg146 := gt_of se146
      (try simp only [nth] at se136 sg136 se137 sg137 se139 sg139 se141 sg141 se143 sg143 se146 sg146)
      have H := Lib.hid hst
      simp only [sg.des 15 rfl, sg.des 16 rfl, cond_true, cond_false] at H
      refine op_call hwant hgo 50 _ (by simp only [execOp]; go_simp) (withNo (mkC c) (mkR c) a cc ps (now + m) x.who x.key x.body (x.body ++ (⟨#[33]⟩ : ByteArray)) wc (hp_held H (by (repeat (first | exact List.Mem.head _ | apply List.Mem.tail)))) hk0 hk1 hs (by omega) y6) ?_
      rintro er wd ⟨rfl, hof⟩
      exact ⟨_, b15, rfl, fun _ _ => rfl, rfl, Hp.quiet hst hof⟩
    · intro LL xx ac wc sg hst hwant QQ hgo
      revert sg hst hgo; revert xx; intro b15 sg hst hgo
      exact op_val hwant hgo hst _ (exec_move rfl (sg.slot 11 (sg.anc 11 rfl))) rfl
    · intro LL xx ac wc sg hst hwant QQ hgo
      revert sg hst hgo; revert xx; intro b15 sg hst hgo
      have se135 : ac.eval (.tmp 135) = _ := (sg.slot 12 (sg.anc 12 rfl))
      have sg135 := gt_of se135
      (try simp only [nth] at se135 sg135)
      exact op_val hwant hgo hst _ (by simp only [execOp, nth]; go_simp <;> omega) rfl
    · intro LL xx ac wc sg hst hwant QQ hgo
      revert sg hst hgo; revert xx; intro b15 sg hst hgo
      have se135 : ac.eval (.tmp 135) = _ := (sg.slot 12 (sg.anc 12 rfl))
      have sg135 := gt_of se135
      (try simp only [nth] at se135 sg135)
      exact op_val hwant hgo hst _ (by simp only [execOp, nth]; go_simp <;> omega) rfl
    · intro LL xx ac wc sg hst hwant QQ hgo
      revert sg hst hgo; revert xx; intro xold sg hst hgo
      have H := Lib.hid hst
      simp only [sg.self, sg.des 16 rfl, cond_true, cond_false] at H
      refine hpA_alloc tykeys_Keys H rfl rfl ?_
      intro wd b15 H2
      exact hgo _ b15 _ (sg.agree (x' := b15) (n := 18) rfl (by (iterate 18 (refine ix_cons (by first | exact fun _ => rfl | exact no sg.self | exact no (sg.des _ rfl)) ?_)); exact ix_nil)) rfl (by simp only [(show upd LL 15 15 = true from rfl), (show upd LL 15 16 = LL 16 from rfl), sg.des 16 rfl, cond_true, cond_false]; exact H2.out)
    · intro LL xx ac wc sg hst hwant QQ hgo
      revert sg hst hgo; revert xx; intro b15 sg hst hgo
      have H := Lib.hid hst
      simp only [sg.anc 15 rfl, sg.self, cond_true, cond_false] at H
      refine hpA_store tykeys_Keys H rfl rfl (sg.slot 15 (sg.anc 15 rfl)) (sg.slot 13 (sg.anc 13 rfl)) rfl (by repeat (first | apply Put.head | apply Put.tail)) (by simp [kA, kL, rkA, rkL, cA, cL]) (by simp [kA, kL, rkA, rkL, cA, cL, Value.oneCell']) (by first | rfl | (simp only [spl]; rfl)) rfl ?_
      intro wd H2
      exact hgo _ b15 _ (sg.agree (x' := b15) (n := 18) rfl (by (iterate 18 (refine ix_cons (by first | exact fun _ => rfl | exact no sg.self | exact no (sg.des _ rfl)) ?_)); exact ix_nil)) rfl (by simp only [(show upd LL 16 15 = LL 15 from rfl), sg.anc 15 rfl, (show upd LL 16 16 = true from rfl), cond_true, cond_false]; exact H2.out)
    · intro LL xx ac wc sg hst hwant QQ hgo
      revert sg hst hgo; revert xx; intro b15 sg hst hgo
      exact op_val hwant hgo hst _ (exec_assign rfl (sg.slot 14 (sg.anc 14 rfl))) rfl
  · exact skips [] (by kernel_rfl) (fun _ h => by cases h)
  · intro xx ac1 wz hfr hsl hst
    revert hsl hst; revert xx; intro b15 hsl hst
    exact hfin b15 ac1 wz (hfr.size.trans hz) hfr.defers (fr_keep hfr [15, 16, 135, 136, 137, 138, 139, 140, 141, 142, 143, 144, 145, 146, 147, 148, 149] (by kernel_rfl)) (hsl 15 (by decide)) (hsl 17 (by decide)) (Lib.hid hst)
set_option maxRecDepth 20000 in
theorem once_w_r23 (c : Cfg) (rc : Nat) (acts : List ActK) (b2 : Nat) (b5 : Nat) (i : Nat) (a : Option Addr) (cc : Nat) (ps : List PairV) (now : Int) (ad : Option Addr) (cd : Nat) (ds : List ActK) (hi : i ≤ acts.length) (hi2 : i ≤ 80) (hl : ps.length ≤ i) (hd : ds.length ≤ i) (hn0 : 0 ≤ now) (hn1 : now ≤ 3 * i) (z1ld : i < acts.length) (z1rd : (i : Int) < 80) (y : Addr) (x : ActK) (hk0 : 0 ≤ x.key) (hk1 : x.key ≤ 18446744073709551615) (b9 : Nat) (z2d : ¬ (40 < (x.body.size : Int))) (m : Nat) (hm1 : m ≤ 3) (hm : IntKind.i64.wrap ((IntKind.u64.wrap x.now).tmod 4) = (m : Int)) (hm0 : now ≤ now + m) (hxb : x.body.size ≤ 40) (hfl : (ps.filter (keepB (mkC c) (now + m))).length ≤ i) (j : Nat) (hj0 : j ≤ ds.length) (z3d : ¬ (j < ds.length)) (y6o : ((lookV (mkC c) ps (now + m) x.who x.key x.body).2 == 1) = false) (b15 : Nat) {wa wb : World} (H : Hid (Hp [] wa wb [rB b15 84 [.int .i64 0, .int .i64 0, .int .i64 0, .int .i64 0, .int .i64 0, .int .i64 0, .int .i64 0, .int .i64 0, .int .i64 0, .int .i64 0, .int .i64 0, .int .i64 0, .int .i64 0, .int .i64 0, .int .i64 0, .int .i64 0, .int .i64 0, .int .u32 0, .int .i64 0, .slice none 0 0], rB b9 87 [.int .i64 x.kind, .int .i64 x.now, .int .i64 x.who, .int .u64 x.key, .string x.body], rA ad cd 87 5 (ds.map actRow), rB b5 84 (kL (mkC c) (mkR c) (.slice a ps.length cc)), rB b2 24 (cL c), rS a cc 4 (ps.map rowOf), rS (some y) rc 5 (acts.map actRow)])) (ac0 : Act) (hz : ac0.tmps.size = 192) (so2 : ac0.eval (.tmp 2) = .pointer (some ⟨b2, 0, none⟩)) (so5 : ac0.eval (.tmp 5) = .pointer (some ⟨b5, 0, none⟩)) (so6 : ac0.eval (.tmp 6) = .int .i64 (now + m)) (so11 : ac0.eval (.tmp 11) = .int .i64 ((lookV (mkC c) ps (now + m) x.who x.key x.body).2)) (so16 : ac0.eval (.tmp 16) = .int .i64 7) {QR : Exit → Act → World → Prop} (hfin : ∀ (ac1 : Act) (wz : World), ac1.tmps.size = 192 → ac1.defers = ac0.defers → (∀ t, ([150, 151, 152, 153, 154, 155, 156, 157, 158, 159, 160, 161, 162, 163, 164, 165, 166, 167, 168] : List Nat).contains t = false → ac1.eval (.tmp t) = ac0.eval (.tmp t)) → ac1.eval (.tmp 168) = .bool ((decide (c.keys < ((ps.filter (keepB (mkC c) (now + m))).length : Int))) && (((ps.filter (keepB (mkC c) (now + m))).length : Int) != 0)) →  Hid (Hp [] wa wz [rB b15 84 [.int .i64 0, .int .i64 0, .int .i64 0, .int .i64 0, .int .i64 0, .int .i64 0, .int .i64 0, .int .i64 0, .int .i64 0, .int .i64 0, .int .i64 0, .int .i64 0, .int .i64 0, .int .i64 0, .int .i64 0, .int .i64 0, .int .i64 0, .int .u32 0, .int .i64 0, .slice none 0 0], rB b9 87 [.int .i64 x.kind, .int .i64 x.now, .int .i64 x.who, .int .u64 x.key, .string x.body], rA ad cd 87 5 (ds.map actRow), rB b5 84 (kL (mkC c) (mkR c) (.slice a ps.length cc)), rB b2 24 (cL c), rS a cc 4 (ps.map rowOf), rS (some y) rc 5 (acts.map actRow)]) → QR .normal ac1 wz) : (regAt Try.f10 23).wp Try.prog QR ac0 wb := by
  refine wp_region_st mixedP ⟨[0, 1, 0, 1, 2, 3, 4, 4, 5, 4, 5, 6, 7, 8, 8, 9, 10, 11, 12], by kernel_rfl⟩ [[], [0], [], [2], [0, 1, 2, 3], [0, 1, 2, 3, 4], [0, 1, 2, 3, 4, 5], [0, 1, 2, 3, 4, 5], [0, 1, 2, 3, 4, 5, 6, 7], [0, 1, 2, 3, 4, 5], [0, 1, 2, 3, 4, 5, 9], [0, 1, 2, 3, 4, 5, 6, 7, 8, 9, 10], [0, 1, 2, 3, 4, 5, 6, 7, 8, 9, 10, 11], [0, 1, 2, 3, 4, 5, 6, 7, 8, 9, 10, 11, 12], [0, 1, 2, 3, 4, 5, 6, 7, 8, 9, 10, 11, 12], [0, 1, 2, 3, 4, 5, 6, 7, 8, 9, 10, 11, 12, 13, 14], [0, 1, 2, 3, 4, 5, 6, 7, 8, 9, 10, 11, 12, 13, 14, 15], [0, 1, 2, 3, 4, 5, 6, 7, 8, 9, 10, 11, 12, 13, 14, 15, 16], [0, 1, 2, 3, 4, 5, 6, 7, 8, 9, 10, 11, 12, 13, 14, 15, 16, 17]] (by kernel_rfl) (by kernel_rfl) 192 hz (by kernel_rfl) (fun (xx : Unit) jx => nth [.int .i64 7, .bool false, .int .i64 ((lookV (mkC c) ps (now + m) x.who x.key x.body).2), .bool false, .bool false, .bool false, .agg (kA (mkC c) (mkR c) (.slice a ps.length cc)), .int .i64 (now + m), .int .i64 ((ps.filter (keepB (mkC c) (now + m))).length), .pointer (some ⟨b2, 5, none⟩), .int .i64 c.keys, .bool (decide (c.keys < ((ps.filter (keepB (mkC c) (now + m))).length : Int))), .bool (decide (c.keys < ((ps.filter (keepB (mkC c) (now + m))).length : Int))), bif (decide (c.keys < ((ps.filter (keepB (mkC c) (now + m))).length : Int))) then .agg (kA (mkC c) (mkR c) (.slice a ps.length cc)) else undef, bif (decide (c.keys < ((ps.filter (keepB (mkC c) (now + m))).length : Int))) then .int .i64 (now + m) else undef, bif (decide (c.keys < ((ps.filter (keepB (mkC c) (now + m))).length : Int))) then .int .i64 ((ps.filter (keepB (mkC c) (now + m))).length) else undef, bif (decide (c.keys < ((ps.filter (keepB (mkC c) (now + m))).length : Int))) then .bool (((ps.filter (keepB (mkC c) (now + m))).length : Int) != 0) else undef, .bool ((decide (c.keys < ((ps.filter (keepB (mkC c) (now + m))).length : Int))) && (((ps.filter (keepB (mkC c) (now + m))).length : Int) != 0)), .bool ((decide (c.keys < ((ps.filter (keepB (mkC c) (now + m))).length : Int))) && (((ps.filter (keepB (mkC c) (now + m))).length : Int) != 0))] jx) (fun (LL : Nat → Bool) (xx : Unit) ww => Hp [] wa ww [rB b15 84 [.int .i64 0, .int .i64 0, .int .i64 0, .int .i64 0, .int .i64 0, .int .i64 0, .int .i64 0, .int .i64 0, .int .i64 0, .int .i64 0, .int .i64 0, .int .i64 0, .int .i64 0, .int .i64 0, .int .i64 0, .int .i64 0, .int .i64 0, .int .u32 0, .int .i64 0, .slice none 0 0], rB b9 87 [.int .i64 x.kind, .int .i64 x.now, .int .i64 x.who, .int .u64 x.key, .string x.body], rA ad cd 87 5 (ds.map actRow), rB b5 84 (kL (mkC c) (mkR c) (.slice a ps.length cc)), rB b2 24 (cL c), rS a cc 4 (ps.map rowOf), rS (some y) rc 5 (acts.map actRow)]) () H.out.drew ?_ (steps_al ?_) ?_ ?_
  · exact fun _ _ _ _ _ h => h
  · refine al_cons ?_ (al_cons ?_ (al_cons ?_ (al_cons ?_ (al_cons ?_ (al_cons ?_ (al_cons ?_ (al_cons ?_ (al_cons ?_ (al_cons ?_ (al_cons ?_ (al_cons ?_ (al_cons ?_ (al_cons ?_ (al_cons ?_ (al_cons ?_ (al_cons ?_ (al_cons ?_ (al_cons ?_ (al_nil)))))))))))))))))))
    · intro LL xx ac wc sg hst hwant QQ hgo
      exact op_val hwant hgo hst _ (exec_move rfl ((sg.free 16 (by kernel_rfl)).trans so16)) rfl
    · intro LL xx ac wc sg hst hwant QQ hgo
      have se150 : ac.eval (.tmp 150) = _ := (sg.slot 0 (sg.anc 0 rfl))
      have sg150 := gt_of se150
      (try simp only [nth] at se150 sg150)
      exact op_val hwant hgo hst _ (by simp only [execOp, nth]; go_simp <;> omega) rfl
    · intro LL xx ac wc sg hst hwant QQ hgo
      exact op_val hwant hgo hst _ (exec_move rfl ((sg.free 11 (by kernel_rfl)).trans so11)) rfl
    · intro LL xx ac wc sg hst hwant QQ hgo
      have se152 : ac.eval (.tmp 152) = _ := (sg.slot 2 (sg.anc 2 rfl))
      have sg152 := gt_of se152
      (try simp only [nth] at se152 sg152)
      exact op_val hwant hgo hst _ (by simp only [execOp, nth]; go_simp <;> omega) rfl
    · intro LL xx ac wc sg hst hwant QQ hgo
      have se151 : ac.eval (.tmp 151) = _ := (sg.slot 1 (sg.anc 1 rfl))
      have sg151 := gt_of se151
      have se153 : ac.eval (.tmp 153) = _ := (sg.slot 3 (sg.anc 3 rfl))
      have sg153 := gt_of se153
      (try simp only [nth] at se151 sg151 se153 sg153)
      exact op_val hwant hgo hst _ (by simp only [execOp, nth]; go_simp <;> omega) rfl
    · intro LL xx ac wc sg hst hwant QQ hgo
      exact op_val hwant hgo hst _ (exec_move rfl (sg.slot 4 (sg.anc 4 rfl))) rfl
    · intro LL xx ac wc sg hst hwant QQ hgo
      have H := Lib.hid hst
      refine hpA_load tykeys_Keys H rfl ((sg.free 5 (by kernel_rfl)).trans so5) hwant (by (repeat (first | exact List.Mem.head _ | apply List.Mem.tail))) (by rfl) rfl ?_
      exact hgo _ () _ (fun _ _ => rfl) rfl hst
    · intro LL xx ac wc sg hst hwant QQ hgo
      exact op_val hwant hgo hst _ (exec_move rfl ((sg.free 6 (by kernel_rfl)).trans so6)) rfl
    · intro LL xx ac wc sg hst hwant QQ hgo
      have se156 : ac.eval (.tmp 156) = _ := (sg.slot 6 (sg.anc 6 rfl))
      have sg156 := gt_of se156
      have se157 : ac.eval (.tmp 157) = _ := (sg.slot 7 (sg.anc 7 rfl))
      have sg157 := gt_of se157
      (try simp only [nth] at se156 sg156 se157 sg157)
      have H := Lib.hid hst
      refine op_call hwant hgo 51 _ (by simp only [execOp]; go_simp) (countC (mkC c) (mkR c) a cc ps (now + m) wc (hp_held H (by (repeat (first | exact List.Mem.head _ | apply List.Mem.tail)))) (by omega)) ?_
      rintro er wd ⟨rfl, hof⟩
      exact ⟨_, (), rfl, fun _ _ => rfl, rfl, Hp.quiet hst hof⟩
    · intro LL xx ac wc sg hst hwant QQ hgo
      have se2 : ac.eval (.tmp 2) = _ := ((sg.free 2 (by kernel_rfl)).trans so2)
      have sg2 := gt_of se2
      exact op_val hwant hgo hst _ (by simp only [execOp, nth]; go_simp <;> omega) rfl
    · intro LL xx ac wc sg hst hwant QQ hgo
      have H := Lib.hid hst
      refine hpA_load1 tyint H rfl (sg.slot 9 (sg.anc 9 rfl)) hwant (by (repeat (first | exact List.Mem.head _ | apply List.Mem.tail))) (by rfl) ?_
      exact hgo _ () _ (fun _ _ => rfl) rfl hst
    · intro LL xx ac wc sg hst hwant QQ hgo
      have se158 : ac.eval (.tmp 158) = _ := (sg.slot 8 (sg.anc 8 rfl))
      have sg158 := gt_of se158
      have se160 : ac.eval (.tmp 160) = _ := (sg.slot 10 (sg.anc 10 rfl))
      have sg160 := gt_of se160
      (try simp only [nth] at se158 sg158 se160 sg160)
      exact op_val hwant hgo hst _ (by simp only [execOp, nth]; go_simp <;> omega) rfl
    · intro LL xx ac wc sg hst hwant QQ hgo
      exact op_val hwant hgo hst _ (exec_move rfl (sg.slot 11 (sg.anc 11 rfl))) rfl
    · intro LL xx ac wc sg hst hwant QQ hgo
      have hG : (decide (c.keys < ((ps.filter (keepB (mkC c) (now + m))).length : Int))) = true := (want_t rfl rfl (sg.slot 12 (sg.anc 12 rfl))).symm.trans hwant
      have H := Lib.hid hst
      refine hpA_load tykeys_Keys H rfl ((sg.free 5 (by kernel_rfl)).trans so5) hwant (by (repeat (first | exact List.Mem.head _ | apply List.Mem.tail))) (by rfl) rfl ?_
      exact hgo _ () _ (fun _ _ => rfl) (cI hG) hst
    · intro LL xx ac wc sg hst hwant QQ hgo
      have hG : (decide (c.keys < ((ps.filter (keepB (mkC c) (now + m))).length : Int))) = true := (want_t rfl rfl (sg.slot 12 (sg.anc 12 rfl))).symm.trans hwant
      exact op_val hwant hgo hst _ (exec_move rfl ((sg.free 6 (by kernel_rfl)).trans so6)) (cI hG)
    · intro LL xx ac wc sg hst hwant QQ hgo
      have hG : (decide (c.keys < ((ps.filter (keepB (mkC c) (now + m))).length : Int))) = true := (want_t rfl rfl (sg.slot 12 (sg.anc 12 rfl))).symm.trans hwant
      have se163 : ac.eval (.tmp 163) = _ := (cT (sg.slot 13 (sg.anc 13 rfl)) hG)
      have sg163 := gt_of se163
      have se164 : ac.eval (.tmp 164) = _ := (cT (sg.slot 14 (sg.anc 14 rfl)) hG)
      have sg164 := gt_of se164
      (try simp only [nth] at se163 sg163 se164 sg164)
      have H := Lib.hid hst
      refine op_call hwant hgo 51 _ (by simp only [execOp]; go_simp) (countC (mkC c) (mkR c) a cc ps (now + m) wc (hp_held H (by (repeat (first | exact List.Mem.head _ | apply List.Mem.tail)))) (by omega)) ?_
      rintro er wd ⟨rfl, hof⟩
      exact ⟨_, (), rfl, fun _ _ => rfl, (cI hG), Hp.quiet hst hof⟩
    · intro LL xx ac wc sg hst hwant QQ hgo
      have hG : (decide (c.keys < ((ps.filter (keepB (mkC c) (now + m))).length : Int))) = true := (want_t rfl rfl (sg.slot 12 (sg.anc 12 rfl))).symm.trans hwant
      have se165 : ac.eval (.tmp 165) = _ := (cT (sg.slot 15 (sg.anc 15 rfl)) hG)
      have sg165 := gt_of se165
      (try simp only [nth] at se165 sg165)
      exact op_val hwant hgo hst _ (by simp only [execOp, nth]; go_simp <;> omega) (cI hG)
    · intro LL xx ac wc sg hst hwant QQ hgo
      exact op_val hwant hgo hst (.bool ((decide (c.keys < ((ps.filter (keepB (mkC c) (now + m))).length : Int))) && (((ps.filter (keepB (mkC c) (now + m))).length : Int) != 0))) (exec_and (Y := ((ps.filter (keepB (mkC c) (now + m))).length : Int) != 0) rfl (sg.slot 12 (sg.anc 12 rfl)) (fun qq => cT (sg.slot 16 (sg.anc 16 rfl)) qq)) rfl
    · intro LL xx ac wc sg hst hwant QQ hgo
      exact op_val hwant hgo hst (.bool ((decide (c.keys < ((ps.filter (keepB (mkC c) (now + m))).length : Int))) && (((ps.filter (keepB (mkC c) (now + m))).length : Int) != 0))) (exec_pick (B := false) (U := undef) (V := .bool ((decide (c.keys < ((ps.filter (keepB (mkC c) (now + m))).length : Int))) && (((ps.filter (keepB (mkC c) (now + m))).length : Int) != 0))) rfl (sg.slot 5 (sg.anc 5 rfl)) (fun h => by cases h) (fun _ => (sg.slot 17 (sg.anc 17 rfl)))) rfl
  · refine skips [6, 7, 8, 9, 10, 11, 12, 13, 14, 15, 16, 17] (by kernel_rfl) ?_
    refine List.forall_mem_cons.2 ⟨?_, List.forall_mem_cons.2 ⟨?_, List.forall_mem_cons.2 ⟨?_, List.forall_mem_cons.2 ⟨?_, List.forall_mem_cons.2 ⟨?_, List.forall_mem_cons.2 ⟨?_, List.forall_mem_cons.2 ⟨?_, List.forall_mem_cons.2 ⟨?_, List.forall_mem_cons.2 ⟨?_, List.forall_mem_cons.2 ⟨?_, List.forall_mem_cons.2 ⟨?_, List.forall_mem_cons.2 ⟨?_, fun _ h => by cases h⟩⟩⟩⟩⟩⟩⟩⟩⟩⟩⟩⟩
    · intro oo hop LL xx ac sg hwant
      cases Option.some.inj hop
      exact absurd ((want_f rfl rfl (sg.slot 5 (sg.anc 5 rfl))).symm.trans hwant) (by decide)
    · intro oo hop LL xx ac sg hwant
      cases Option.some.inj hop
      exact absurd ((want_f rfl rfl (sg.slot 5 (sg.anc 5 rfl))).symm.trans hwant) (by decide)
    · intro oo hop LL xx ac sg hwant
      cases Option.some.inj hop
      exact absurd ((want_f rfl rfl (sg.slot 5 (sg.anc 5 rfl))).symm.trans hwant) (by decide)
    · intro oo hop LL xx ac sg hwant
      cases Option.some.inj hop
      exact absurd ((want_f rfl rfl (sg.slot 5 (sg.anc 5 rfl))).symm.trans hwant) (by decide)
    · intro oo hop LL xx ac sg hwant
      cases Option.some.inj hop
      exact absurd ((want_f rfl rfl (sg.slot 5 (sg.anc 5 rfl))).symm.trans hwant) (by decide)
    · intro oo hop LL xx ac sg hwant
      cases Option.some.inj hop
      exact absurd ((want_f rfl rfl (sg.slot 5 (sg.anc 5 rfl))).symm.trans hwant) (by decide)
    · intro oo hop LL xx ac sg hwant
      cases Option.some.inj hop
      exact absurd ((want_f rfl rfl (sg.slot 5 (sg.anc 5 rfl))).symm.trans hwant) (by decide)
    · intro oo hop LL xx ac sg hwant
      cases Option.some.inj hop
      have hG : (decide (c.keys < ((ps.filter (keepB (mkC c) (now + m))).length : Int))) = false := (want_t rfl rfl (sg.slot 12 (sg.anc 12 rfl))).symm.trans hwant
      exact ⟨cF hG, fun _ h => h⟩
    · intro oo hop LL xx ac sg hwant
      cases Option.some.inj hop
      have hG : (decide (c.keys < ((ps.filter (keepB (mkC c) (now + m))).length : Int))) = false := (want_t rfl rfl (sg.slot 12 (sg.anc 12 rfl))).symm.trans hwant
      exact ⟨cF hG, fun _ h => h⟩
    · intro oo hop LL xx ac sg hwant
      cases Option.some.inj hop
      have hG : (decide (c.keys < ((ps.filter (keepB (mkC c) (now + m))).length : Int))) = false := (want_t rfl rfl (sg.slot 12 (sg.anc 12 rfl))).symm.trans hwant
      exact ⟨cF hG, fun _ h => h⟩
    · intro oo hop LL xx ac sg hwant
      cases Option.some.inj hop
      have hG : (decide (c.keys < ((ps.filter (keepB (mkC c) (now + m))).length : Int))) = false := (want_t rfl rfl (sg.slot 12 (sg.anc 12 rfl))).symm.trans hwant
      exact ⟨cF hG, fun _ h => h⟩
    · intro oo hop LL xx ac sg hwant
      cases Option.some.inj hop
      exact absurd ((want_f rfl rfl (sg.slot 5 (sg.anc 5 rfl))).symm.trans hwant) (by decide)
  · intro xx ac1 wz hfr hsl hst
    exact hfin ac1 wz (hfr.size.trans hz) hfr.defers (fr_keep hfr [150, 151, 152, 153, 154, 155, 156, 157, 158, 159, 160, 161, 162, 163, 164, 165, 166, 167, 168] (by kernel_rfl)) (hsl 18 (by decide)) (Lib.hid hst)
set_option maxRecDepth 20000 in
theorem once_w_r25 (c : Cfg) (rc : Nat) (acts : List ActK) (b2 : Nat) (b5 : Nat) (i : Nat) (a : Option Addr) (cc : Nat) (ps : List PairV) (now : Int) (ad : Option Addr) (cd : Nat) (ds : List ActK) (hi : i ≤ acts.length) (hi2 : i ≤ 80) (hl : ps.length ≤ i) (hd : ds.length ≤ i) (hn0 : 0 ≤ now) (hn1 : now ≤ 3 * i) (z1ld : i < acts.length) (z1rd : (i : Int) < 80) (y : Addr) (x : ActK) (hk0 : 0 ≤ x.key) (hk1 : x.key ≤ 18446744073709551615) (b9 : Nat) (z2d : ¬ (40 < (x.body.size : Int))) (m : Nat) (hm1 : m ≤ 3) (hm : IntKind.i64.wrap ((IntKind.u64.wrap x.now).tmod 4) = (m : Int)) (hm0 : now ≤ now + m) (hxb : x.body.size ≤ 40) (hfl : (ps.filter (keepB (mkC c) (now + m))).length ≤ i) (j : Nat) (hj0 : j ≤ ds.length) (z3d : ¬ (j < ds.length)) (b15 : Nat) {wa wb : World} (H : Hid (Hp [] wa wb [rB b15 84 [.int .i64 0, .int .i64 0, .int .i64 0, .int .i64 0, .int .i64 0, .int .i64 0, .int .i64 0, .int .i64 0, .int .i64 0, .int .i64 0, .int .i64 0, .int .i64 0, .int .i64 0, .int .i64 0, .int .i64 0, .int .i64 0, .int .i64 0, .int .u32 0, .int .i64 0, .slice none 0 0], rB b9 87 [.int .i64 x.kind, .int .i64 x.now, .int .i64 x.who, .int .u64 x.key, .string x.body], rA ad cd 87 5 (ds.map actRow), rB b5 84 (kL (mkC c) (mkR c) (.slice a ps.length cc)), rB b2 24 (cL c), rS a cc 4 (ps.map rowOf), rS (some y) rc 5 (acts.map actRow)])) (ac0 : Act) (hz : ac0.tmps.size = 192) (so16 : ac0.eval (.tmp 16) = .int .i64 7) {QR : Exit → Act → World → Prop} (hfin : ∀ (ac1 : Act) (wz : World), ac1.tmps.size = 192 → ac1.defers = ac0.defers → (∀ t, ([169, 170] : List Nat).contains t = false → ac1.eval (.tmp t) = ac0.eval (.tmp t)) → ac1.eval (.tmp 170) = .bool false →  Hid (Hp [] wa wz [rB b15 84 [.int .i64 0, .int .i64 0, .int .i64 0, .int .i64 0, .int .i64 0, .int .i64 0, .int .i64 0, .int .i64 0, .int .i64 0, .int .i64 0, .int .i64 0, .int .i64 0, .int .i64 0, .int .i64 0, .int .i64 0, .int .i64 0, .int .i64 0, .int .u32 0, .int .i64 0, .slice none 0 0], rB b9 87 [.int .i64 x.kind, .int .i64 x.now, .int .i64 x.who, .int .u64 x.key, .string x.body], rA ad cd 87 5 (ds.map actRow), rB b5 84 (kL (mkC c) (mkR c) (.slice a ps.length cc)), rB b2 24 (cL c), rS a cc 4 (ps.map rowOf), rS (some y) rc 5 (acts.map actRow)]) → QR .normal ac1 wz) : (regAt Try.f10 25).wp Try.prog QR ac0 wb := by
  refine wp_region_sq (by kernel_rfl) 192 hz (by kernel_rfl) (fun (xx : Unit) jx => nth [.int .i64 7, .bool false] jx) (fun (LL : Nat → Bool) (xx : Unit) ww => Hp [] wa ww [rB b15 84 [.int .i64 0, .int .i64 0, .int .i64 0, .int .i64 0, .int .i64 0, .int .i64 0, .int .i64 0, .int .i64 0, .int .i64 0, .int .i64 0, .int .i64 0, .int .i64 0, .int .i64 0, .int .i64 0, .int .i64 0, .int .i64 0, .int .i64 0, .int .u32 0, .int .i64 0, .slice none 0 0], rB b9 87 [.int .i64 x.kind, .int .i64 x.now, .int .i64 x.who, .int .u64 x.key, .string x.body], rA ad cd 87 5 (ds.map actRow), rB b5 84 (kL (mkC c) (mkR c) (.slice a ps.length cc)), rB b2 24 (cL c), rS a cc 4 (ps.map rowOf), rS (some y) rc 5 (acts.map actRow)]) () H.out ?_ (steps_al ?_) ?_ ?_
  · exact fun _ _ _ _ _ h => h
  · refine al_cons ?_ (al_cons ?_ (al_nil))
    · intro LL xx ac wc sg hst hwant QQ hgo
      exact op_val hwant hgo hst _ (exec_move rfl ((sg.free 16 (by kernel_rfl)).trans so16)) rfl
    · intro LL xx ac wc sg hst hwant QQ hgo
      have se169 : ac.eval (.tmp 169) = _ := (sg.slot 0 (sg.anc 0 rfl))
      have sg169 := gt_of se169
      (try simp only [nth] at se169 sg169)
      exact op_val hwant hgo hst _ (by simp only [execOp, nth]; go_simp <;> omega) rfl
  · exact skips [] (by kernel_rfl) (fun _ h => by cases h)
  · intro xx ac1 wz hfr hsl hst
    exact hfin ac1 wz (hfr.size.trans hz) hfr.defers (fr_keep hfr [169, 170] (by kernel_rfl)) (hsl 1 (by decide)) (Lib.hid hst)
set_option maxRecDepth 20000 in
theorem once_w_r8 (c : Cfg) (rc : Nat) (acts : List ActK) (b2 : Nat) (b5 : Nat) (i : Nat) (a : Option Addr) (cc : Nat) (ps : List PairV) (now : Int) (ad : Option Addr) (cd : Nat) (ds : List ActK) (hi : i ≤ acts.length) (hi2 : i ≤ 80) (hl : ps.length ≤ i) (hd : ds.length ≤ i) (hn0 : 0 ≤ now) (hn1 : now ≤ 3 * i) (z1ld : i < acts.length) (z1rd : (i : Int) < 80) (y : Addr) (x : ActK) (hk0 : 0 ≤ x.key) (hk1 : x.key ≤ 18446744073709551615) (b9 : Nat) (z2d : ¬ (40 < (x.body.size : Int))) (m : Nat) (hm1 : m ≤ 3) (hm : IntKind.i64.wrap ((IntKind.u64.wrap x.now).tmod 4) = (m : Int)) (hm0 : now ≤ now + m) (hxb : x.body.size ≤ 40) (hfl : (ps.filter (keepB (mkC c) (now + m))).length ≤ i) (j : Nat) (hj0 : j ≤ ds.length) (z3d : ¬ (j < ds.length)) (b15 : Nat) {wa wb : World} (H : Hid (Hp [] wa wb [rB b15 84 [.int .i64 0, .int .i64 0, .int .i64 0, .int .i64 0, .int .i64 0, .int .i64 0, .int .i64 0, .int .i64 0, .int .i64 0, .int .i64 0, .int .i64 0, .int .i64 0, .int .i64 0, .int .i64 0, .int .i64 0, .int .i64 0, .int .i64 0, .int .u32 0, .int .i64 0, .slice none 0 0], rB b9 87 [.int .i64 x.kind, .int .i64 x.now, .int .i64 x.who, .int .u64 x.key, .string x.body], rA ad cd 87 5 (ds.map actRow), rB b5 84 (kL (mkC c) (mkR c) (.slice a ps.length cc)), rB b2 24 (cL c), rS a cc 4 (ps.map rowOf), rS (some y) rc 5 (acts.map actRow)])) (ac0 : Act) (hz : ac0.tmps.size = 192) (so8 : ac0.eval (.tmp 8) = .int .i64 i) {QR : Exit → Act → World → Prop} (hfin : ∀ (ac1 : Act) (wz : World), ac1.tmps.size = 192 → ac1.defers = ac0.defers → (∀ t, ([8, 30, 31] : List Nat).contains t = false → ac1.eval (.tmp t) = ac0.eval (.tmp t)) → ac1.eval (.tmp 8) = .int .i64 (i + 1) →  Hid (Hp [] wa wz [rB b15 84 [.int .i64 0, .int .i64 0, .int .i64 0, .int .i64 0, .int .i64 0, .int .i64 0, .int .i64 0, .int .i64 0, .int .i64 0, .int .i64 0, .int .i64 0, .int .i64 0, .int .i64 0, .int .i64 0, .int .i64 0, .int .i64 0, .int .i64 0, .int .u32 0, .int .i64 0, .slice none 0 0], rB b9 87 [.int .i64 x.kind, .int .i64 x.now, .int .i64 x.who, .int .u64 x.key, .string x.body], rA ad cd 87 5 (ds.map actRow), rB b5 84 (kL (mkC c) (mkR c) (.slice a ps.length cc)), rB b2 24 (cL c), rS a cc 4 (ps.map rowOf), rS (some y) rc 5 (acts.map actRow)]) → QR .normal ac1 wz) : (regAt Try.f10 8).wp Try.prog QR ac0 wb := by
  refine wp_region_sq (by kernel_rfl) 192 hz (by kernel_rfl) (fun (xx : Unit) jx => nth [.int .i64 i, .int .i64 (i + 1), .int .i64 (i + 1)] jx) (fun (LL : Nat → Bool) (xx : Unit) ww => Hp [] wa ww [rB b15 84 [.int .i64 0, .int .i64 0, .int .i64 0, .int .i64 0, .int .i64 0, .int .i64 0, .int .i64 0, .int .i64 0, .int .i64 0, .int .i64 0, .int .i64 0, .int .i64 0, .int .i64 0, .int .i64 0, .int .i64 0, .int .i64 0, .int .i64 0, .int .u32 0, .int .i64 0, .slice none 0 0], rB b9 87 [.int .i64 x.kind, .int .i64 x.now, .int .i64 x.who, .int .u64 x.key, .string x.body], rA ad cd 87 5 (ds.map actRow), rB b5 84 (kL (mkC c) (mkR c) (.slice a ps.length cc)), rB b2 24 (cL c), rS a cc 4 (ps.map rowOf), rS (some y) rc 5 (acts.map actRow)]) () H.out ?_ (steps_al ?_) ?_ ?_
  · exact fun _ _ _ _ _ h => h
  · refine al_cons ?_ (al_cons ?_ (al_cons ?_ (al_nil)))
    · intro LL xx ac wc sg hst hwant QQ hgo
      exact op_val hwant hgo hst _ (exec_move rfl ((sg.yet 8 2 (sg.des 2 rfl) (by kernel_rfl)).trans so8)) rfl
    · intro LL xx ac wc sg hst hwant QQ hgo
      have se30 : ac.eval (.tmp 30) = _ := (sg.slot 0 (sg.anc 0 rfl))
      have sg30 := gt_of se30
      (try simp only [nth] at se30 sg30)
      have hnw : IntKind.i64.wrap (i + 1 : Int) = i + 1 := IntWalk.i64_in _ (by omega)
      exact op_val hwant hgo hst _ (by simp only [execOp, nth]; go_simp <;> omega) rfl
    · intro LL xx ac wc sg hst hwant QQ hgo
      exact op_val hwant hgo hst _ (exec_assign rfl (sg.slot 1 (sg.anc 1 rfl))) rfl
  · exact skips [] (by kernel_rfl) (fun _ h => by cases h)
  · intro xx ac1 wz hfr hsl hst
    exact hfin ac1 wz (hfr.size.trans hz) hfr.defers (fr_keep hfr [8, 30, 31] (by kernel_rfl)) (hsl 2 (by decide)) (Lib.hid hst)
set_option maxRecDepth 20000 in
theorem once_w_r22x1 (c : Cfg) (rc : Nat) (acts : List ActK) (b2 : Nat) (b5 : Nat) (i : Nat) (a : Option Addr) (cc : Nat) (ps : List PairV) (now : Int) (ad : Option Addr) (cd : Nat) (ds : List ActK) (hi : i ≤ acts.length) (hi2 : i ≤ 80) (hl : ps.length ≤ i) (hd : ds.length ≤ i) (hs : Hid (Sorted ps)) (hn0 : 0 ≤ now) (hn1 : now ≤ 3 * i) (z1ld : i < acts.length) (z1rd : (i : Int) < 80) (y : Addr) (x : ActK) (hk0 : 0 ≤ x.key) (hk1 : x.key ≤ 18446744073709551615) (b9 : Nat) (z2d : ¬ (40 < (x.body.size : Int))) (m : Nat) (hm1 : m ≤ 3) (hm : IntKind.i64.wrap ((IntKind.u64.wrap x.now).tmod 4) = (m : Int)) (hm0 : now ≤ now + m) (hxb : x.body.size ≤ 40) (hfl : (ps.filter (keepB (mkC c) (now + m))).length ≤ i) (j : Nat) (hj0 : j ≤ ds.length) (z3d : ¬ (j < ds.length)) (y6 : ((lookV (mkC c) ps (now + m) x.who x.key x.body).2 != 1) = false) {wa wb : World} (H : Hid (Hp [] wa wb [rB b9 87 [.int .i64 x.kind, .int .i64 x.now, .int .i64 x.who, .int .u64 x.key, .string x.body], rA ad cd 87 5 (ds.map actRow), rB b5 84 (kL (mkC c) (mkR c) (.slice a ps.length cc)), rB b2 24 (cL c), rS a cc 4 (ps.map rowOf), rS (some y) rc 5 (acts.map actRow)])) (ac0 : Act) (hz : ac0.tmps.size = 192) (so5 : ac0.eval (.tmp 5) = .pointer (some ⟨b5, 0, none⟩)) (so6 : ac0.eval (.tmp 6) = .int .i64 (now + m)) (so9 : ac0.eval (.tmp 9) = .pointer (some ⟨b9, 0, none⟩)) {QR : Exit → Act → World → Prop} (hfin : ∀ (a22_11 : Option Addr) (c22_11 : Nat) (b15 : Nat) (ac1 : Act) (wz : World), ac1.tmps.size = 192 → ac1.defers = ac0.defers → (∀ t, ([15, 16, 135, 136, 137, 138, 139, 140, 141, 142, 143, 144, 145, 146, 147, 148, 149] : List Nat).contains t = false → ac1.eval (.tmp t) = ac0.eval (.tmp t)) → ac1.eval (.tmp 15) = .pointer (some ⟨b15, 0, none⟩) → ac1.eval (.tmp 16) = .int .i64 0 →  Hid (Hp [] wa wz [rB b15 84 (kL (mkC c) (mkR c) (.slice a22_11 ((wOnce c ps (now + m) x).length) c22_11)), rS a22_11 c22_11 4 ((wOnce c ps (now + m) x).map rowOf), rB b9 87 [.int .i64 x.kind, .int .i64 x.now, .int .i64 x.who, .int .u64 x.key, .string x.body], rA ad cd 87 5 (ds.map actRow), rB b5 84 (kL (mkC c) (mkR c) (.slice a ps.length cc)), rB b2 24 (cL c), rS a cc 4 (ps.map rowOf), rS (some y) rc 5 (acts.map actRow)]) → QR .normal ac1 wz) : (regAt Try.f10 22).wp Try.prog QR ac0 wb := by
  refine wp_region_sq (by kernel_rfl) 192 hz (by kernel_rfl) (fun (xx : Option Addr × Nat × Nat) jx => match xx with | (a22_11, c22_11, b15) => nth [.agg (kA (mkC c) (mkR c) (.slice a ps.length cc)), .int .i64 (now + m), .pointer (some ⟨b9, 2, none⟩), .int .i64 x.who, .pointer (some ⟨b9, 3, none⟩), .int .u64 x.key, .pointer (some ⟨b9, 4, none⟩), .string x.body, .pointer (some ⟨b9, 4, none⟩), .string x.body, .string (x.body ++ (⟨#[33]⟩ : ByteArray)), .tuple #[.agg (kA (mkC c) (mkR c) (.slice a22_11 ((wOnce c ps (now + m) x).length) c22_11)), .int .i64 0], .tuple #[.agg (kA (mkC c) (mkR c) (.slice a22_11 ((wOnce c ps (now + m) x).length) c22_11)), .int .i64 0], .agg (kA (mkC c) (mkR c) (.slice a22_11 ((wOnce c ps (now + m) x).length) c22_11)), .int .i64 0, .pointer (some ⟨b15, 0, none⟩), undef, .int .i64 0] jx) (fun (LL : Nat → Bool) (xx : Option Addr × Nat × Nat) ww => match xx with | (a22_11, c22_11, b15) => Hp [] wa ww (bif LL 16 then [rB b15 84 (kL (mkC c) (mkR c) (.slice a22_11 ((wOnce c ps (now + m) x).length) c22_11)), rS a22_11 c22_11 4 ((wOnce c ps (now + m) x).map rowOf), rB b9 87 [.int .i64 x.kind, .int .i64 x.now, .int .i64 x.who, .int .u64 x.key, .string x.body], rA ad cd 87 5 (ds.map actRow), rB b5 84 (kL (mkC c) (mkR c) (.slice a ps.length cc)), rB b2 24 (cL c), rS a cc 4 (ps.map rowOf), rS (some y) rc 5 (acts.map actRow)] else (bif LL 15 then [rB b15 84 [.int .i64 0, .int .i64 0, .int .i64 0, .int .i64 0, .int .i64 0, .int .i64 0, .int .i64 0, .int .i64 0, .int .i64 0, .int .i64 0, .int .i64 0, .int .i64 0, .int .i64 0, .int .i64 0, .int .i64 0, .int .i64 0, .int .i64 0, .int .u32 0, .int .i64 0, .slice none 0 0], rS a22_11 c22_11 4 ((wOnce c ps (now + m) x).map rowOf), rB b9 87 [.int .i64 x.kind, .int .i64 x.now, .int .i64 x.who, .int .u64 x.key, .string x.body], rA ad cd 87 5 (ds.map actRow), rB b5 84 (kL (mkC c) (mkR c) (.slice a ps.length cc)), rB b2 24 (cL c), rS a cc 4 (ps.map rowOf), rS (some y) rc 5 (acts.map actRow)] else (bif LL 11 then [rS a22_11 c22_11 4 ((wOnce c ps (now + m) x).map rowOf), rB b9 87 [.int .i64 x.kind, .int .i64 x.now, .int .i64 x.who, .int .u64 x.key, .string x.body], rA ad cd 87 5 (ds.map actRow), rB b5 84 (kL (mkC c) (mkR c) (.slice a ps.length cc)), rB b2 24 (cL c), rS a cc 4 (ps.map rowOf), rS (some y) rc 5 (acts.map actRow)] else [rB b9 87 [.int .i64 x.kind, .int .i64 x.now, .int .i64 x.who, .int .u64 x.key, .string x.body], rA ad cd 87 5 (ds.map actRow), rB b5 84 (kL (mkC c) (mkR c) (.slice a ps.length cc)), rB b2 24 (cL c), rS a cc 4 (ps.map rowOf), rS (some y) rc 5 (acts.map actRow)])))) (default, default, default) H.out ?_ (steps_al ?_) ?_ ?_
  · intro L1 L2 xx ww hL sg
    have lh11 := hL 11 (by decide)
    have lh15 := hL 15 (by decide)
    have lh16 := hL 16 (by decide)
    simp only [lh11, lh15, lh16] at sg
    exact sg
  · refine al_cons ?_ (al_cons ?_ (al_cons ?_ (al_cons ?_ (al_cons ?_ (al_cons ?_ (al_cons ?_ (al_cons ?_ (al_cons ?_ (al_cons ?_ (al_cons ?_ (al_cons ?_ (al_cons ?_ (al_cons ?_ (al_cons ?_ (al_cons ?_ (al_cons ?_ (al_cons ?_ (al_nil))))))))))))))))))
    · intro LL xx ac wc sg hst hwant QQ hgo
      obtain ⟨a22_11, c22_11, b15⟩ := xx
      have H := Lib.hid hst
      simp only [sg.des 11 rfl, sg.des 15 rfl, sg.des 16 rfl, cond_true, cond_false] at H
      refine hpA_load tykeys_Keys H rfl ((sg.free 5 (by kernel_rfl)).trans so5) hwant (by (repeat (first | exact List.Mem.head _ | apply List.Mem.tail))) (by rfl) rfl ?_
      exact hgo _ (a22_11, c22_11, b15) _ (fun _ _ => rfl) rfl hst
    · intro LL xx ac wc sg hst hwant QQ hgo
      obtain ⟨a22_11, c22_11, b15⟩ := xx
      exact op_val hwant hgo hst _ (exec_move rfl ((sg.free 6 (by kernel_rfl)).trans so6)) rfl
    · intro LL xx ac wc sg hst hwant QQ hgo
      obtain ⟨a22_11, c22_11, b15⟩ := xx
      have se9 : ac.eval (.tmp 9) = _ := ((sg.free 9 (by kernel_rfl)).trans so9)
      have sg9 := gt_of se9
      exact op_val hwant hgo hst _ (by simp only [execOp, nth]; go_simp <;> omega) rfl
    · intro LL xx ac wc sg hst hwant QQ hgo
      obtain ⟨a22_11, c22_11, b15⟩ := xx
      have H := Lib.hid hst
      simp only [sg.des 11 rfl, sg.des 15 rfl, sg.des 16 rfl, cond_true, cond_false] at H
      refine hpA_load1 tyint H rfl (sg.slot 2 (sg.anc 2 rfl)) hwant (by (repeat (first | exact List.Mem.head _ | apply List.Mem.tail))) (by rfl) ?_
      exact hgo _ (a22_11, c22_11, b15) _ (fun _ _ => rfl) rfl hst
    · intro LL xx ac wc sg hst hwant QQ hgo
      obtain ⟨a22_11, c22_11, b15⟩ := xx
      have se9 : ac.eval (.tmp 9) = _ := ((sg.free 9 (by kernel_rfl)).trans so9)
      have sg9 := gt_of se9
      exact op_val hwant hgo hst _ (by simp only [execOp, nth]; go_simp <;> omega) rfl
    · intro LL xx ac wc sg hst hwant QQ hgo
      obtain ⟨a22_11, c22_11, b15⟩ := xx
      have H := Lib.hid hst
      simp only [sg.des 11 rfl, sg.des 15 rfl, sg.des 16 rfl, cond_true, cond_false] at H
      refine hpA_load1 tyuint64 H rfl (sg.slot 4 (sg.anc 4 rfl)) hwant (by (repeat (first | exact List.Mem.head _ | apply List.Mem.tail))) (by rfl) ?_
      exact hgo _ (a22_11, c22_11, b15) _ (fun _ _ => rfl) rfl hst
    · intro LL xx ac wc sg hst hwant QQ hgo
      obtain ⟨a22_11, c22_11, b15⟩ := xx
      have se9 : ac.eval (.tmp 9) = _ := ((sg.free 9 (by kernel_rfl)).trans so9)
      have sg9 := gt_of se9
      exact op_val hwant hgo hst _ (by simp only [execOp, nth]; go_simp <;> omega) rfl
    · intro LL xx ac wc sg hst hwant QQ hgo
      obtain ⟨a22_11, c22_11, b15⟩ := xx
      have H := Lib.hid hst
      simp only [sg.des 11 rfl, sg.des 15 rfl, sg.des 16 rfl, cond_true, cond_false] at H
      refine hpA_load1 tystring H rfl (sg.slot 6 (sg.anc 6 rfl)) hwant (by (repeat (first | exact List.Mem.head _ | apply List.Mem.tail))) (by rfl) ?_
      exact hgo _ (a22_11, c22_11, b15) _ (fun _ _ => rfl) rfl hst
    · intro LL xx ac wc sg hst hwant QQ hgo
      obtain ⟨a22_11, c22_11, b15⟩ := xx
      have se9 : ac.eval (.tmp 9) = _ := ((sg.free 9 (by kernel_rfl)).trans so9)
      have sg9 := gt_of se9
      exact op_val hwant hgo hst _ (by simp only [execOp, nth]; go_simp <;> omega) rfl
    · intro LL xx ac wc sg hst hwant QQ hgo
      obtain ⟨a22_11, c22_11, b15⟩ := xx
      have H := Lib.hid hst
      simp only [sg.des 11 rfl, sg.des 15 rfl, sg.des 16 rfl, cond_true, cond_false] at H
      refine hpA_load1 tystring H rfl (sg.slot 8 (sg.anc 8 rfl)) hwant (by (repeat (first | exact List.Mem.head _ | apply List.Mem.tail))) (by rfl) ?_
      exact hgo _ (a22_11, c22_11, b15) _ (fun _ _ => rfl) rfl hst
    · intro LL xx ac wc sg hst hwant QQ hgo
      obtain ⟨a22_11, c22_11, b15⟩ := xx
      have se145 : ac.eval (.tmp 145) = _ := (sg.slot 9 (sg.anc 9 rfl))
      have sg145 := gt_of se145
      (try simp only [nth] at se145 sg145)
      exact op_val hwant hgo hst _ (by simp only [execOp, nth]; go_simp <;> omega) rfl
    · intro LL xx ac wc sg hst hwant QQ hgo
      obtain ⟨_, _, b15⟩ := xx
      have se136 : ac.eval (.tmp 136) = _ := (sg.slot 0 (sg.anc 0 rfl))
      have sg136 := gt_of se136
      have se137 : ac.eval (.tmp 137) = _ := (sg.slot 1 (sg.anc 1 rfl))
      have sg137 := gt_of se137
      have se139 : ac.eval (.tmp 139) = _ := (sg.slot 3 (sg.anc 3 rfl))
      have sg139 := gt_of se139
      have se141 : ac.eval (.tmp 141) = _ := (sg.slot 5 (sg.anc 5 rfl))
      have sg141 := gt_of se141
      have se143 : ac.eval (.tmp 143) = _ := (sg.slot 7 (sg.anc 7 rfl))
      have sg143 := gt_of se143
      have se146 : ac.eval (.tmp 146) = _ := (sg.slot 10 (sg.anc 10 rfl))
      have sg146 := gt_of se146
      (try simp only [nth] at se136 sg136 se137 sg137 se139 sg139 se141 sg141 se143 sg143 se146 sg146)
      have H := Lib.hid hst
      simp only [sg.self, sg.des 15 rfl, sg.des 16 rfl, cond_true, cond_false] at H
      refine op_call hwant hgo 50 _ (by simp only [execOp]; go_simp) (withYes (mkC c) (mkR c) a cc ps (now + m) x.who x.key x.body (x.body ++ (⟨#[33]⟩ : ByteArray)) wc (hp_held H (by (repeat (first | exact List.Mem.head _ | apply List.Mem.tail)))) hk0 hk1 hs (by omega) y6) ?_
      rintro er wd ⟨a22_11, c22_11, rfl, hgv⟩
      have H2 := hp_got H hgv.2.2 hgv.1 (by decide) hgv.2.1 (by simp)
      exact ⟨_, (a22_11, c22_11, b15), rfl, (sg.agree (x' := (a22_11, c22_11, b15)) (n := 18) rfl (by (iterate 18 (refine ix_cons (by first | exact fun _ => rfl | exact no sg.self | exact no (sg.des _ rfl)) ?_)); exact ix_nil)), rfl, (by simp only [(show upd LL 11 11 = true from rfl), (show upd LL 11 15 = LL 15 from rfl), sg.des 15 rfl, (show upd LL 11 16 = LL 16 from rfl), sg.des 16 rfl, cond_true, cond_false]; exact H2.out)⟩
    · intro LL xx ac wc sg hst hwant QQ hgo
      obtain ⟨a22_11, c22_11, b15⟩ := xx
      exact op_val hwant hgo hst _ (exec_move rfl (sg.slot 11 (sg.anc 11 rfl))) rfl
    · intro LL xx ac wc sg hst hwant QQ hgo
      obtain ⟨a22_11, c22_11, b15⟩ := xx
      have se135 : ac.eval (.tmp 135) = _ := (sg.slot 12 (sg.anc 12 rfl))
      have sg135 := gt_of se135
      (try simp only [nth] at se135 sg135)
      exact op_val hwant hgo hst _ (by simp only [execOp, nth]; go_simp <;> omega) rfl
    · intro LL xx ac wc sg hst hwant QQ hgo
      obtain ⟨a22_11, c22_11, b15⟩ := xx
      have se135 : ac.eval (.tmp 135) = _ := (sg.slot 12 (sg.anc 12 rfl))
      have sg135 := gt_of se135
      (try simp only [nth] at se135 sg135)
      exact op_val hwant hgo hst _ (by simp only [execOp, nth]; go_simp <;> omega) rfl
    · intro LL xx ac wc sg hst hwant QQ hgo
      obtain ⟨a22_11, c22_11, _⟩ := xx
      have H := Lib.hid hst
      simp only [sg.anc 11 rfl, sg.self, sg.des 16 rfl, cond_true, cond_false] at H
      refine hpA_alloc tykeys_Keys H rfl rfl ?_
      intro wd b15 H2
      exact hgo _ (a22_11, c22_11, b15) _ (sg.agree (x' := (a22_11, c22_11, b15)) (n := 18) rfl (by (iterate 18 (refine ix_cons (by first | exact fun _ => rfl | exact no sg.self | exact no (sg.des _ rfl)) ?_)); exact ix_nil)) rfl (by simp only [(show upd LL 15 11 = LL 11 from rfl), sg.anc 11 rfl, (show upd LL 15 15 = true from rfl), (show upd LL 15 16 = LL 16 from rfl), sg.des 16 rfl, cond_true, cond_false]; exact H2.out)
    · intro LL xx ac wc sg hst hwant QQ hgo
      obtain ⟨a22_11, c22_11, b15⟩ := xx
      have H := Lib.hid hst
      simp only [sg.anc 11 rfl, sg.anc 15 rfl, sg.self, cond_true, cond_false] at H
      refine hpA_store tykeys_Keys H rfl rfl (sg.slot 15 (sg.anc 15 rfl)) (sg.slot 13 (sg.anc 13 rfl)) rfl (by repeat (first | apply Put.head | apply Put.tail)) (by simp [kA, kL, rkA, rkL, cA, cL]) (by simp [kA, kL, rkA, rkL, cA, cL, Value.oneCell']) (by first | rfl | (simp only [spl]; rfl)) rfl ?_
      intro wd H2
      exact hgo _ (a22_11, c22_11, b15) _ (sg.agree (x' := (a22_11, c22_11, b15)) (n := 18) rfl (by (iterate 18 (refine ix_cons (by first | exact fun _ => rfl | exact no sg.self | exact no (sg.des _ rfl)) ?_)); exact ix_nil)) rfl (by simp only [(show upd LL 16 11 = LL 11 from rfl), sg.anc 11 rfl, (show upd LL 16 15 = LL 15 from rfl), sg.anc 15 rfl, (show upd LL 16 16 = true from rfl), cond_true, cond_false]; exact H2.out)
    · intro LL xx ac wc sg hst hwant QQ hgo
      obtain ⟨a22_11, c22_11, b15⟩ := xx
      exact op_val hwant hgo hst _ (exec_assign rfl (sg.slot 14 (sg.anc 14 rfl))) rfl
  · exact skips [] (by kernel_rfl) (fun _ h => by cases h)
  · intro xx ac1 wz hfr hsl hst
    obtain ⟨a22_11, c22_11, b15⟩ := xx
    exact hfin a22_11 c22_11 b15 ac1 wz (hfr.size.trans hz) hfr.defers (fr_keep hfr [15, 16, 135, 136, 137, 138, 139, 140, 141, 142, 143, 144, 145, 146, 147, 148, 149] (by kernel_rfl)) (hsl 15 (by decide)) (hsl 17 (by decide)) (Lib.hid hst)
set_option maxRecDepth 20000 in
theorem once_w_r23x1 (c : Cfg) (rc : Nat) (acts : List ActK) (b2 : Nat) (b5 : Nat) (i : Nat) (a : Option Addr) (cc : Nat) (ps : List PairV) (now : Int) (ad : Option Addr) (cd : Nat) (ds : List ActK) (hi : i ≤ acts.length) (hi2 : i ≤ 80) (hl : ps.length ≤ i) (hd : ds.length ≤ i) (hn0 : 0 ≤ now) (hn1 : now ≤ 3 * i) (z1ld : i < acts.length) (z1rd : (i : Int) < 80) (y : Addr) (x : ActK) (hk0 : 0 ≤ x.key) (hk1 : x.key ≤ 18446744073709551615) (b9 : Nat) (z2d : ¬ (40 < (x.body.size : Int))) (m : Nat) (hm1 : m ≤ 3) (hm : IntKind.i64.wrap ((IntKind.u64.wrap x.now).tmod 4) = (m : Int)) (hm0 : now ≤ now + m) (hxb : x.body.size ≤ 40) (hfl : (ps.filter (keepB (mkC c) (now + m))).length ≤ i) (j : Nat) (hj0 : j ≤ ds.length) (z3d : ¬ (j < ds.length)) (y6o : ((lookV (mkC c) ps (now + m) x.who x.key x.body).2 == 1) = true) (a22_11 : Option Addr) (c22_11 : Nat) (b15 : Nat) {wa wb : World} (H : Hid (Hp [] wa wb [rB b15 84 (kL (mkC c) (mkR c) (.slice a22_11 ((wOnce c ps (now + m) x).length) c22_11)), rS a22_11 c22_11 4 ((wOnce c ps (now + m) x).map rowOf), rB b9 87 [.int .i64 x.kind, .int .i64 x.now, .int .i64 x.who, .int .u64 x.key, .string x.body], rA ad cd 87 5 (ds.map actRow), rB b5 84 (kL (mkC c) (mkR c) (.slice a ps.length cc)), rB b2 24 (cL c), rS a cc 4 (ps.map rowOf), rS (some y) rc 5 (acts.map actRow)])) (ac0 : Act) (hz : ac0.tmps.size = 192) (so2 : ac0.eval (.tmp 2) = .pointer (some ⟨b2, 0, none⟩)) (so5 : ac0.eval (.tmp 5) = .pointer (some ⟨b5, 0, none⟩)) (so6 : ac0.eval (.tmp 6) = .int .i64 (now + m)) (so11 : ac0.eval (.tmp 11) = .int .i64 ((lookV (mkC c) ps (now + m) x.who x.key x.body).2)) (so16 : ac0.eval (.tmp 16) = .int .i64 0) {QR : Exit → Act → World → Prop} (hfin : ∀ (ac1 : Act) (wz : World), ac1.tmps.size = 192 → ac1.defers = ac0.defers → (∀ t, ([150, 151, 152, 153, 154, 155, 156, 157, 158, 159, 160, 161, 162, 163, 164, 165, 166, 167, 168] : List Nat).contains t = false → ac1.eval (.tmp t) = ac0.eval (.tmp t)) → ac1.eval (.tmp 168) = .bool ((decide (c.keys < ((ps.filter (keepB (mkC c) (now + m))).length : Int))) && (((ps.filter (keepB (mkC c) (now + m))).length : Int) != 0)) →  Hid (Hp [] wa wz [rB b15 84 (kL (mkC c) (mkR c) (.slice a22_11 ((wOnce c ps (now + m) x).length) c22_11)), rS a22_11 c22_11 4 ((wOnce c ps (now + m) x).map rowOf), rB b9 87 [.int .i64 x.kind, .int .i64 x.now, .int .i64 x.who, .int .u64 x.key, .string x.body], rA ad cd 87 5 (ds.map actRow), rB b5 84 (kL (mkC c) (mkR c) (.slice a ps.length cc)), rB b2 24 (cL c), rS a cc 4 (ps.map rowOf), rS (some y) rc 5 (acts.map actRow)]) → QR .normal ac1 wz) : (regAt Try.f10 23).wp Try.prog QR ac0 wb := by
  refine wp_region_st mixedP ⟨[0, 1, 0, 1, 2, 3, 4, 4, 5, 4, 5, 6, 7, 8, 8, 9, 10, 11, 12], by kernel_rfl⟩ [[], [0], [], [2], [0, 1, 2, 3], [0, 1, 2, 3, 4], [0, 1, 2, 3, 4, 5], [0, 1, 2, 3, 4, 5], [0, 1, 2, 3, 4, 5, 6, 7], [0, 1, 2, 3, 4, 5], [0, 1, 2, 3, 4, 5, 9], [0, 1, 2, 3, 4, 5, 6, 7, 8, 9, 10], [0, 1, 2, 3, 4, 5, 6, 7, 8, 9, 10, 11], [0, 1, 2, 3, 4, 5, 6, 7, 8, 9, 10, 11, 12], [0, 1, 2, 3, 4, 5, 6, 7, 8, 9, 10, 11, 12], [0, 1, 2, 3, 4, 5, 6, 7, 8, 9, 10, 11, 12, 13, 14], [0, 1, 2, 3, 4, 5, 6, 7, 8, 9, 10, 11, 12, 13, 14, 15], [0, 1, 2, 3, 4, 5, 6, 7, 8, 9, 10, 11, 12, 13, 14, 15, 16], [0, 1, 2, 3, 4, 5, 6, 7, 8, 9, 10, 11, 12, 13, 14, 15, 16, 17]] (by kernel_rfl) (by kernel_rfl) 192 hz (by kernel_rfl) (fun (xx : Unit) jx => nth [.int .i64 0, .bool true, .int .i64 ((lookV (mkC c) ps (now + m) x.who x.key x.body).2), .bool true, .bool false, .bool false, .agg (kA (mkC c) (mkR c) (.slice a ps.length cc)), .int .i64 (now + m), .int .i64 ((ps.filter (keepB (mkC c) (now + m))).length), .pointer (some ⟨b2, 5, none⟩), .int .i64 c.keys, .bool (decide (c.keys < ((ps.filter (keepB (mkC c) (now + m))).length : Int))), .bool (decide (c.keys < ((ps.filter (keepB (mkC c) (now + m))).length : Int))), bif (decide (c.keys < ((ps.filter (keepB (mkC c) (now + m))).length : Int))) then .agg (kA (mkC c) (mkR c) (.slice a ps.length cc)) else undef, bif (decide (c.keys < ((ps.filter (keepB (mkC c) (now + m))).length : Int))) then .int .i64 (now + m) else undef, bif (decide (c.keys < ((ps.filter (keepB (mkC c) (now + m))).length : Int))) then .int .i64 ((ps.filter (keepB (mkC c) (now + m))).length) else undef, bif (decide (c.keys < ((ps.filter (keepB (mkC c) (now + m))).length : Int))) then .bool (((ps.filter (keepB (mkC c) (now + m))).length : Int) != 0) else undef, .bool ((decide (c.keys < ((ps.filter (keepB (mkC c) (now + m))).length : Int))) && (((ps.filter (keepB (mkC c) (now + m))).length : Int) != 0)), .bool ((decide (c.keys < ((ps.filter (keepB (mkC c) (now + m))).length : Int))) && (((ps.filter (keepB (mkC c) (now + m))).length : Int) != 0))] jx) (fun (LL : Nat → Bool) (xx : Unit) ww => Hp [] wa ww [rB b15 84 (kL (mkC c) (mkR c) (.slice a22_11 ((wOnce c ps (now + m) x).length) c22_11)), rS a22_11 c22_11 4 ((wOnce c ps (now + m) x).map rowOf), rB b9 87 [.int .i64 x.kind, .int .i64 x.now, .int .i64 x.who, .int .u64 x.key, .string x.body], rA ad cd 87 5 (ds.map actRow), rB b5 84 (kL (mkC c) (mkR c) (.slice a ps.length cc)), rB b2 24 (cL c), rS a cc 4 (ps.map rowOf), rS (some y) rc 5 (acts.map actRow)]) () H.out.drew ?_ (steps_al ?_) ?_ ?_
  · exact fun _ _ _ _ _ h => h
  · refine al_cons ?_ (al_cons ?_ (al_cons ?_ (al_cons ?_ (al_cons ?_ (al_cons ?_ (al_cons ?_ (al_cons ?_ (al_cons ?_ (al_cons ?_ (al_cons ?_ (al_cons ?_ (al_cons ?_ (al_cons ?_ (al_cons ?_ (al_cons ?_ (al_cons ?_ (al_cons ?_ (al_cons ?_ (al_nil)))))))))))))))))))
    · intro LL xx ac wc sg hst hwant QQ hgo
      exact op_val hwant hgo hst _ (exec_move rfl ((sg.free 16 (by kernel_rfl)).trans so16)) rfl
    · intro LL xx ac wc sg hst hwant QQ hgo
      have se150 : ac.eval (.tmp 150) = _ := (sg.slot 0 (sg.anc 0 rfl))
      have sg150 := gt_of se150
      (try simp only [nth] at se150 sg150)
      exact op_val hwant hgo hst _ (by simp only [execOp, nth]; go_simp <;> omega) rfl
    · intro LL xx ac wc sg hst hwant QQ hgo
      exact op_val hwant hgo hst _ (exec_move rfl ((sg.free 11 (by kernel_rfl)).trans so11)) rfl
    · intro LL xx ac wc sg hst hwant QQ hgo
      have se152 : ac.eval (.tmp 152) = _ := (sg.slot 2 (sg.anc 2 rfl))
      have sg152 := gt_of se152
      (try simp only [nth] at se152 sg152)
      exact op_val hwant hgo hst _ (by simp only [execOp, nth]; go_simp <;> omega) rfl
    · intro LL xx ac wc sg hst hwant QQ hgo
      have se151 : ac.eval (.tmp 151) = _ := (sg.slot 1 (sg.anc 1 rfl))
      have sg151 := gt_of se151
      have se153 : ac.eval (.tmp 153) = _ := (sg.slot 3 (sg.anc 3 rfl))
      have sg153 := gt_of se153
      (try simp only [nth] at se151 sg151 se153 sg153)
      exact op_val hwant hgo hst _ (by simp only [execOp, nth]; go_simp <;> omega) rfl
    · intro LL xx ac wc sg hst hwant QQ hgo
      exact op_val hwant hgo hst _ (exec_move rfl (sg.slot 4 (sg.anc 4 rfl))) rfl
    · intro LL xx ac wc sg hst hwant QQ hgo
      have H := Lib.hid hst
      refine hpA_load tykeys_Keys H rfl ((sg.free 5 (by kernel_rfl)).trans so5) hwant (by (repeat (first | exact List.Mem.head _ | apply List.Mem.tail))) (by rfl) rfl ?_
      exact hgo _ () _ (fun _ _ => rfl) rfl hst
    · intro LL xx ac wc sg hst hwant QQ hgo
      exact op_val hwant hgo hst _ (exec_move rfl ((sg.free 6 (by kernel_rfl)).trans so6)) rfl
    · intro LL xx ac wc sg hst hwant QQ hgo
      have se156 : ac.eval (.tmp 156) = _ := (sg.slot 6 (sg.anc 6 rfl))
      have sg156 := gt_of se156
      have se157 : ac.eval (.tmp 157) = _ := (sg.slot 7 (sg.anc 7 rfl))
      have sg157 := gt_of se157
      (try simp only [nth] at se156 sg156 se157 sg157)
      have H := Lib.hid hst
      refine op_call hwant hgo 51 _ (by simp only [execOp]; go_simp) (countC (mkC c) (mkR c) a cc ps (now + m) wc (hp_held H (by (repeat (first | exact List.Mem.head _ | apply List.Mem.tail)))) (by omega)) ?_
      rintro er wd ⟨rfl, hof⟩
      exact ⟨_, (), rfl, fun _ _ => rfl, rfl, Hp.quiet hst hof⟩
    · intro LL xx ac wc sg hst hwant QQ hgo
      have se2 : ac.eval (.tmp 2) = _ := ((sg.free 2 (by kernel_rfl)).trans so2)
      have sg2 := gt_of se2
      exact op_val hwant hgo hst _ (by simp only [execOp, nth]; go_simp <;> omega) rfl
    · intro LL xx ac wc sg hst hwant QQ hgo
      have H := Lib.hid hst
      refine hpA_load1 tyint H rfl (sg.slot 9 (sg.anc 9 rfl)) hwant (by (repeat (first | exact List.Mem.head _ | apply List.Mem.tail))) (by rfl) ?_
      exact hgo _ () _ (fun _ _ => rfl) rfl hst
    · intro LL xx ac wc sg hst hwant QQ hgo
      have se158 : ac.eval (.tmp 158) = _ := (sg.slot 8 (sg.anc 8 rfl))
      have sg158 := gt_of se158
      have se160 : ac.eval (.tmp 160) = _ := (sg.slot 10 (sg.anc 10 rfl))
      have sg160 := gt_of se160
      (try simp only [nth] at se158 sg158 se160 sg160)
      exact op_val hwant hgo hst _ (by simp only [execOp, nth]; go_simp <;> omega) rfl
    · intro LL xx ac wc sg hst hwant QQ hgo
      exact op_val hwant hgo hst _ (exec_move rfl (sg.slot 11 (sg.anc 11 rfl))) rfl
    · intro LL xx ac wc sg hst hwant QQ hgo
      have hG : (decide (c.keys < ((ps.filter (keepB (mkC c) (now + m))).length : Int))) = true := (want_t rfl rfl (sg.slot 12 (sg.anc 12 rfl))).symm.trans hwant
      have H := Lib.hid hst
      refine hpA_load tykeys_Keys H rfl ((sg.free 5 (by kernel_rfl)).trans so5) hwant (by (repeat (first | exact List.Mem.head _ | apply List.Mem.tail))) (by rfl) rfl ?_
      exact hgo _ () _ (fun _ _ => rfl) (cI hG) hst
    · intro LL xx ac wc sg hst hwant QQ hgo
      have hG : (decide (c.keys < ((ps.filter (keepB (mkC c) (now + m))).length : Int))) = true := (want_t rfl rfl (sg.slot 12 (sg.anc 12 rfl))).symm.trans hwant
      exact op_val hwant hgo hst _ (exec_move rfl ((sg.free 6 (by kernel_rfl)).trans so6)) (cI hG)
    · intro LL xx ac wc sg hst hwant QQ hgo
      have hG : (decide (c.keys < ((ps.filter (keepB (mkC c) (now + m))).length : Int))) = true := (want_t rfl rfl (sg.slot 12 (sg.anc 12 rfl))).symm.trans hwant
      have se163 : ac.eval (.tmp 163) = _ := (cT (sg.slot 13 (sg.anc 13 rfl)) hG)
      have sg163 := gt_of se163
      have se164 : ac.eval (.tmp 164) = _ := (cT (sg.slot 14 (sg.anc 14 rfl)) hG)
      have sg164 := gt_of se164
      (try simp only [nth] at se163 sg163 se164 sg164)
      have H := Lib.hid hst
      refine op_call hwant hgo 51 _ (by simp only [execOp]; go_simp) (countC (mkC c) (mkR c) a cc ps (now + m) wc (hp_held H (by (repeat (first | exact List.Mem.head _ | apply List.Mem.tail)))) (by omega)) ?_
      rintro er wd ⟨rfl, hof⟩
      exact ⟨_, (), rfl, fun _ _ => rfl, (cI hG), Hp.quiet hst hof⟩
    · intro LL xx ac wc sg hst hwant QQ hgo
      have hG : (decide (c.keys < ((ps.filter (keepB (mkC c) (now + m))).length : Int))) = true := (want_t rfl rfl (sg.slot 12 (sg.anc 12 rfl))).symm.trans hwant
      have se165 : ac.eval (.tmp 165) = _ := (cT (sg.slot 15 (sg.anc 15 rfl)) hG)
      have sg165 := gt_of se165
      (try simp only [nth] at se165 sg165)
      exact op_val hwant hgo hst _ (by simp only [execOp, nth]; go_simp <;> omega) (cI hG)
    · intro LL xx ac wc sg hst hwant QQ hgo
      exact op_val hwant hgo hst (.bool ((decide (c.keys < ((ps.filter (keepB (mkC c) (now + m))).length : Int))) && (((ps.filter (keepB (mkC c) (now + m))).length : Int) != 0))) (exec_and (Y := ((ps.filter (keepB (mkC c) (now + m))).length : Int) != 0) rfl (sg.slot 12 (sg.anc 12 rfl)) (fun qq => cT (sg.slot 16 (sg.anc 16 rfl)) qq)) rfl
    · intro LL xx ac wc sg hst hwant QQ hgo
      exact op_val hwant hgo hst (.bool ((decide (c.keys < ((ps.filter (keepB (mkC c) (now + m))).length : Int))) && (((ps.filter (keepB (mkC c) (now + m))).length : Int) != 0))) (exec_pick (B := false) (U := undef) (V := .bool ((decide (c.keys < ((ps.filter (keepB (mkC c) (now + m))).length : Int))) && (((ps.filter (keepB (mkC c) (now + m))).length : Int) != 0))) rfl (sg.slot 5 (sg.anc 5 rfl)) (fun h => by cases h) (fun _ => (sg.slot 17 (sg.anc 17 rfl)))) rfl
  · refine skips [6, 7, 8, 9, 10, 11, 12, 13, 14, 15, 16, 17] (by kernel_rfl) ?_
    refine List.forall_mem_cons.2 ⟨?_, List.forall_mem_cons.2 ⟨?_, List.forall_mem_cons.2 ⟨?_, List.forall_mem_cons.2 ⟨?_, List.forall_mem_cons.2 ⟨?_, List.forall_mem_cons.2 ⟨?_, List.forall_mem_cons.2 ⟨?_, List.forall_mem_cons.2 ⟨?_, List.forall_mem_cons.2 ⟨?_, List.forall_mem_cons.2 ⟨?_, List.forall_mem_cons.2 ⟨?_, List.forall_mem_cons.2 ⟨?_, fun _ h => by cases h⟩⟩⟩⟩⟩⟩⟩⟩⟩⟩⟩⟩
    · intro oo hop LL xx ac sg hwant
      cases Option.some.inj hop
      exact absurd ((want_f rfl rfl (sg.slot 5 (sg.anc 5 rfl))).symm.trans hwant) (by decide)
    · intro oo hop LL xx ac sg hwant
      cases Option.some.inj hop
      exact absurd ((want_f rfl rfl (sg.slot 5 (sg.anc 5 rfl))).symm.trans hwant) (by decide)
    · intro oo hop LL xx ac sg hwant
      cases Option.some.inj hop
      exact absurd ((want_f rfl rfl (sg.slot 5 (sg.anc 5 rfl))).symm.trans hwant) (by decide)
    · intro oo hop LL xx ac sg hwant
      cases Option.some.inj hop
      exact absurd ((want_f rfl rfl (sg.slot 5 (sg.anc 5 rfl))).symm.trans hwant) (by decide)
    · intro oo hop LL xx ac sg hwant
      cases Option.some.inj hop
      exact absurd ((want_f rfl rfl (sg.slot 5 (sg.anc 5 rfl))).symm.trans hwant) (by decide)
    · intro oo hop LL xx ac sg hwant
      cases Option.some.inj hop
      exact absurd ((want_f rfl rfl (sg.slot 5 (sg.anc 5 rfl))).symm.trans hwant) (by decide)
    · intro oo hop LL xx ac sg hwant
      cases Option.some.inj hop
      exact absurd ((want_f rfl rfl (sg.slot 5 (sg.anc 5 rfl))).symm.trans hwant) (by decide)
    · intro oo hop LL xx ac sg hwant
      cases Option.some.inj hop
      have hG : (decide (c.keys < ((ps.filter (keepB (mkC c) (now + m))).length : Int))) = false := (want_t rfl rfl (sg.slot 12 (sg.anc 12 rfl))).symm.trans hwant
      exact ⟨cF hG, fun _ h => h⟩
    · intro oo hop LL xx ac sg hwant
      cases Option.some.inj hop
      have hG : (decide (c.keys < ((ps.filter (keepB (mkC c) (now + m))).length : Int))) = false := (want_t rfl rfl (sg.slot 12 (sg.anc 12 rfl))).symm.trans hwant
      exact ⟨cF hG, fun _ h => h⟩
    · intro oo hop LL xx ac sg hwant
      cases Option.some.inj hop
      have hG : (decide (c.keys < ((ps.filter (keepB (mkC c) (now + m))).length : Int))) = false := (want_t rfl rfl (sg.slot 12 (sg.anc 12 rfl))).symm.trans hwant
      exact ⟨cF hG, fun _ h => h⟩
    · intro oo hop LL xx ac sg hwant
      cases Option.some.inj hop
      have hG : (decide (c.keys < ((ps.filter (keepB (mkC c) (now + m))).length : Int))) = false := (want_t rfl rfl (sg.slot 12 (sg.anc 12 rfl))).symm.trans hwant
      exact ⟨cF hG, fun _ h => h⟩
    · intro oo hop LL xx ac sg hwant
      cases Option.some.inj hop
      exact absurd ((want_f rfl rfl (sg.slot 5 (sg.anc 5 rfl))).symm.trans hwant) (by decide)
  · intro xx ac1 wz hfr hsl hst
    exact hfin ac1 wz (hfr.size.trans hz) hfr.defers (fr_keep hfr [150, 151, 152, 153, 154, 155, 156, 157, 158, 159, 160, 161, 162, 163, 164, 165, 166, 167, 168] (by kernel_rfl)) (hsl 18 (by decide)) (Lib.hid hst)
set_option maxRecDepth 20000 in
theorem once_w_r25x1 (c : Cfg) (rc : Nat) (acts : List ActK) (b2 : Nat) (b5 : Nat) (i : Nat) (a : Option Addr) (cc : Nat) (ps : List PairV) (now : Int) (ad : Option Addr) (cd : Nat) (ds : List ActK) (hi : i ≤ acts.length) (hi2 : i ≤ 80) (hl : ps.length ≤ i) (hd : ds.length ≤ i) (hn0 : 0 ≤ now) (hn1 : now ≤ 3 * i) (z1ld : i < acts.length) (z1rd : (i : Int) < 80) (y : Addr) (x : ActK) (hk0 : 0 ≤ x.key) (hk1 : x.key ≤ 18446744073709551615) (b9 : Nat) (z2d : ¬ (40 < (x.body.size : Int))) (m : Nat) (hm1 : m ≤ 3) (hm : IntKind.i64.wrap ((IntKind.u64.wrap x.now).tmod 4) = (m : Int)) (hm0 : now ≤ now + m) (hxb : x.body.size ≤ 40) (hfl : (ps.filter (keepB (mkC c) (now + m))).length ≤ i) (j : Nat) (hj0 : j ≤ ds.length) (z3d : ¬ (j < ds.length)) (a22_11 : Option Addr) (c22_11 : Nat) (b15 : Nat) {wa wb : World} (H : Hid (Hp [] wa wb [rB b15 84 (kL (mkC c) (mkR c) (.slice a22_11 ((wOnce c ps (now + m) x).length) c22_11)), rS a22_11 c22_11 4 ((wOnce c ps (now + m) x).map rowOf), rB b9 87 [.int .i64 x.kind, .int .i64 x.now, .int .i64 x.who, .int .u64 x.key, .string x.body], rA ad cd 87 5 (ds.map actRow), rB b5 84 (kL (mkC c) (mkR c) (.slice a ps.length cc)), rB b2 24 (cL c), rS a cc 4 (ps.map rowOf), rS (some y) rc 5 (acts.map actRow)])) (ac0 : Act) (hz : ac0.tmps.size = 192) (so16 : ac0.eval (.tmp 16) = .int .i64 0) {QR : Exit → Act → World → Prop} (hfin : ∀ (ac1 : Act) (wz : World), ac1.tmps.size = 192 → ac1.defers = ac0.defers → (∀ t, ([169, 170] : List Nat).contains t = false → ac1.eval (.tmp t) = ac0.eval (.tmp t)) → ac1.eval (.tmp 170) = .bool true →  Hid (Hp [] wa wz [rB b15 84 (kL (mkC c) (mkR c) (.slice a22_11 ((wOnce c ps (now + m) x).length) c22_11)), rS a22_11 c22_11 4 ((wOnce c ps (now + m) x).map rowOf), rB b9 87 [.int .i64 x.kind, .int .i64 x.now, .int .i64 x.who, .int .u64 x.key, .string x.body], rA ad cd 87 5 (ds.map actRow), rB b5 84 (kL (mkC c) (mkR c) (.slice a ps.length cc)), rB b2 24 (cL c), rS a cc 4 (ps.map rowOf), rS (some y) rc 5 (acts.map actRow)]) → QR .normal ac1 wz) : (regAt Try.f10 25).wp Try.prog QR ac0 wb := by
  refine wp_region_sq (by kernel_rfl) 192 hz (by kernel_rfl) (fun (xx : Unit) jx => nth [.int .i64 0, .bool true] jx) (fun (LL : Nat → Bool) (xx : Unit) ww => Hp [] wa ww [rB b15 84 (kL (mkC c) (mkR c) (.slice a22_11 ((wOnce c ps (now + m) x).length) c22_11)), rS a22_11 c22_11 4 ((wOnce c ps (now + m) x).map rowOf), rB b9 87 [.int .i64 x.kind, .int .i64 x.now, .int .i64 x.who, .int .u64 x.key, .string x.body], rA ad cd 87 5 (ds.map actRow), rB b5 84 (kL (mkC c) (mkR c) (.slice a ps.length cc)), rB b2 24 (cL c), rS a cc 4 (ps.map rowOf), rS (some y) rc 5 (acts.map actRow)]) () H.out ?_ (steps_al ?_) ?_ ?_
  · exact fun _ _ _ _ _ h => h
  · refine al_cons ?_ (al_cons ?_ (al_nil))
    · intro LL xx ac wc sg hst hwant QQ hgo
      exact op_val hwant hgo hst _ (exec_move rfl ((sg.free 16 (by kernel_rfl)).trans so16)) rfl
    · intro LL xx ac wc sg hst hwant QQ hgo
      have se169 : ac.eval (.tmp 169) = _ := (sg.slot 0 (sg.anc 0 rfl))
      have sg169 := gt_of se169
      (try simp only [nth] at se169 sg169)
      exact op_val hwant hgo hst _ (by simp only [execOp, nth]; go_simp <;> omega) rfl
  · exact skips [] (by kernel_rfl) (fun _ h => by cases h)
  · intro xx ac1 wz hfr hsl hst
    exact hfin ac1 wz (hfr.size.trans hz) hfr.defers (fr_keep hfr [169, 170] (by kernel_rfl)) (hsl 1 (by decide)) (Lib.hid hst)
end Go.Proofs.Ytfhhfmkfkoemjaa.Se6
