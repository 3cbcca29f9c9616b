/- Keys: With, Make, Equal. -/
import Derived.Test.YtfhhfmkfkoemjaaProg
import Derived.Below
import Derived.WalkKit
import Derived.KernelRfl
import Derived.RowKit3
import Derived.Deep.LoopGhost
import Derived.Deep.QuietTactic
import Derived.BigQuiet
import Derived.WideLaws
import Derived.Deep.DeepCutAuto
import Derived.Deep.CutBlock
import Derived.Lib.Hide
import Derived.Laws.BitsLemmas
import Derived.Laws.Bits64
import Derived.Laws.BitsAllLaws
import Derived.IntWalk
import Derived.Outline
import Derived.WalkSpells
import Derived.Test.YtfhhfmkfkoemjaaMem
import Derived.Test.YtfhhfmkfkoemjaaKy2
namespace Go.Proofs.Ytfhhfmkfkoemjaa.Se6
open Go.RowKit Go.Proofs.Ytfhhfmkfkoemjaa.Mem Go.Proofs.Ytfhhfmkfkoemjaa.Reg Go.Proofs.Ytfhhfmkfkoemjaa.Pk Go.Proofs.Ytfhhfmkfkoemjaa.Si
set_option linter.unusedVariables false
set_option linter.unusedSimpArgs false

theorem rS_nil (w : World) (k : Nat) : (rS none 0 k (([] : List PairV).map rowOf)).holds w := ⟨.inl ⟨rfl, rfl⟩, Wf.nil _⟩
set_option maxRecDepth 20000 in
theorem withNo_r0 (c : Cfg) (room : Int) (a : Option Addr) (cc : Nat) (ps : List PairV) (now : Int) (who : Int) (key : Int) (body : ByteArray) (hk0 : 0 ≤ key) (hk1 : key ≤ 18446744073709551615) (hb : ps.length ≤ 1000000) (q : ((lookV c ps now who key body).2 != 1) = true) {wa wb : World} (H : Hid (Hp [] wa wb [rS a cc 4 (ps.map rowOf)])) (ac0 : Act) (hz : ac0.tmps.size = 49) (so0 : ac0.eval (.tmp 0) = .agg (kA c room (.slice a ps.length cc))) {QR : Exit → Act → World → Prop} (hfin : ∀ (b6 : Nat) (b12 : Nat) (ac1 : Act) (wz : World), ac1.tmps.size = 49 → ac1.defers = ac0.defers → (∀ t, ([6, 12, 13] : List Nat).contains t = false → ac1.eval (.tmp t) = ac0.eval (.tmp t)) → ac1.eval (.tmp 6) = .pointer (some ⟨b6, 0, none⟩) → ac1.eval (.tmp 12) = .pointer (some ⟨b12, 0, none⟩) → ac1.eval (.tmp 13) = .int .i64 0 →  Hid (Hp [] wa wz [rB b12 84 [.int .i64 0, .int .i64 0, .int .i64 0, .int .i64 0, .int .i64 0, .int .i64 0, .int .i64 0, .int .i64 0, .int .i64 0, .int .i64 0, .int .i64 0, .int .i64 0, .int .i64 0, .int .i64 0, .int .i64 0, .int .i64 0, .int .i64 0, .int .u32 0, .int .i64 0, .slice none 0 0], rB b6 84 (kL c room (.slice a ps.length cc)), rS a cc 4 (ps.map rowOf)]) → QR .normal ac1 wz) : (regAt Try.f50 0).wp Try.prog QR ac0 wb := by
  refine wp_region_sq (by kernel_rfl) 49 hz (by kernel_rfl) (fun (xx : Nat × Nat) jx => match xx with | (b6, b12) => nth [.pointer (some ⟨b6, 0, none⟩), .pointer (some ⟨b12, 0, none⟩), .int .i64 0] jx) (fun (LL : Nat → Bool) (xx : Nat × Nat) ww => match xx with | (b6, b12) => Hp [] wa ww (bif LL 1 then [rB b12 84 [.int .i64 0, .int .i64 0, .int .i64 0, .int .i64 0, .int .i64 0, .int .i64 0, .int .i64 0, .int .i64 0, .int .i64 0, .int .i64 0, .int .i64 0, .int .i64 0, .int .i64 0, .int .i64 0, .int .i64 0, .int .i64 0, .int .i64 0, .int .u32 0, .int .i64 0, .slice none 0 0], rB b6 84 (kL c room (.slice a ps.length cc)), rS a cc 4 (ps.map rowOf)] else (bif LL 0 then [rB b6 84 (kL c room (.slice a ps.length cc)), rS a cc 4 (ps.map rowOf)] else [rS a cc 4 (ps.map rowOf)]))) (default, default) H.out ?_ (steps_al ?_) ?_ ?_
  · intro L1 L2 xx ww hL sg
    have lh0 := hL 0 (by decide)
    have lh1 := hL 1 (by decide)
    simp only [lh0, lh1] at sg
    exact sg
  · refine al_cons ?_ (al_cons ?_ (al_cons ?_ (al_nil)))
    · intro LL xx ac wc sg hst hwant QQ hgo
      obtain ⟨_, b12⟩ := xx
      have H := Lib.hid hst
      simp only [sg.self, sg.des 1 rfl, cond_true, cond_false] at H
      refine hp_box rfl 84 _ rfl _ ((sg.free 0 (by kernel_rfl)).trans so0) _ (by rfl) H ?_
      intro wd b6 H2
      exact hgo _ (b6, b12) _ (sg.agree (x' := (b6, b12)) (n := 3) rfl (by (iterate 3 (refine ix_cons (by first | exact fun _ => rfl | exact no sg.self | exact no (sg.des _ rfl)) ?_)); exact ix_nil)) rfl (by simp only [(show upd LL 0 0 = true from rfl), (show upd LL 0 1 = LL 1 from rfl), sg.des 1 rfl, cond_true, cond_false]; exact H2.out)
    · intro LL xx ac wc sg hst hwant QQ hgo
      obtain ⟨b6, _⟩ := xx
      have H := Lib.hid hst
      simp only [sg.anc 0 rfl, sg.self, cond_true, cond_false] at H
      refine hpA_alloc tykeys_Keys H rfl rfl ?_
      intro wd b12 H2
      exact hgo _ (b6, b12) _ (sg.agree (x' := (b6, b12)) (n := 3) rfl (by (iterate 3 (refine ix_cons (by first | exact fun _ => rfl | exact no sg.self | exact no (sg.des _ rfl)) ?_)); exact ix_nil)) rfl (by simp only [(show upd LL 1 0 = LL 0 from rfl), sg.anc 0 rfl, (show upd LL 1 1 = true from rfl), cond_true, cond_false]; exact H2.out)
    · intro LL xx ac wc sg hst hwant QQ hgo
      obtain ⟨b6, b12⟩ := xx
      exact op_val hwant hgo hst _ (exec_assign rfl rfl) rfl
  · exact skips [] (by kernel_rfl) (fun _ h => by cases h)
  · intro xx ac1 wz hfr hsl hst
    obtain ⟨b6, b12⟩ := xx
    exact hfin b6 b12 ac1 wz (hfr.size.trans hz) hfr.defers (fr_keep hfr [6, 12, 13] (by kernel_rfl)) (hsl 0 (by decide)) (hsl 1 (by decide)) (hsl 2 (by decide)) (Lib.hid hst)
set_option maxRecDepth 20000 in
theorem withNo_r1 (c : Cfg) (room : Int) (a : Option Addr) (cc : Nat) (ps : List PairV) (now : Int) (who : Int) (key : Int) (body : ByteArray) (hk0 : 0 ≤ key) (hk1 : key ≤ 18446744073709551615) (hs : Hid (Sorted ps)) (hb : ps.length ≤ 1000000) (q : ((lookV c ps now who key body).2 != 1) = true) (b6 : Nat) (b12 : Nat) {wa wb : World} (H : Hid (Hp [] wa wb [rB b12 84 [.int .i64 0, .int .i64 0, .int .i64 0, .int .i64 0, .int .i64 0, .int .i64 0, .int .i64 0, .int .i64 0, .int .i64 0, .int .i64 0, .int .i64 0, .int .i64 0, .int .i64 0, .int .i64 0, .int .i64 0, .int .i64 0, .int .i64 0, .int .u32 0, .int .i64 0, .slice none 0 0], rB b6 84 (kL c room (.slice a ps.length cc)), rS a cc 4 (ps.map rowOf)])) (ac0 : Act) (hz : ac0.tmps.size = 49) (so1 : ac0.eval (.tmp 1) = .int .i64 now) (so2 : ac0.eval (.tmp 2) = .int .i64 who) (so3 : ac0.eval (.tmp 3) = .int .u64 key) (so4 : ac0.eval (.tmp 4) = .string body) (so6 : ac0.eval (.tmp 6) = .pointer (some ⟨b6, 0, none⟩)) {QR : Exit → Act → World → Prop} (hfin : ∀ (ac1 : Act) (wz : World), ac1.tmps.size = 49 → ac1.defers = ac0.defers → (∀ t, ([14, 15, 18, 19, 20, 21, 22, 23, 24, 25, 26] : List Nat).contains t = false → ac1.eval (.tmp t) = ac0.eval (.tmp t)) → ac1.eval (.tmp 15) = .int .i64 ((lookV c ps now who key body).2) →  Hid (Hp [] wa wz [rB b12 84 [.int .i64 0, .int .i64 0, .int .i64 0, .int .i64 0, .int .i64 0, .int .i64 0, .int .i64 0, .int .i64 0, .int .i64 0, .int .i64 0, .int .i64 0, .int .i64 0, .int .i64 0, .int .i64 0, .int .i64 0, .int .i64 0, .int .i64 0, .int .u32 0, .int .i64 0, .slice none 0 0], rB b6 84 (kL c room (.slice a ps.length cc)), rS a cc 4 (ps.map rowOf)]) → QR .normal ac1 wz) : (regAt Try.f50 1).wp Try.prog QR ac0 wb := by
  refine wp_region_sq (by kernel_rfl) 49 hz (by kernel_rfl) (fun (xx : Unit) jx => nth [.agg (kA c room (.slice a ps.length cc)), .int .i64 now, .int .i64 who, .int .u64 key, .string body, .tuple #[.string ((lookV c ps now who key body).1), .int .i64 ((lookV c ps now who key body).2)], .tuple #[.string ((lookV c ps now who key body).1), .int .i64 ((lookV c ps now who key body).2)], .string ((lookV c ps now who key body).1), .int .i64 ((lookV c ps now who key body).2), .string ((lookV c ps now who key body).1), .int .i64 ((lookV c ps now who key body).2)] jx) (fun (LL : Nat → Bool) (xx : Unit) ww => Hp [] wa ww [rB b12 84 [.int .i64 0, .int .i64 0, .int .i64 0, .int .i64 0, .int .i64 0, .int .i64 0, .int .i64 0, .int .i64 0, .int .i64 0, .int .i64 0, .int .i64 0, .int .i64 0, .int .i64 0, .int .i64 0, .int .i64 0, .int .i64 0, .int .i64 0, .int .u32 0, .int .i64 0, .slice none 0 0], rB b6 84 (kL c room (.slice a ps.length cc)), rS a cc 4 (ps.map rowOf)]) () H.out ?_ (steps_al ?_) ?_ ?_
  · exact fun _ _ _ _ _ h => h
  · refine al_cons ?_ (al_cons ?_ (al_cons ?_ (al_cons ?_ (al_cons ?_ (al_cons ?_ (al_cons ?_ (al_cons ?_ (al_cons ?_ (al_cons ?_ (al_cons ?_ (al_nil)))))))))))
    · intro LL xx ac wc sg hst hwant QQ hgo
      have H := Lib.hid hst
      refine hpA_load tykeys_Keys H rfl ((sg.free 6 (by kernel_rfl)).trans so6) hwant (by (repeat (first | exact List.Mem.head _ | apply List.Mem.tail))) (by rfl) rfl ?_
      exact hgo _ () _ (fun _ _ => rfl) rfl hst
    · intro LL xx ac wc sg hst hwant QQ hgo
      exact op_val hwant hgo hst _ (exec_move rfl ((sg.free 1 (by kernel_rfl)).trans so1)) rfl
    · intro LL xx ac wc sg hst hwant QQ hgo
      exact op_val hwant hgo hst _ (exec_move rfl ((sg.free 2 (by kernel_rfl)).trans so2)) rfl
    · intro LL xx ac wc sg hst hwant QQ hgo
      exact op_val hwant hgo hst _ (exec_move rfl ((sg.free 3 (by kernel_rfl)).trans so3)) rfl
    · intro LL xx ac wc sg hst hwant QQ hgo
      exact op_val hwant hgo hst _ (exec_move rfl ((sg.free 4 (by kernel_rfl)).trans so4)) rfl
    · intro LL xx ac wc sg hst hwant QQ hgo
      have se19 : ac.eval (.tmp 19) = _ := (sg.slot 0 (sg.anc 0 rfl))
      have sg19 := gt_of se19
      have se20 : ac.eval (.tmp 20) = _ := (sg.slot 1 (sg.anc 1 rfl))
      have sg20 := gt_of se20
      have se21 : ac.eval (.tmp 21) = _ := (sg.slot 2 (sg.anc 2 rfl))
      have sg21 := gt_of se21
      have se22 : ac.eval (.tmp 22) = _ := (sg.slot 3 (sg.anc 3 rfl))
      have sg22 := gt_of se22
      have se23 : ac.eval (.tmp 23) = _ := (sg.slot 4 (sg.anc 4 rfl))
      have sg23 := gt_of se23
      (try simp only [nth] at se19 sg19 se20 sg20 se21 sg21 se22 sg22 se23 sg23)
      have H := Lib.hid hst
      refine op_call hwant hgo 48 _ (by simp only [execOp]; go_simp) (lookC c room a cc ps now who key body wc (hp_held H (by (repeat (first | exact List.Mem.head _ | apply List.Mem.tail)))) hk0 hk1 hs hb) ?_
      rintro er wd ⟨rfl, hof⟩
      exact ⟨_, (), rfl, fun _ _ => rfl, rfl, Hp.quiet hst hof⟩
    · intro LL xx ac wc sg hst hwant QQ hgo
      exact op_val hwant hgo hst _ (exec_move rfl (sg.slot 5 (sg.anc 5 rfl))) rfl
    · intro LL xx ac wc sg hst hwant QQ hgo
      have se18 : ac.eval (.tmp 18) = _ := (sg.slot 6 (sg.anc 6 rfl))
      have sg18 := gt_of se18
      (try simp only [nth] at se18 sg18)
      exact op_val hwant hgo hst _ (by simp only [execOp, nth]; go_simp <;> omega) rfl
    · intro LL xx ac wc sg hst hwant QQ hgo
      have se18 : ac.eval (.tmp 18) = _ := (sg.slot 6 (sg.anc 6 rfl))
      have sg18 := gt_of se18
      (try simp only [nth] at se18 sg18)
      exact op_val hwant hgo hst _ (by simp only [execOp, nth]; go_simp <;> omega) rfl
    · intro LL xx ac wc sg hst hwant QQ hgo
      exact op_val hwant hgo hst _ (exec_assign rfl (sg.slot 7 (sg.anc 7 rfl))) rfl
    · intro LL xx ac wc sg hst hwant QQ hgo
      exact op_val hwant hgo hst _ (exec_assign rfl (sg.slot 8 (sg.anc 8 rfl))) rfl
  · exact skips [] (by kernel_rfl) (fun _ h => by cases h)
  · intro xx ac1 wz hfr hsl hst
    exact hfin ac1 wz (hfr.size.trans hz) hfr.defers (fr_keep hfr [14, 15, 18, 19, 20, 21, 22, 23, 24, 25, 26] (by kernel_rfl)) (hsl 10 (by decide)) (Lib.hid hst)
set_option maxRecDepth 20000 in
theorem withNo_r2 (c : Cfg) (room : Int) (a : Option Addr) (cc : Nat) (ps : List PairV) (now : Int) (who : Int) (key : Int) (body : ByteArray) (hk0 : 0 ≤ key) (hk1 : key ≤ 18446744073709551615) (hb : ps.length ≤ 1000000) (q : ((lookV c ps now who key body).2 != 1) = true) (b6 : Nat) (b12 : Nat) {wa wb : World} (H : Hid (Hp [] wa wb [rB b12 84 [.int .i64 0, .int .i64 0, .int .i64 0, .int .i64 0, .int .i64 0, .int .i64 0, .int .i64 0, .int .i64 0, .int .i64 0, .int .i64 0, .int .i64 0, .int .i64 0, .int .i64 0, .int .i64 0, .int .i64 0, .int .i64 0, .int .i64 0, .int .u32 0, .int .i64 0, .slice none 0 0], rB b6 84 (kL c room (.slice a ps.length cc)), rS a cc 4 (ps.map rowOf)])) (ac0 : Act) (hz : ac0.tmps.size = 49) (so15 : ac0.eval (.tmp 15) = .int .i64 ((lookV c ps now who key body).2)) {QR : Exit → Act → World → Prop} (hfin : ∀ (ac1 : Act) (wz : World), ac1.tmps.size = 49 → ac1.defers = ac0.defers → (∀ t, ([27, 28] : List Nat).contains t = false → ac1.eval (.tmp t) = ac0.eval (.tmp t)) → ac1.eval (.tmp 28) = .bool true →  Hid (Hp [] wa wz [rB b12 84 [.int .i64 0, .int .i64 0, .int .i64 0, .int .i64 0, .int .i64 0, .int .i64 0, .int .i64 0, .int .i64 0, .int .i64 0, .int .i64 0, .int .i64 0, .int .i64 0, .int .i64 0, .int .i64 0, .int .i64 0, .int .i64 0, .int .i64 0, .int .u32 0, .int .i64 0, .slice none 0 0], rB b6 84 (kL c room (.slice a ps.length cc)), rS a cc 4 (ps.map rowOf)]) → QR .normal ac1 wz) : (regAt Try.f50 2).wp Try.prog QR ac0 wb := by
  refine wp_region_sq (by kernel_rfl) 49 hz (by kernel_rfl) (fun (xx : Unit) jx => nth [.int .i64 ((lookV c ps now who key body).2), .bool true] jx) (fun (LL : Nat → Bool) (xx : Unit) ww => Hp [] wa ww [rB b12 84 [.int .i64 0, .int .i64 0, .int .i64 0, .int .i64 0, .int .i64 0, .int .i64 0, .int .i64 0, .int .i64 0, .int .i64 0, .int .i64 0, .int .i64 0, .int .i64 0, .int .i64 0, .int .i64 0, .int .i64 0, .int .i64 0, .int .i64 0, .int .u32 0, .int .i64 0, .slice none 0 0], rB b6 84 (kL c room (.slice a ps.length cc)), rS a cc 4 (ps.map rowOf)]) () H.out ?_ (steps_al ?_) ?_ ?_
  · exact fun _ _ _ _ _ h => h
  · refine al_cons ?_ (al_cons ?_ (al_nil))
    · intro LL xx ac wc sg hst hwant QQ hgo
      exact op_val hwant hgo hst _ (exec_move rfl ((sg.free 15 (by kernel_rfl)).trans so15)) rfl
    · intro LL xx ac wc sg hst hwant QQ hgo
      have se27 : ac.eval (.tmp 27) = _ := (sg.slot 0 (sg.anc 0 rfl))
      have sg27 := gt_of se27
      (try simp only [nth] at se27 sg27)
      exact op_val hwant hgo hst _ (by simp only [execOp, nth]; go_simp <;> omega) rfl
  · exact skips [] (by kernel_rfl) (fun _ h => by cases h)
  · intro xx ac1 wz hfr hsl hst
    exact hfin ac1 wz (hfr.size.trans hz) hfr.defers (fr_keep hfr [27, 28] (by kernel_rfl)) (hsl 1 (by decide)) (Lib.hid hst)
set_option maxRecDepth 20000 in
theorem withNo_r3 (c : Cfg) (room : Int) (a : Option Addr) (cc : Nat) (ps : List PairV) (now : Int) (who : Int) (key : Int) (body : ByteArray) (hk0 : 0 ≤ key) (hk1 : key ≤ 18446744073709551615) (hb : ps.length ≤ 1000000) (q : ((lookV c ps now who key body).2 != 1) = true) (b6 : Nat) (b12 : Nat) {wa wb : World} (H : Hid (Hp [] wa wb [rB b12 84 [.int .i64 0, .int .i64 0, .int .i64 0, .int .i64 0, .int .i64 0, .int .i64 0, .int .i64 0, .int .i64 0, .int .i64 0, .int .i64 0, .int .i64 0, .int .i64 0, .int .i64 0, .int .i64 0, .int .i64 0, .int .i64 0, .int .i64 0, .int .u32 0, .int .i64 0, .slice none 0 0], rB b6 84 (kL c room (.slice a ps.length cc)), rS a cc 4 (ps.map rowOf)])) (ac0 : Act) (hz : ac0.tmps.size = 49) (so12 : ac0.eval (.tmp 12) = .pointer (some ⟨b12, 0, none⟩)) {QR : Exit → Act → World → Prop} (hfin : ∀ (ac1 : Act) (wz : World), ac1.tmps.size = 49 → ac1.defers = ac0.defers → (∀ t, ([13, 29] : List Nat).contains t = false → ac1.eval (.tmp t) = ac0.eval (.tmp t)) → ac1.eval (.tmp 13) = .int .i64 7 →  Hid (Hp [] wa wz [rB b12 84 [.int .i64 0, .int .i64 0, .int .i64 0, .int .i64 0, .int .i64 0, .int .i64 0, .int .i64 0, .int .i64 0, .int .i64 0, .int .i64 0, .int .i64 0, .int .i64 0, .int .i64 0, .int .i64 0, .int .i64 0, .int .i64 0, .int .i64 0, .int .u32 0, .int .i64 0, .slice none 0 0], rB b6 84 (kL c room (.slice a ps.length cc)), rS a cc 4 (ps.map rowOf)]) → QR .normal ac1 wz) : (regAt Try.f50 3).wp Try.prog QR ac0 wb := by
  refine wp_region_sq (by kernel_rfl) 49 hz (by kernel_rfl) (fun (xx : Unit) jx => nth [.agg #[.int .i64 0, .int .i64 0, .int .i64 0, .int .i64 0, .int .i64 0, .int .i64 0, .int .i64 0, .int .i64 0, .int .i64 0, .int .i64 0, .int .i64 0, .int .i64 0, .int .i64 0, .int .i64 0, .int .i64 0, .int .i64 0, .int .i64 0, .int .u32 0, .int .i64 0, .slice none 0 0], undef, .int .i64 7] jx) (fun (LL : Nat → Bool) (xx : Unit) ww => Hp [] wa ww (bif LL 1 then [rB b12 84 [.int .i64 0, .int .i64 0, .int .i64 0, .int .i64 0, .int .i64 0, .int .i64 0, .int .i64 0, .int .i64 0, .int .i64 0, .int .i64 0, .int .i64 0, .int .i64 0, .int .i64 0, .int .i64 0, .int .i64 0, .int .i64 0, .int .i64 0, .int .u32 0, .int .i64 0, .slice none 0 0], rB b6 84 (kL c room (.slice a ps.length cc)), rS a cc 4 (ps.map rowOf)] else [rB b12 84 [.int .i64 0, .int .i64 0, .int .i64 0, .int .i64 0, .int .i64 0, .int .i64 0, .int .i64 0, .int .i64 0, .int .i64 0, .int .i64 0, .int .i64 0, .int .i64 0, .int .i64 0, .int .i64 0, .int .i64 0, .int .i64 0, .int .i64 0, .int .u32 0, .int .i64 0, .slice none 0 0], rB b6 84 (kL c room (.slice a ps.length cc)), rS a cc 4 (ps.map rowOf)])) () H.out ?_ (steps_al ?_) ?_ ?_
  · intro L1 L2 xx ww hL sg
    have lh1 := hL 1 (by decide)
    simp only [lh1] at sg
    exact sg
  · refine al_cons ?_ (al_cons ?_ (al_cons ?_ (al_nil)))
    · intro LL xx ac wc sg hst hwant QQ hgo
      exact op_val hwant hgo hst _ (by simp only [execOp, nth, kA, kL, rkA, rkL, cA, cL]; go_simp <;> omega) rfl
    · intro LL xx ac wc sg hst hwant QQ hgo
      have H := Lib.hid hst
      simp only [sg.self, cond_true, cond_false] at H
      refine hpA_store tykeys_Keys H rfl rfl ((sg.free 12 (by kernel_rfl)).trans so12) (sg.slot 0 (sg.anc 0 rfl)) rfl (by repeat (first | apply Put.head | apply Put.tail)) (by simp [kA, kL, rkA, rkL, cA, cL]) (by simp [kA, kL, rkA, rkL, cA, cL, Value.oneCell']) (by first | rfl | (simp only [spl]; rfl)) rfl ?_
      intro wd H2
      exact hgo _ () _ (fun _ _ => rfl) rfl (by simp only [(show upd LL 1 1 = true from rfl), cond_true, cond_false]; exact H2.out)
    · intro LL xx ac wc sg hst hwant QQ hgo
      exact op_val hwant hgo hst _ (exec_assign rfl rfl) rfl
  · exact skips [] (by kernel_rfl) (fun _ h => by cases h)
  · intro xx ac1 wz hfr hsl hst
    exact hfin ac1 wz (hfr.size.trans hz) hfr.defers (fr_keep hfr [13, 29] (by kernel_rfl)) (hsl 2 (by decide)) (Lib.hid hst)
set_option maxRecDepth 20000 in
theorem withNo (c : Cfg) (room : Int) (a : Option Addr) (cc : Nat) (ps : List PairV) (now : Int) (who : Int) (key : Int) (body : ByteArray) (ans : ByteArray) (w : World) (h : (rS a cc 4 (ps.map rowOf)).holds w) (hk0 : 0 ≤ key) (hk1 : key ≤ 18446744073709551615) (hs : Hid (Sorted ps)) (hb : ps.length ≤ 1000000) (q : ((lookV c ps now who key body).2 != 1) = true) : Calls Try.prog 50 #[.agg (kA c room (.slice a ps.length cc)), .int .i64 now, .int .i64 who, .int .u64 key, .string body, .string ans] w fun e w' => e = .returned (.tuple #[.agg #[.int .i64 0, .int .i64 0, .int .i64 0, .int .i64 0, .int .i64 0, .int .i64 0, .int .i64 0, .int .i64 0, .int .i64 0, .int .i64 0, .int .i64 0, .int .i64 0, .int .i64 0, .int .i64 0, .int .i64 0, .int .i64 0, .int .i64 0, .int .u32 0, .int .i64 0, .slice none 0 0], .int .i64 7]) ∧ Off [] w w' := by
  have H := Lib.hid (Hp.start [] w)
  have H := hp_old H h (by decide)
  clear h
  refine calls_start Try.func50 rfl 49 rfl (by simp) (fun aa nn dd sl => ?_)
  have ss0 : aa.eval (.tmp 0) = .agg (kA c room (.slice a ps.length cc)) := sl 0 (by simp)
  have ss1 : aa.eval (.tmp 1) = .int .i64 now := sl 1 (by simp)
  have ss2 : aa.eval (.tmp 2) = .int .i64 who := sl 2 (by simp)
  have ss3 : aa.eval (.tmp 3) = .int .u64 key := sl 3 (by simp)
  have ss4 : aa.eval (.tmp 4) = .string body := sl 4 (by simp)
  have ss5 : aa.eval (.tmp 5) = .string ans := sl 5 (by simp)
  clear sl
  refine wp_seq_k fun KK1 hK1 => ?_
  refine withNo_r0 c room a cc ps now who key body hk0 hk1 hb q H aa nn ss0 ?_
  clear H nn
  intro b6 b12 aa ww nn dd1 kp ss6 ss12 ss13 H
  replace ss0 := (kp 0 rfl).trans ss0
  replace ss1 := (kp 1 rfl).trans ss1
  replace ss2 := (kp 2 rfl).trans ss2
  replace ss3 := (kp 3 rfl).trans ss3
  replace ss4 := (kp 4 rfl).trans ss4
  replace ss5 := (kp 5 rfl).trans ss5
  replace dd := dd1.trans dd
  clear dd1 kp
  refine then_normal ?_
  refine hK1 _ _ ?_
  refine wp_seq_k fun KK2 hK2 => ?_
  refine wp_seq_k fun KK3 hK3 => ?_
  refine withNo_r1 c room a cc ps now who key body hk0 hk1 hs hb q b6 b12 H aa nn ss1 ss2 ss3 ss4 ss6 ?_
  clear H nn
  intro aa ww nn dd1 kp ss15 H
  replace ss0 := (kp 0 rfl).trans ss0
  replace ss1 := (kp 1 rfl).trans ss1
  replace ss2 := (kp 2 rfl).trans ss2
  replace ss3 := (kp 3 rfl).trans ss3
  replace ss4 := (kp 4 rfl).trans ss4
  replace ss5 := (kp 5 rfl).trans ss5
  replace ss6 := (kp 6 rfl).trans ss6
  replace ss12 := (kp 12 rfl).trans ss12
  replace ss13 := (kp 13 rfl).trans ss13
  replace dd := dd1.trans dd
  clear dd1 kp
  refine then_normal ?_
  refine hK3 _ _ ?_
  refine wp_seq_k fun KK4 hK4 => ?_
  refine withNo_r2 c room a cc ps now who key body hk0 hk1 hb q b6 b12 H aa nn ss15 ?_
  clear H nn
  intro aa ww nn dd1 kp ss28 H
  replace ss0 := (kp 0 rfl).trans ss0
  replace ss1 := (kp 1 rfl).trans ss1
  replace ss2 := (kp 2 rfl).trans ss2
  replace ss3 := (kp 3 rfl).trans ss3
  replace ss4 := (kp 4 rfl).trans ss4
  replace ss5 := (kp 5 rfl).trans ss5
  replace ss6 := (kp 6 rfl).trans ss6
  replace ss12 := (kp 12 rfl).trans ss12
  replace ss13 := (kp 13 rfl).trans ss13
  replace ss15 := (kp 15 rfl).trans ss15
  replace dd := dd1.trans dd
  clear dd1 kp
  refine then_normal ?_
  refine hK4 _ _ ?_
  refine wp_cond_true ss28 ?_
  refine wp_seq_k fun KK5 hK5 => ?_
  refine withNo_r3 c room a cc ps now who key body hk0 hk1 hb q b6 b12 H aa nn ss12 ?_
  clear H nn ss13
  intro aa ww nn dd1 kp ss13 H
  replace ss0 := (kp 0 rfl).trans ss0
  replace ss1 := (kp 1 rfl).trans ss1
  replace ss2 := (kp 2 rfl).trans ss2
  replace ss3 := (kp 3 rfl).trans ss3
  replace ss4 := (kp 4 rfl).trans ss4
  replace ss5 := (kp 5 rfl).trans ss5
  replace ss6 := (kp 6 rfl).trans ss6
  replace ss12 := (kp 12 rfl).trans ss12
  replace ss15 := (kp 15 rfl).trans ss15
  replace ss28 := (kp 28 rfl).trans ss28
  replace dd := dd1.trans dd
  clear dd1 kp
  refine then_normal ?_
  refine hK5 _ _ ?_
  refine wp_ret ?_
  refine then_ret ?_
  exact hp_ret_ct tykeys_Keys H rfl dd ss12 ss13 (by (repeat (first | exact List.Mem.head _ | apply List.Mem.tail))) rfl ⟨rfl, H.out.off⟩
set_option maxRecDepth 20000 in
theorem withYes_r0 (c : Cfg) (room : Int) (a : Option Addr) (cc : Nat) (ps : List PairV) (now : Int) (who : Int) (key : Int) (body : ByteArray) (hk0 : 0 ≤ key) (hk1 : key ≤ 18446744073709551615) (hb : ps.length ≤ 1000000) (q : ((lookV c ps now who key body).2 != 1) = false) {wa wb : World} (H : Hid (Hp [] wa wb [rS a cc 4 (ps.map rowOf)])) (ac0 : Act) (hz : ac0.tmps.size = 49) (so0 : ac0.eval (.tmp 0) = .agg (kA c room (.slice a ps.length cc))) {QR : Exit → Act → World → Prop} (hfin : ∀ (b6 : Nat) (b12 : Nat) (ac1 : Act) (wz : World), ac1.tmps.size = 49 → ac1.defers = ac0.defers → (∀ t, ([6, 12, 13] : List Nat).contains t = false → ac1.eval (.tmp t) = ac0.eval (.tmp t)) → ac1.eval (.tmp 6) = .pointer (some ⟨b6, 0, none⟩) → ac1.eval (.tmp 12) = .pointer (some ⟨b12, 0, none⟩) → ac1.eval (.tmp 13) = .int .i64 0 →  Hid (Hp [] wa wz [rB b12 84 [.int .i64 0, .int .i64 0, .int .i64 0, .int .i64 0, .int .i64 0, .int .i64 0, .int .i64 0, .int .i64 0, .int .i64 0, .int .i64 0, .int .i64 0, .int .i64 0, .int .i64 0, .int .i64 0, .int .i64 0, .int .i64 0, .int .i64 0, .int .u32 0, .int .i64 0, .slice none 0 0], rB b6 84 (kL c room (.slice a ps.length cc)), rS a cc 4 (ps.map rowOf)]) → QR .normal ac1 wz) : (regAt Try.f50 0).wp Try.prog QR ac0 wb := by
  refine wp_region_sq (by kernel_rfl) 49 hz (by kernel_rfl) (fun (xx : Nat × Nat) jx => match xx with | (b6, b12) => nth [.pointer (some ⟨b6, 0, none⟩), .pointer (some ⟨b12, 0, none⟩), .int .i64 0] jx) (fun (LL : Nat → Bool) (xx : Nat × Nat) ww => match xx with | (b6, b12) => Hp [] wa ww (bif LL 1 then [rB b12 84 [.int .i64 0, .int .i64 0, .int .i64 0, .int .i64 0, .int .i64 0, .int .i64 0, .int .i64 0, .int .i64 0, .int .i64 0, .int .i64 0, .int .i64 0, .int .i64 0, .int .i64 0, .int .i64 0, .int .i64 0, .int .i64 0, .int .i64 0, .int .u32 0, .int .i64 0, .slice none 0 0], rB b6 84 (kL c room (.slice a ps.length cc)), rS a cc 4 (ps.map rowOf)] else (bif LL 0 then [rB b6 84 (kL c room (.slice a ps.length cc)), rS a cc 4 (ps.map rowOf)] else [rS a cc 4 (ps.map rowOf)]))) (default, default) H.out ?_ (steps_al ?_) ?_ ?_
  · intro L1 L2 xx ww hL sg
    have lh0 := hL 0 (by decide)
    have lh1 := hL 1 (by decide)
    simp only [lh0, lh1] at sg
    exact sg
  · refine al_cons ?_ (al_cons ?_ (al_cons ?_ (al_nil)))
    · intro LL xx ac wc sg hst hwant QQ hgo
      obtain ⟨_, b12⟩ := xx
      have H := Lib.hid hst
      simp only [sg.self, sg.des 1 rfl, cond_true, cond_false] at H
      refine hp_box rfl 84 _ rfl _ ((sg.free 0 (by kernel_rfl)).trans so0) _ (by rfl) H ?_
      intro wd b6 H2
      exact hgo _ (b6, b12) _ (sg.agree (x' := (b6, b12)) (n := 3) rfl (by (iterate 3 (refine ix_cons (by first | exact fun _ => rfl | exact no sg.self | exact no (sg.des _ rfl)) ?_)); exact ix_nil)) rfl (by simp only [(show upd LL 0 0 = true from rfl), (show upd LL 0 1 = LL 1 from rfl), sg.des 1 rfl, cond_true, cond_false]; exact H2.out)
    · intro LL xx ac wc sg hst hwant QQ hgo
      obtain ⟨b6, _⟩ := xx
      have H := Lib.hid hst
      simp only [sg.anc 0 rfl, sg.self, cond_true, cond_false] at H
      refine hpA_alloc tykeys_Keys H rfl rfl ?_
      intro wd b12 H2
      exact hgo _ (b6, b12) _ (sg.agree (x' := (b6, b12)) (n := 3) rfl (by (iterate 3 (refine ix_cons (by first | exact fun _ => rfl | exact no sg.self | exact no (sg.des _ rfl)) ?_)); exact ix_nil)) rfl (by simp only [(show upd LL 1 0 = LL 0 from rfl), sg.anc 0 rfl, (show upd LL 1 1 = true from rfl), cond_true, cond_false]; exact H2.out)
    · intro LL xx ac wc sg hst hwant QQ hgo
      obtain ⟨b6, b12⟩ := xx
      exact op_val hwant hgo hst _ (exec_assign rfl rfl) rfl
  · exact skips [] (by kernel_rfl) (fun _ h => by cases h)
  · intro xx ac1 wz hfr hsl hst
    obtain ⟨b6, b12⟩ := xx
    exact hfin b6 b12 ac1 wz (hfr.size.trans hz) hfr.defers (fr_keep hfr [6, 12, 13] (by kernel_rfl)) (hsl 0 (by decide)) (hsl 1 (by decide)) (hsl 2 (by decide)) (Lib.hid hst)
set_option maxRecDepth 20000 in
theorem withYes_r1 (c : Cfg) (room : Int) (a : Option Addr) (cc : Nat) (ps : List PairV) (now : Int) (who : Int) (key : Int) (body : ByteArray) (hk0 : 0 ≤ key) (hk1 : key ≤ 18446744073709551615) (hs : Hid (Sorted ps)) (hb : ps.length ≤ 1000000) (q : ((lookV c ps now who key body).2 != 1) = false) (b6 : Nat) (b12 : Nat) {wa wb : World} (H : Hid (Hp [] wa wb [rB b12 84 [.int .i64 0, .int .i64 0, .int .i64 0, .int .i64 0, .int .i64 0, .int .i64 0, .int .i64 0, .int .i64 0, .int .i64 0, .int .i64 0, .int .i64 0, .int .i64 0, .int .i64 0, .int .i64 0, .int .i64 0, .int .i64 0, .int .i64 0, .int .u32 0, .int .i64 0, .slice none 0 0], rB b6 84 (kL c room (.slice a ps.length cc)), rS a cc 4 (ps.map rowOf)])) (ac0 : Act) (hz : ac0.tmps.size = 49) (so1 : ac0.eval (.tmp 1) = .int .i64 now) (so2 : ac0.eval (.tmp 2) = .int .i64 who) (so3 : ac0.eval (.tmp 3) = .int .u64 key) (so4 : ac0.eval (.tmp 4) = .string body) (so6 : ac0.eval (.tmp 6) = .pointer (some ⟨b6, 0, none⟩)) {QR : Exit → Act → World → Prop} (hfin : ∀ (ac1 : Act) (wz : World), ac1.tmps.size = 49 → ac1.defers = ac0.defers → (∀ t, ([14, 15, 18, 19, 20, 21, 22, 23, 24, 25, 26] : List Nat).contains t = false → ac1.eval (.tmp t) = ac0.eval (.tmp t)) → ac1.eval (.tmp 15) = .int .i64 ((lookV c ps now who key body).2) →  Hid (Hp [] wa wz [rB b12 84 [.int .i64 0, .int .i64 0, .int .i64 0, .int .i64 0, .int .i64 0, .int .i64 0, .int .i64 0, .int .i64 0, .int .i64 0, .int .i64 0, .int .i64 0, .int .i64 0, .int .i64 0, .int .i64 0, .int .i64 0, .int .i64 0, .int .i64 0, .int .u32 0, .int .i64 0, .slice none 0 0], rB b6 84 (kL c room (.slice a ps.length cc)), rS a cc 4 (ps.map rowOf)]) → QR .normal ac1 wz) : (regAt Try.f50 1).wp Try.prog QR ac0 wb := by
  refine wp_region_sq (by kernel_rfl) 49 hz (by kernel_rfl) (fun (xx : Unit) jx => nth [.agg (kA c room (.slice a ps.length cc)), .int .i64 now, .int .i64 who, .int .u64 key, .string body, .tuple #[.string ((lookV c ps now who key body).1), .int .i64 ((lookV c ps now who key body).2)], .tuple #[.string ((lookV c ps now who key body).1), .int .i64 ((lookV c ps now who key body).2)], .string ((lookV c ps now who key body).1), .int .i64 ((lookV c ps now who key body).2), .string ((lookV c ps now who key body).1), .int .i64 ((lookV c ps now who key body).2)] jx) (fun (LL : Nat → Bool) (xx : Unit) ww => Hp [] wa ww [rB b12 84 [.int .i64 0, .int .i64 0, .int .i64 0, .int .i64 0, .int .i64 0, .int .i64 0, .int .i64 0, .int .i64 0, .int .i64 0, .int .i64 0, .int .i64 0, .int .i64 0, .int .i64 0, .int .i64 0, .int .i64 0, .int .i64 0, .int .i64 0, .int .u32 0, .int .i64 0, .slice none 0 0], rB b6 84 (kL c room (.slice a ps.length cc)), rS a cc 4 (ps.map rowOf)]) () H.out ?_ (steps_al ?_) ?_ ?_
  · exact fun _ _ _ _ _ h => h
  · refine al_cons ?_ (al_cons ?_ (al_cons ?_ (al_cons ?_ (al_cons ?_ (al_cons ?_ (al_cons ?_ (al_cons ?_ (al_cons ?_ (al_cons ?_ (al_cons ?_ (al_nil)))))))))))
    · intro LL xx ac wc sg hst hwant QQ hgo
      have H := Lib.hid hst
      refine hpA_load tykeys_Keys H rfl ((sg.free 6 (by kernel_rfl)).trans so6) hwant (by (repeat (first | exact List.Mem.head _ | apply List.Mem.tail))) (by rfl) rfl ?_
      exact hgo _ () _ (fun _ _ => rfl) rfl hst
    · intro LL xx ac wc sg hst hwant QQ hgo
      exact op_val hwant hgo hst _ (exec_move rfl ((sg.free 1 (by kernel_rfl)).trans so1)) rfl
    · intro LL xx ac wc sg hst hwant QQ hgo
      exact op_val hwant hgo hst _ (exec_move rfl ((sg.free 2 (by kernel_rfl)).trans so2)) rfl
    · intro LL xx ac wc sg hst hwant QQ hgo
      exact op_val hwant hgo hst _ (exec_move rfl ((sg.free 3 (by kernel_rfl)).trans so3)) rfl
    · intro LL xx ac wc sg hst hwant QQ hgo
      exact op_val hwant hgo hst _ (exec_move rfl ((sg.free 4 (by kernel_rfl)).trans so4)) rfl
    · intro LL xx ac wc sg hst hwant QQ hgo
      have se19 : ac.eval (.tmp 19) = _ := (sg.slot 0 (sg.anc 0 rfl))
      have sg19 := gt_of se19
      have se20 : ac.eval (.tmp 20) = _ := (sg.slot 1 (sg.anc 1 rfl))
      have sg20 := gt_of se20
      have se21 : ac.eval (.tmp 21) = _ := (sg.slot 2 (sg.anc 2 rfl))
      have sg21 := gt_of se21
      have se22 : ac.eval (.tmp 22) = _ := (sg.slot 3 (sg.anc 3 rfl))
      have sg22 := gt_of se22
      have se23 : ac.eval (.tmp 23) = _ := (sg.slot 4 (sg.anc 4 rfl))
      have sg23 := gt_of se23
      (try simp only [nth] at se19 sg19 se20 sg20 se21 sg21 se22 sg22 se23 sg23)
      have H := Lib.hid hst
      refine op_call hwant hgo 48 _ (by simp only [execOp]; go_simp) (lookC c room a cc ps now who key body wc (hp_held H (by (repeat (first | exact List.Mem.head _ | apply List.Mem.tail)))) hk0 hk1 hs hb) ?_
      rintro er wd ⟨rfl, hof⟩
      exact ⟨_, (), rfl, fun _ _ => rfl, rfl, Hp.quiet hst hof⟩
    · intro LL xx ac wc sg hst hwant QQ hgo
      exact op_val hwant hgo hst _ (exec_move rfl (sg.slot 5 (sg.anc 5 rfl))) rfl
    · intro LL xx ac wc sg hst hwant QQ hgo
      have se18 : ac.eval (.tmp 18) = _ := (sg.slot 6 (sg.anc 6 rfl))
      have sg18 := gt_of se18
      (try simp only [nth] at se18 sg18)
      exact op_val hwant hgo hst _ (by simp only [execOp, nth]; go_simp <;> omega) rfl
    · intro LL xx ac wc sg hst hwant QQ hgo
      have se18 : ac.eval (.tmp 18) = _ := (sg.slot 6 (sg.anc 6 rfl))
      have sg18 := gt_of se18
      (try simp only [nth] at se18 sg18)
      exact op_val hwant hgo hst _ (by simp only [execOp, nth]; go_simp <;> omega) rfl
    · intro LL xx ac wc sg hst hwant QQ hgo
      exact op_val hwant hgo hst _ (exec_assign rfl (sg.slot 7 (sg.anc 7 rfl))) rfl
    · intro LL xx ac wc sg hst hwant QQ hgo
      exact op_val hwant hgo hst _ (exec_assign rfl (sg.slot 8 (sg.anc 8 rfl))) rfl
  · exact skips [] (by kernel_rfl) (fun _ h => by cases h)
  · intro xx ac1 wz hfr hsl hst
    exact hfin ac1 wz (hfr.size.trans hz) hfr.defers (fr_keep hfr [14, 15, 18, 19, 20, 21, 22, 23, 24, 25, 26] (by kernel_rfl)) (hsl 10 (by decide)) (Lib.hid hst)
set_option maxRecDepth 20000 in
theorem withYes_r2 (c : Cfg) (room : Int) (a : Option Addr) (cc : Nat) (ps : List PairV) (now : Int) (who : Int) (key : Int) (body : ByteArray) (hk0 : 0 ≤ key) (hk1 : key ≤ 18446744073709551615) (hb : ps.length ≤ 1000000) (q : ((lookV c ps now who key body).2 != 1) = false) (b6 : Nat) (b12 : Nat) {wa wb : World} (H : Hid (Hp [] wa wb [rB b12 84 [.int .i64 0, .int .i64 0, .int .i64 0, .int .i64 0, .int .i64 0, .int .i64 0, .int .i64 0, .int .i64 0, .int .i64 0, .int .i64 0, .int .i64 0, .int .i64 0, .int .i64 0, .int .i64 0, .int .i64 0, .int .i64 0, .int .i64 0, .int .u32 0, .int .i64 0, .slice none 0 0], rB b6 84 (kL c room (.slice a ps.length cc)), rS a cc 4 (ps.map rowOf)])) (ac0 : Act) (hz : ac0.tmps.size = 49) (so15 : ac0.eval (.tmp 15) = .int .i64 ((lookV c ps now who key body).2)) {QR : Exit → Act → World → Prop} (hfin : ∀ (ac1 : Act) (wz : World), ac1.tmps.size = 49 → ac1.defers = ac0.defers → (∀ t, ([27, 28] : List Nat).contains t = false → ac1.eval (.tmp t) = ac0.eval (.tmp t)) → ac1.eval (.tmp 28) = .bool false →  Hid (Hp [] wa wz [rB b12 84 [.int .i64 0, .int .i64 0, .int .i64 0, .int .i64 0, .int .i64 0, .int .i64 0, .int .i64 0, .int .i64 0, .int .i64 0, .int .i64 0, .int .i64 0, .int .i64 0, .int .i64 0, .int .i64 0, .int .i64 0, .int .i64 0, .int .i64 0, .int .u32 0, .int .i64 0, .slice none 0 0], rB b6 84 (kL c room (.slice a ps.length cc)), rS a cc 4 (ps.map rowOf)]) → QR .normal ac1 wz) : (regAt Try.f50 2).wp Try.prog QR ac0 wb := by
  refine wp_region_sq (by kernel_rfl) 49 hz (by kernel_rfl) (fun (xx : Unit) jx => nth [.int .i64 ((lookV c ps now who key body).2), .bool false] jx) (fun (LL : Nat → Bool) (xx : Unit) ww => Hp [] wa ww [rB b12 84 [.int .i64 0, .int .i64 0, .int .i64 0, .int .i64 0, .int .i64 0, .int .i64 0, .int .i64 0, .int .i64 0, .int .i64 0, .int .i64 0, .int .i64 0, .int .i64 0, .int .i64 0, .int .i64 0, .int .i64 0, .int .i64 0, .int .i64 0, .int .u32 0, .int .i64 0, .slice none 0 0], rB b6 84 (kL c room (.slice a ps.length cc)), rS a cc 4 (ps.map rowOf)]) () H.out ?_ (steps_al ?_) ?_ ?_
  · exact fun _ _ _ _ _ h => h
  · refine al_cons ?_ (al_cons ?_ (al_nil))
    · intro LL xx ac wc sg hst hwant QQ hgo
      exact op_val hwant hgo hst _ (exec_move rfl ((sg.free 15 (by kernel_rfl)).trans so15)) rfl
    · intro LL xx ac wc sg hst hwant QQ hgo
      have se27 : ac.eval (.tmp 27) = _ := (sg.slot 0 (sg.anc 0 rfl))
      have sg27 := gt_of se27
      (try simp only [nth] at se27 sg27)
      exact op_val hwant hgo hst _ (by simp only [execOp, nth]; go_simp <;> omega) rfl
  · exact skips [] (by kernel_rfl) (fun _ h => by cases h)
  · intro xx ac1 wz hfr hsl hst
    exact hfin ac1 wz (hfr.size.trans hz) hfr.defers (fr_keep hfr [27, 28] (by kernel_rfl)) (hsl 1 (by decide)) (Lib.hid hst)
set_option maxRecDepth 20000 in
theorem withYes_r4 (c : Cfg) (room : Int) (a : Option Addr) (cc : Nat) (ps : List PairV) (now : Int) (who : Int) (key : Int) (body : ByteArray) (ans : ByteArray) (hk0 : 0 ≤ key) (hk1 : key ≤ 18446744073709551615) (hs : Hid (Sorted ps)) (hb : ps.length ≤ 1000000) (q : ((lookV c ps now who key body).2 != 1) = false) (b6 : Nat) (b12 : Nat) {wa wb : World} (H : Hid (Hp [] wa wb [rB b12 84 [.int .i64 0, .int .i64 0, .int .i64 0, .int .i64 0, .int .i64 0, .int .i64 0, .int .i64 0, .int .i64 0, .int .i64 0, .int .i64 0, .int .i64 0, .int .i64 0, .int .i64 0, .int .i64 0, .int .i64 0, .int .i64 0, .int .i64 0, .int .u32 0, .int .i64 0, .slice none 0 0], rB b6 84 (kL c room (.slice a ps.length cc)), rS a cc 4 (ps.map rowOf)])) (ac0 : Act) (hz : ac0.tmps.size = 49) (so1 : ac0.eval (.tmp 1) = .int .i64 now) (so2 : ac0.eval (.tmp 2) = .int .i64 who) (so3 : ac0.eval (.tmp 3) = .int .u64 key) (so4 : ac0.eval (.tmp 4) = .string body) (so5 : ac0.eval (.tmp 5) = .string ans) (so6 : ac0.eval (.tmp 6) = .pointer (some ⟨b6, 0, none⟩)) {QR : Exit → Act → World → Prop} (hfin : ∀ (a4_2 : Option Addr) (c4_2 : Nat) (a4_11 : Option Addr) (c4_11 : Nat) (b16 : Nat) (ac1 : Act) (wz : World), ac1.tmps.size = 49 → ac1.defers = ac0.defers → (∀ t, ([16, 17, 30, 31, 32, 33, 34, 35, 36, 37, 38, 39, 40, 41, 42, 43, 44] : List Nat).contains t = false → ac1.eval (.tmp t) = ac0.eval (.tmp t)) → ac1.eval (.tmp 16) = .pointer (some ⟨b16, 0, none⟩) →  Hid (Hp [] wa wz [rB b16 82 [.int .i64 room, .slice a4_11 ((withV room (nameV who key) (⟨key / 4294967296, body, ans⟩ : EntryV) (ps.filter (keepB c now))).1.length) c4_11], rP (From wa [] (rS a4_11 c4_11 4 ((withV room (nameV who key) (⟨key / 4294967296, body, ans⟩ : EntryV) (ps.filter (keepB c now))).1.map rowOf)).foot), rS a4_11 c4_11 4 ((withV room (nameV who key) (⟨key / 4294967296, body, ans⟩ : EntryV) (ps.filter (keepB c now))).1.map rowOf), rP (From wa [] (rS a4_2 c4_2 4 ((ps.filter (keepB c now)).map rowOf)).foot), rS a4_2 c4_2 4 ((ps.filter (keepB c now)).map rowOf), rB b12 84 [.int .i64 0, .int .i64 0, .int .i64 0, .int .i64 0, .int .i64 0, .int .i64 0, .int .i64 0, .int .i64 0, .int .i64 0, .int .i64 0, .int .i64 0, .int .i64 0, .int .i64 0, .int .i64 0, .int .i64 0, .int .i64 0, .int .i64 0, .int .u32 0, .int .i64 0, .slice none 0 0], rB b6 84 (kL c room (.slice a ps.length cc)), rS a cc 4 (ps.map rowOf)]) → QR .normal ac1 wz) : (regAt Try.f50 4).wp Try.prog QR ac0 wb := by
  refine wp_region_sq (by kernel_rfl) 49 hz (by kernel_rfl) (fun (xx : Option Addr × Nat × Option Addr × Nat × Nat) jx => match xx with | (a4_2, c4_2, a4_11, c4_11, b16) => nth [.agg (kA c room (.slice a ps.length cc)), .int .i64 now, .agg #[.int .i64 room, .slice a4_2 ((ps.filter (keepB c now)).length) c4_2], .int .i64 who, .int .u64 key, .string (nameV who key), .int .u64 key, .int .i64 (key / 4294967296), .string body, .string ans, .agg #[.int .i64 (key / 4294967296), .string body, .string ans], .tuple #[.agg #[.int .i64 room, .slice a4_11 ((withV room (nameV who key) (⟨key / 4294967296, body, ans⟩ : EntryV) (ps.filter (keepB c now))).1.length) c4_11], .bool ((withV room (nameV who key) (⟨key / 4294967296, body, ans⟩ : EntryV) (ps.filter (keepB c now))).2)], .tuple #[.agg #[.int .i64 room, .slice a4_11 ((withV room (nameV who key) (⟨key / 4294967296, body, ans⟩ : EntryV) (ps.filter (keepB c now))).1.length) c4_11], .bool ((withV room (nameV who key) (⟨key / 4294967296, body, ans⟩ : EntryV) (ps.filter (keepB c now))).2)], .agg #[.int .i64 room, .slice a4_11 ((withV room (nameV who key) (⟨key / 4294967296, body, ans⟩ : EntryV) (ps.filter (keepB c now))).1.length) c4_11], .bool ((withV room (nameV who key) (⟨key / 4294967296, body, ans⟩ : EntryV) (ps.filter (keepB c now))).2), .pointer (some ⟨b16, 0, none⟩), undef, .bool ((withV room (nameV who key) (⟨key / 4294967296, body, ans⟩ : EntryV) (ps.filter (keepB c now))).2)] jx) (fun (LL : Nat → Bool) (xx : Option Addr × Nat × Option Addr × Nat × Nat) ww => match xx with | (a4_2, c4_2, a4_11, c4_11, b16) => Hp [] wa ww (bif LL 16 then [rB b16 82 [.int .i64 room, .slice a4_11 ((withV room (nameV who key) (⟨key / 4294967296, body, ans⟩ : EntryV) (ps.filter (keepB c now))).1.length) c4_11], rP (From wa [] (rS a4_11 c4_11 4 ((withV room (nameV who key) (⟨key / 4294967296, body, ans⟩ : EntryV) (ps.filter (keepB c now))).1.map rowOf)).foot), rS a4_11 c4_11 4 ((withV room (nameV who key) (⟨key / 4294967296, body, ans⟩ : EntryV) (ps.filter (keepB c now))).1.map rowOf), rP (From wa [] (rS a4_2 c4_2 4 ((ps.filter (keepB c now)).map rowOf)).foot), rS a4_2 c4_2 4 ((ps.filter (keepB c now)).map rowOf), rB b12 84 [.int .i64 0, .int .i64 0, .int .i64 0, .int .i64 0, .int .i64 0, .int .i64 0, .int .i64 0, .int .i64 0, .int .i64 0, .int .i64 0, .int .i64 0, .int .i64 0, .int .i64 0, .int .i64 0, .int .i64 0, .int .i64 0, .int .i64 0, .int .u32 0, .int .i64 0, .slice none 0 0], rB b6 84 (kL c room (.slice a ps.length cc)), rS a cc 4 (ps.map rowOf)] else (bif LL 15 then [rB b16 82 [.int .i64 0, .slice none 0 0], rP (From wa [] (rS a4_11 c4_11 4 ((withV room (nameV who key) (⟨key / 4294967296, body, ans⟩ : EntryV) (ps.filter (keepB c now))).1.map rowOf)).foot), rS a4_11 c4_11 4 ((withV room (nameV who key) (⟨key / 4294967296, body, ans⟩ : EntryV) (ps.filter (keepB c now))).1.map rowOf), rP (From wa [] (rS a4_2 c4_2 4 ((ps.filter (keepB c now)).map rowOf)).foot), rS a4_2 c4_2 4 ((ps.filter (keepB c now)).map rowOf), rB b12 84 [.int .i64 0, .int .i64 0, .int .i64 0, .int .i64 0, .int .i64 0, .int .i64 0, .int .i64 0, .int .i64 0, .int .i64 0, .int .i64 0, .int .i64 0, .int .i64 0, .int .i64 0, .int .i64 0, .int .i64 0, .int .i64 0, .int .i64 0, .int .u32 0, .int .i64 0, .slice none 0 0], rB b6 84 (kL c room (.slice a ps.length cc)), rS a cc 4 (ps.map rowOf)] else (bif LL 11 then [rP (From wa [] (rS a4_11 c4_11 4 ((withV room (nameV who key) (⟨key / 4294967296, body, ans⟩ : EntryV) (ps.filter (keepB c now))).1.map rowOf)).foot), rS a4_11 c4_11 4 ((withV room (nameV who key) (⟨key / 4294967296, body, ans⟩ : EntryV) (ps.filter (keepB c now))).1.map rowOf), rP (From wa [] (rS a4_2 c4_2 4 ((ps.filter (keepB c now)).map rowOf)).foot), rS a4_2 c4_2 4 ((ps.filter (keepB c now)).map rowOf), rB b12 84 [.int .i64 0, .int .i64 0, .int .i64 0, .int .i64 0, .int .i64 0, .int .i64 0, .int .i64 0, .int .i64 0, .int .i64 0, .int .i64 0, .int .i64 0, .int .i64 0, .int .i64 0, .int .i64 0, .int .i64 0, .int .i64 0, .int .i64 0, .int .u32 0, .int .i64 0, .slice none 0 0], rB b6 84 (kL c room (.slice a ps.length cc)), rS a cc 4 (ps.map rowOf)] else (bif LL 2 then [rP (From wa [] (rS a4_2 c4_2 4 ((ps.filter (keepB c now)).map rowOf)).foot), rS a4_2 c4_2 4 ((ps.filter (keepB c now)).map rowOf), rB b12 84 [.int .i64 0, .int .i64 0, .int .i64 0, .int .i64 0, .int .i64 0, .int .i64 0, .int .i64 0, .int .i64 0, .int .i64 0, .int .i64 0, .int .i64 0, .int .i64 0, .int .i64 0, .int .i64 0, .int .i64 0, .int .i64 0, .int .i64 0, .int .u32 0, .int .i64 0, .slice none 0 0], rB b6 84 (kL c room (.slice a ps.length cc)), rS a cc 4 (ps.map rowOf)] else [rB b12 84 [.int .i64 0, .int .i64 0, .int .i64 0, .int .i64 0, .int .i64 0, .int .i64 0, .int .i64 0, .int .i64 0, .int .i64 0, .int .i64 0, .int .i64 0, .int .i64 0, .int .i64 0, .int .i64 0, .int .i64 0, .int .i64 0, .int .i64 0, .int .u32 0, .int .i64 0, .slice none 0 0], rB b6 84 (kL c room (.slice a ps.length cc)), rS a cc 4 (ps.map rowOf)]))))) (default, default, default, default, default) H.out ?_ (steps_al ?_) ?_ ?_
  · intro L1 L2 xx ww hL sg
    have lh2 := hL 2 (by decide)
    have lh11 := hL 11 (by decide)
    have lh15 := hL 15 (by decide)
    have lh16 := hL 16 (by decide)
    simp only [lh2, lh11, lh15, lh16] at sg
    exact sg
  · refine al_cons ?_ (al_cons ?_ (al_cons ?_ (al_cons ?_ (al_cons ?_ (al_cons ?_ (al_cons ?_ (al_cons ?_ (al_cons ?_ (al_cons ?_ (al_cons ?_ (al_cons ?_ (al_cons ?_ (al_cons ?_ (al_cons ?_ (al_cons ?_ (al_cons ?_ (al_cons ?_ (al_nil))))))))))))))))))
    · intro LL xx ac wc sg hst hwant QQ hgo
      obtain ⟨a4_2, c4_2, a4_11, c4_11, b16⟩ := xx
      have H := Lib.hid hst
      simp only [sg.des 2 rfl, sg.des 11 rfl, sg.des 15 rfl, sg.des 16 rfl, cond_true, cond_false] at H
      refine hpA_load tykeys_Keys H rfl ((sg.free 6 (by kernel_rfl)).trans so6) hwant (by (repeat (first | exact List.Mem.head _ | apply List.Mem.tail))) (by rfl) rfl ?_
      exact hgo _ (a4_2, c4_2, a4_11, c4_11, b16) _ (fun _ _ => rfl) rfl hst
    · intro LL xx ac wc sg hst hwant QQ hgo
      obtain ⟨a4_2, c4_2, a4_11, c4_11, b16⟩ := xx
      exact op_val hwant hgo hst _ (exec_move rfl ((sg.free 1 (by kernel_rfl)).trans so1)) rfl
    · intro LL xx ac wc sg hst hwant QQ hgo
      obtain ⟨_, _, a4_11, c4_11, b16⟩ := xx
      have se31 : ac.eval (.tmp 31) = _ := (sg.slot 0 (sg.anc 0 rfl))
      have sg31 := gt_of se31
      have se32 : ac.eval (.tmp 32) = _ := (sg.slot 1 (sg.anc 1 rfl))
      have sg32 := gt_of se32
      (try simp only [nth] at se31 sg31 se32 sg32)
      have H := Lib.hid hst
      simp only [sg.self, sg.des 11 rfl, sg.des 15 rfl, sg.des 16 rfl, cond_true, cond_false] at H
      refine op_call hwant hgo 77 _ (by simp only [execOp]; go_simp) (countsC c now room a cc ps wc (hp_held H (by (repeat (first | exact List.Mem.head _ | apply List.Mem.tail)))) hb) ?_
      rintro er wd ⟨a4_2, c4_2, rfl, hgv⟩
      have H2 := hp_got H hgv.2.2 hgv.1 (by decide) hgv.2.1 (by simp)
      replace H2 := hp_fact H2 (p := From wa [] (rS a4_2 c4_2 4 ((ps.filter (keepB c now)).map rowOf)).foot) (from_trans hgv.2.1 H.out.off (fun r hr => by cases hr))
      exact ⟨_, (a4_2, c4_2, a4_11, c4_11, b16), rfl, (sg.agree (x' := (a4_2, c4_2, a4_11, c4_11, b16)) (n := 18) rfl (by (iterate 18 (refine ix_cons (by first | exact fun _ => rfl | exact no sg.self | exact no (sg.des _ rfl)) ?_)); exact ix_nil)), rfl, (by simp only [(show upd LL 2 2 = true from rfl), (show upd LL 2 11 = LL 11 from rfl), sg.des 11 rfl, (show upd LL 2 15 = LL 15 from rfl), sg.des 15 rfl, (show upd LL 2 16 = LL 16 from rfl), sg.des 16 rfl, cond_true, cond_false]; exact H2.out)⟩
    · intro LL xx ac wc sg hst hwant QQ hgo
      obtain ⟨a4_2, c4_2, a4_11, c4_11, b16⟩ := xx
      exact op_val hwant hgo hst _ (exec_move rfl ((sg.free 2 (by kernel_rfl)).trans so2)) rfl
    · intro LL xx ac wc sg hst hwant QQ hgo
      obtain ⟨a4_2, c4_2, a4_11, c4_11, b16⟩ := xx
      exact op_val hwant hgo hst _ (exec_move rfl ((sg.free 3 (by kernel_rfl)).trans so3)) rfl
    · intro LL xx ac wc sg hst hwant QQ hgo
      obtain ⟨a4_2, c4_2, a4_11, c4_11, b16⟩ := xx
      have se34 : ac.eval (.tmp 34) = _ := (sg.slot 3 (sg.anc 3 rfl))
      have sg34 := gt_of se34
      have se35 : ac.eval (.tmp 35) = _ := (sg.slot 4 (sg.anc 4 rfl))
      have sg35 := gt_of se35
      (try simp only [nth] at se34 sg34 se35 sg35)
      refine op_call hwant hgo 79 _ (by simp only [execOp]; go_simp) (nameC who key wc hk0 hk1 (and_low32 _ hk0 (by omega))) ?_
      rintro er wd ⟨rfl, hof⟩
      exact ⟨_, (a4_2, c4_2, a4_11, c4_11, b16), rfl, fun _ _ => rfl, rfl, Hp.quiet hst hof⟩
    · intro LL xx ac wc sg hst hwant QQ hgo
      obtain ⟨a4_2, c4_2, a4_11, c4_11, b16⟩ := xx
      exact op_val hwant hgo hst _ (exec_move rfl ((sg.free 3 (by kernel_rfl)).trans so3)) rfl
    · intro LL xx ac wc sg hst hwant QQ hgo
      obtain ⟨a4_2, c4_2, a4_11, c4_11, b16⟩ := xx
      have se37 : ac.eval (.tmp 37) = _ := (sg.slot 6 (sg.anc 6 rfl))
      have sg37 := gt_of se37
      (try simp only [nth] at se37 sg37)
      refine op_call hwant hgo 46 _ (by simp only [execOp]; go_simp) (stampC key wc hk0 hk1) ?_
      rintro er wd ⟨rfl, hof⟩
      exact ⟨_, (a4_2, c4_2, a4_11, c4_11, b16), rfl, fun _ _ => rfl, rfl, Hp.quiet hst hof⟩
    · intro LL xx ac wc sg hst hwant QQ hgo
      obtain ⟨a4_2, c4_2, a4_11, c4_11, b16⟩ := xx
      exact op_val hwant hgo hst _ (exec_move rfl ((sg.free 4 (by kernel_rfl)).trans so4)) rfl
    · intro LL xx ac wc sg hst hwant QQ hgo
      obtain ⟨a4_2, c4_2, a4_11, c4_11, b16⟩ := xx
      exact op_val hwant hgo hst _ (exec_move rfl ((sg.free 5 (by kernel_rfl)).trans so5)) rfl
    · intro LL xx ac wc sg hst hwant QQ hgo
      obtain ⟨a4_2, c4_2, a4_11, c4_11, b16⟩ := xx
      have se38 : ac.eval (.tmp 38) = _ := (sg.slot 7 (sg.anc 7 rfl))
      have sg38 := gt_of se38
      have se39 : ac.eval (.tmp 39) = _ := (sg.slot 8 (sg.anc 8 rfl))
      have sg39 := gt_of se39
      have se40 : ac.eval (.tmp 40) = _ := (sg.slot 9 (sg.anc 9 rfl))
      have sg40 := gt_of se40
      (try simp only [nth] at se38 sg38 se39 sg39 se40 sg40)
      (try simp only [kA, kL, rkA, rkL, cA, cL] at se38 sg38 se39 sg39 se40 sg40)
      exact op_val hwant hgo hst _ (by simp only [execOp, nth, kA, kL, rkA, rkL, cA, cL]; go_simp <;> omega) rfl
    · intro LL xx ac wc sg hst hwant QQ hgo
      obtain ⟨a4_2, c4_2, _, _, b16⟩ := xx
      have se33 : ac.eval (.tmp 33) = _ := (sg.slot 2 (sg.anc 2 rfl))
      have sg33 := gt_of se33
      have se36 : ac.eval (.tmp 36) = _ := (sg.slot 5 (sg.anc 5 rfl))
      have sg36 := gt_of se36
      have se41 : ac.eval (.tmp 41) = _ := (sg.slot 10 (sg.anc 10 rfl))
      have sg41 := gt_of se41
      (try simp only [nth] at se33 sg33 se36 sg36 se41 sg41)
      have H := Lib.hid hst
      simp only [sg.anc 2 rfl, sg.self, sg.des 15 rfl, sg.des 16 rfl, cond_true, cond_false] at H
      refine op_call hwant hgo 81 _ (by simp only [execOp]; go_simp) (withC room a4_2 c4_2 (ps.filter (keepB c now)) (nameV who key) (⟨key / 4294967296, body, ans⟩ : EntryV) wc (hp_held H (by (repeat (first | exact List.Mem.head _ | apply List.Mem.tail)))) (sorted_keep hs.out _) (few_keep hb)) ?_
      rintro er wd ⟨a4_11, c4_11, rfl, hgv⟩
      have H2 := hp_got H hgv.2.2 hgv.1 (by decide) hgv.2.1 (by simp)
      replace H2 := hp_fact H2 (p := From wa [] (rS a4_11 c4_11 4 ((withV room (nameV who key) (⟨key / 4294967296, body, ans⟩ : EntryV) (ps.filter (keepB c now))).1.map rowOf)).foot) (from_trans hgv.2.1 H.out.off (fun r hr => by rcases List.mem_singleton.1 hr with rfl; exact (hp_told H (by (repeat (first | exact List.Mem.head _ | apply List.Mem.tail))))))
      exact ⟨_, (a4_2, c4_2, a4_11, c4_11, b16), rfl, (sg.agree (x' := (a4_2, c4_2, a4_11, c4_11, b16)) (n := 18) rfl (by (iterate 18 (refine ix_cons (by first | exact fun _ => rfl | exact no sg.self | exact no (sg.des _ rfl)) ?_)); exact ix_nil)), rfl, (by simp only [(show upd LL 11 2 = LL 2 from rfl), sg.anc 2 rfl, (show upd LL 11 11 = true from rfl), (show upd LL 11 15 = LL 15 from rfl), sg.des 15 rfl, (show upd LL 11 16 = LL 16 from rfl), sg.des 16 rfl, cond_true, cond_false]; exact H2.out)⟩
    · intro LL xx ac wc sg hst hwant QQ hgo
      obtain ⟨a4_2, c4_2, a4_11, c4_11, b16⟩ := xx
      exact op_val hwant hgo hst _ (exec_move rfl (sg.slot 11 (sg.anc 11 rfl))) rfl
    · intro LL xx ac wc sg hst hwant QQ hgo
      obtain ⟨a4_2, c4_2, a4_11, c4_11, b16⟩ := xx
      have se30 : ac.eval (.tmp 30) = _ := (sg.slot 12 (sg.anc 12 rfl))
      have sg30 := gt_of se30
      (try simp only [nth] at se30 sg30)
      exact op_val hwant hgo hst _ (by simp only [execOp, nth]; go_simp <;> omega) rfl
    · intro LL xx ac wc sg hst hwant QQ hgo
      obtain ⟨a4_2, c4_2, a4_11, c4_11, b16⟩ := xx
      have se30 : ac.eval (.tmp 30) = _ := (sg.slot 12 (sg.anc 12 rfl))
      have sg30 := gt_of se30
      (try simp only [nth] at se30 sg30)
      exact op_val hwant hgo hst _ (by simp only [execOp, nth]; go_simp <;> omega) rfl
    · intro LL xx ac wc sg hst hwant QQ hgo
      obtain ⟨a4_2, c4_2, a4_11, c4_11, _⟩ := xx
      have H := Lib.hid hst
      simp only [sg.anc 2 rfl, sg.anc 11 rfl, sg.self, sg.des 16 rfl, cond_true, cond_false] at H
      refine hpA_alloc tyshelf_Shelf_string__keys_entry_ H rfl rfl ?_
      intro wd b16 H2
      exact hgo _ (a4_2, c4_2, a4_11, c4_11, b16) _ (sg.agree (x' := (a4_2, c4_2, a4_11, c4_11, b16)) (n := 18) rfl (by (iterate 18 (refine ix_cons (by first | exact fun _ => rfl | exact no sg.self | exact no (sg.des _ rfl)) ?_)); exact ix_nil)) rfl (by simp only [(show upd LL 15 2 = LL 2 from rfl), sg.anc 2 rfl, (show upd LL 15 11 = LL 11 from rfl), sg.anc 11 rfl, (show upd LL 15 15 = true from rfl), (show upd LL 15 16 = LL 16 from rfl), sg.des 16 rfl, cond_true, cond_false]; exact H2.out)
    · intro LL xx ac wc sg hst hwant QQ hgo
      obtain ⟨a4_2, c4_2, a4_11, c4_11, b16⟩ := xx
      have H := Lib.hid hst
      simp only [sg.anc 2 rfl, sg.anc 11 rfl, sg.anc 15 rfl, sg.self, cond_true, cond_false] at H
      refine hpA_store tyshelf_Shelf_string__keys_entry_ H rfl rfl (sg.slot 15 (sg.anc 15 rfl)) (sg.slot 13 (sg.anc 13 rfl)) rfl (by repeat (first | apply Put.head | apply Put.tail)) (by simp [kA, kL, rkA, rkL, cA, cL]) (by simp [kA, kL, rkA, rkL, cA, cL, Value.oneCell']) (by first | rfl | (simp only [spl]; rfl)) rfl ?_
      intro wd H2
      exact hgo _ (a4_2, c4_2, a4_11, c4_11, b16) _ (sg.agree (x' := (a4_2, c4_2, a4_11, c4_11, b16)) (n := 18) rfl (by (iterate 18 (refine ix_cons (by first | exact fun _ => rfl | exact no sg.self | exact no (sg.des _ rfl)) ?_)); exact ix_nil)) rfl (by simp only [(show upd LL 16 2 = LL 2 from rfl), sg.anc 2 rfl, (show upd LL 16 11 = LL 11 from rfl), sg.anc 11 rfl, (show upd LL 16 15 = LL 15 from rfl), sg.anc 15 rfl, (show upd LL 16 16 = true from rfl), cond_true, cond_false]; exact H2.out)
    · intro LL xx ac wc sg hst hwant QQ hgo
      obtain ⟨a4_2, c4_2, a4_11, c4_11, b16⟩ := xx
      exact op_val hwant hgo hst _ (exec_assign rfl (sg.slot 14 (sg.anc 14 rfl))) rfl
  · exact skips [] (by kernel_rfl) (fun _ h => by cases h)
  · intro xx ac1 wz hfr hsl hst
    obtain ⟨a4_2, c4_2, a4_11, c4_11, b16⟩ := xx
    exact hfin a4_2 c4_2 a4_11 c4_11 b16 ac1 wz (hfr.size.trans hz) hfr.defers (fr_keep hfr [16, 17, 30, 31, 32, 33, 34, 35, 36, 37, 38, 39, 40, 41, 42, 43, 44] (by kernel_rfl)) (hsl 15 (by decide)) (Lib.hid hst)
set_option maxRecDepth 20000 in
theorem withYes_r5 (c : Cfg) (room : Int) (a : Option Addr) (cc : Nat) (ps : List PairV) (now : Int) (who : Int) (key : Int) (body : ByteArray) (ans : ByteArray) (hk0 : 0 ≤ key) (hk1 : key ≤ 18446744073709551615) (hb : ps.length ≤ 1000000) (q : ((lookV c ps now who key body).2 != 1) = false) (b6 : Nat) (b12 : Nat) (a4_2 : Option Addr) (c4_2 : Nat) (a4_11 : Option Addr) (c4_11 : Nat) (b16 : Nat) {wa wb : World} (H : Hid (Hp [] wa wb [rB b16 82 [.int .i64 room, .slice a4_11 ((withV room (nameV who key) (⟨key / 4294967296, body, ans⟩ : EntryV) (ps.filter (keepB c now))).1.length) c4_11], rP (From wa [] (rS a4_11 c4_11 4 ((withV room (nameV who key) (⟨key / 4294967296, body, ans⟩ : EntryV) (ps.filter (keepB c now))).1.map rowOf)).foot), rS a4_11 c4_11 4 ((withV room (nameV who key) (⟨key / 4294967296, body, ans⟩ : EntryV) (ps.filter (keepB c now))).1.map rowOf), rP (From wa [] (rS a4_2 c4_2 4 ((ps.filter (keepB c now)).map rowOf)).foot), rS a4_2 c4_2 4 ((ps.filter (keepB c now)).map rowOf), rB b12 84 [.int .i64 0, .int .i64 0, .int .i64 0, .int .i64 0, .int .i64 0, .int .i64 0, .int .i64 0, .int .i64 0, .int .i64 0, .int .i64 0, .int .i64 0, .int .i64 0, .int .i64 0, .int .i64 0, .int .i64 0, .int .i64 0, .int .i64 0, .int .u32 0, .int .i64 0, .slice none 0 0], rB b6 84 (kL c room (.slice a ps.length cc)), rS a cc 4 (ps.map rowOf)])) (ac0 : Act) (hz : ac0.tmps.size = 49) (so6 : ac0.eval (.tmp 6) = .pointer (some ⟨b6, 0, none⟩)) (so12 : ac0.eval (.tmp 12) = .pointer (some ⟨b12, 0, none⟩)) (so16 : ac0.eval (.tmp 16) = .pointer (some ⟨b16, 0, none⟩)) {QR : Exit → Act → World → Prop} (hfin : ∀ (ac1 : Act) (wz : World), ac1.tmps.size = 49 → ac1.defers = ac0.defers → (∀ t, ([13, 45, 46, 47, 48] : List Nat).contains t = false → ac1.eval (.tmp t) = ac0.eval (.tmp t)) → ac1.eval (.tmp 13) = .int .i64 0 →  Hid (Hp [] wa wz [rB b16 82 [.int .i64 room, .slice a4_11 ((withV room (nameV who key) (⟨key / 4294967296, body, ans⟩ : EntryV) (ps.filter (keepB c now))).1.length) c4_11], rP (From wa [] (rS a4_11 c4_11 4 ((withV room (nameV who key) (⟨key / 4294967296, body, ans⟩ : EntryV) (ps.filter (keepB c now))).1.map rowOf)).foot), rS a4_11 c4_11 4 ((withV room (nameV who key) (⟨key / 4294967296, body, ans⟩ : EntryV) (ps.filter (keepB c now))).1.map rowOf), rP (From wa [] (rS a4_2 c4_2 4 ((ps.filter (keepB c now)).map rowOf)).foot), rS a4_2 c4_2 4 ((ps.filter (keepB c now)).map rowOf), rB b12 84 (kL c room (.slice a4_11 ((withV room (nameV who key) (⟨key / 4294967296, body, ans⟩ : EntryV) (ps.filter (keepB c now))).1.length) c4_11)), rB b6 84 (kL c room (.slice a ps.length cc)), rS a cc 4 (ps.map rowOf)]) → QR .normal ac1 wz) : (regAt Try.f50 5).wp Try.prog QR ac0 wb := by
  refine wp_region_sq (by kernel_rfl) 49 hz (by kernel_rfl) (fun (xx : Unit) jx => nth [.pointer (some ⟨b6, 0, none⟩), .agg (cA c), .agg #[.int .i64 room, .slice a4_11 ((withV room (nameV who key) (⟨key / 4294967296, body, ans⟩ : EntryV) (ps.filter (keepB c now))).1.length) c4_11], .agg (kA c room (.slice a4_11 ((withV room (nameV who key) (⟨key / 4294967296, body, ans⟩ : EntryV) (ps.filter (keepB c now))).1.length) c4_11)), undef, .int .i64 0] jx) (fun (LL : Nat → Bool) (xx : Unit) ww => Hp [] wa ww (bif LL 4 then [rB b16 82 [.int .i64 room, .slice a4_11 ((withV room (nameV who key) (⟨key / 4294967296, body, ans⟩ : EntryV) (ps.filter (keepB c now))).1.length) c4_11], rP (From wa [] (rS a4_11 c4_11 4 ((withV room (nameV who key) (⟨key / 4294967296, body, ans⟩ : EntryV) (ps.filter (keepB c now))).1.map rowOf)).foot), rS a4_11 c4_11 4 ((withV room (nameV who key) (⟨key / 4294967296, body, ans⟩ : EntryV) (ps.filter (keepB c now))).1.map rowOf), rP (From wa [] (rS a4_2 c4_2 4 ((ps.filter (keepB c now)).map rowOf)).foot), rS a4_2 c4_2 4 ((ps.filter (keepB c now)).map rowOf), rB b12 84 (kL c room (.slice a4_11 ((withV room (nameV who key) (⟨key / 4294967296, body, ans⟩ : EntryV) (ps.filter (keepB c now))).1.length) c4_11)), rB b6 84 (kL c room (.slice a ps.length cc)), rS a cc 4 (ps.map rowOf)] else [rB b16 82 [.int .i64 room, .slice a4_11 ((withV room (nameV who key) (⟨key / 4294967296, body, ans⟩ : EntryV) (ps.filter (keepB c now))).1.length) c4_11], rP (From wa [] (rS a4_11 c4_11 4 ((withV room (nameV who key) (⟨key / 4294967296, body, ans⟩ : EntryV) (ps.filter (keepB c now))).1.map rowOf)).foot), rS a4_11 c4_11 4 ((withV room (nameV who key) (⟨key / 4294967296, body, ans⟩ : EntryV) (ps.filter (keepB c now))).1.map rowOf), rP (From wa [] (rS a4_2 c4_2 4 ((ps.filter (keepB c now)).map rowOf)).foot), rS a4_2 c4_2 4 ((ps.filter (keepB c now)).map rowOf), rB b12 84 [.int .i64 0, .int .i64 0, .int .i64 0, .int .i64 0, .int .i64 0, .int .i64 0, .int .i64 0, .int .i64 0, .int .i64 0, .int .i64 0, .int .i64 0, .int .i64 0, .int .i64 0, .int .i64 0, .int .i64 0, .int .i64 0, .int .i64 0, .int .u32 0, .int .i64 0, .slice none 0 0], rB b6 84 (kL c room (.slice a ps.length cc)), rS a cc 4 (ps.map rowOf)])) () H.out ?_ (steps_al ?_) ?_ ?_
  · intro L1 L2 xx ww hL sg
    have lh4 := hL 4 (by decide)
    simp only [lh4] at sg
    exact sg
  · refine al_cons ?_ (al_cons ?_ (al_cons ?_ (al_cons ?_ (al_cons ?_ (al_cons ?_ (al_nil))))))
    · intro LL xx ac wc sg hst hwant QQ hgo
      have se6 : ac.eval (.tmp 6) = _ := ((sg.free 6 (by kernel_rfl)).trans so6)
      have sg6 := gt_of se6
      exact op_val hwant hgo hst _ (by simp only [execOp, nth]; go_simp <;> omega) rfl
    · intro LL xx ac wc sg hst hwant QQ hgo
      have H := Lib.hid hst
      simp only [sg.des 4 rfl, cond_true, cond_false] at H
      refine hpA_load tyapi_Config H rfl (sg.slot 0 (sg.anc 0 rfl)) hwant (by (repeat (first | exact List.Mem.head _ | apply List.Mem.tail))) (by rfl) rfl ?_
      exact hgo _ () _ (fun _ _ => rfl) rfl hst
    · intro LL xx ac wc sg hst hwant QQ hgo
      have H := Lib.hid hst
      simp only [sg.des 4 rfl, cond_true, cond_false] at H
      refine hpA_load tyshelf_Shelf_string__keys_entry_ H rfl ((sg.free 16 (by kernel_rfl)).trans so16) hwant (by (repeat (first | exact List.Mem.head _ | apply List.Mem.tail))) (by rfl) rfl ?_
      exact hgo _ () _ (fun _ _ => rfl) rfl hst
    · intro LL xx ac wc sg hst hwant QQ hgo
      have se46 : ac.eval (.tmp 46) = _ := (sg.slot 1 (sg.anc 1 rfl))
      have sg46 := gt_of se46
      have se47 : ac.eval (.tmp 47) = _ := (sg.slot 2 (sg.anc 2 rfl))
      have sg47 := gt_of se47
      (try simp only [nth] at se46 sg46 se47 sg47)
      (try simp only [kA, kL, rkA, rkL, cA, cL] at se46 sg46 se47 sg47)
      exact op_val hwant hgo hst _ (by simp only [execOp, nth, kA, kL, rkA, rkL, cA, cL]; go_simp <;> omega) rfl
    · intro LL xx ac wc sg hst hwant QQ hgo
      have H := Lib.hid hst
      simp only [sg.self, cond_true, cond_false] at H
      refine hpA_store tykeys_Keys H rfl rfl ((sg.free 12 (by kernel_rfl)).trans so12) (sg.slot 3 (sg.anc 3 rfl)) rfl (by repeat (first | apply Put.head | apply Put.tail)) (by simp [kA, kL, rkA, rkL, cA, cL]) (by simp [kA, kL, rkA, rkL, cA, cL, Value.oneCell']) (by first | rfl | (simp only [spl]; rfl)) rfl ?_
      intro wd H2
      exact hgo _ () _ (fun _ _ => rfl) rfl (by simp only [(show upd LL 4 4 = true from rfl), cond_true, cond_false]; exact H2.out)
    · intro LL xx ac wc sg hst hwant QQ hgo
      exact op_val hwant hgo hst _ (exec_assign rfl rfl) rfl
  · exact skips [] (by kernel_rfl) (fun _ h => by cases h)
  · intro xx ac1 wz hfr hsl hst
    exact hfin ac1 wz (hfr.size.trans hz) hfr.defers (fr_keep hfr [13, 45, 46, 47, 48] (by kernel_rfl)) (hsl 5 (by decide)) (Lib.hid hst)
set_option maxRecDepth 20000 in
theorem withYes (c : Cfg) (room : Int) (a : Option Addr) (cc : Nat) (ps : List PairV) (now : Int) (who : Int) (key : Int) (body : ByteArray) (ans : ByteArray) (w : World) (h : (rS a cc 4 (ps.map rowOf)).holds w) (hk0 : 0 ≤ key) (hk1 : key ≤ 18446744073709551615) (hs : Hid (Sorted ps)) (hb : ps.length ≤ 1000000) (q : ((lookV c ps now who key body).2 != 1) = false) : Calls Try.prog 50 #[.agg (kA c room (.slice a ps.length cc)), .int .i64 now, .int .i64 who, .int .u64 key, .string body, .string ans] w fun e w' => ∃ a' c', e = .returned (.tuple #[.agg #[.int .i64 c.floors, .int .i64 c.cars, .int .i64 c.seats, .int .i64 c.calls, .int .i64 c.lines, .int .i64 c.keys, .int .i64 c.window, .int .i64 c.burst, .int .i64 c.rate, .int .i64 c.idle, .int .i64 c.inn, .int .i64 c.out, .int .i64 c.feed, .int .i64 c.retries, .int .i64 c.life, .int .i64 c.door, .int .i64 c.holds, .int .u32 c.secret, .int .i64 room, .slice a' (withV room (nameV who key) ⟨key / 4294967296, body, ans⟩ (ps.filter (keepB c now))).1.length c'], .int .i64 0]) ∧ Gives w w' [] a' c' ((withV room (nameV who key) ⟨key / 4294967296, body, ans⟩ (ps.filter (keepB c now))).1) := by
  have H := Lib.hid (Hp.start [] w)
  have H := hp_old H h (by decide)
  clear h
  refine calls_start Try.func50 rfl 49 rfl (by simp) (fun aa nn dd sl => ?_)
  have ss0 : aa.eval (.tmp 0) = .agg (kA c room (.slice a ps.length cc)) := sl 0 (by simp)
  have ss1 : aa.eval (.tmp 1) = .int .i64 now := sl 1 (by simp)
  have ss2 : aa.eval (.tmp 2) = .int .i64 who := sl 2 (by simp)
  have ss3 : aa.eval (.tmp 3) = .int .u64 key := sl 3 (by simp)
  have ss4 : aa.eval (.tmp 4) = .string body := sl 4 (by simp)
  have ss5 : aa.eval (.tmp 5) = .string ans := sl 5 (by simp)
  clear sl
  refine wp_seq_k fun KK1 hK1 => ?_
  refine withYes_r0 c room a cc ps now who key body hk0 hk1 hb q H aa nn ss0 ?_
  clear H nn
  intro b6 b12 aa ww nn dd1 kp ss6 ss12 ss13 H
  replace ss0 := (kp 0 rfl).trans ss0
  replace ss1 := (kp 1 rfl).trans ss1
  replace ss2 := (kp 2 rfl).trans ss2
  replace ss3 := (kp 3 rfl).trans ss3
  replace ss4 := (kp 4 rfl).trans ss4
  replace ss5 := (kp 5 rfl).trans ss5
  replace dd := dd1.trans dd
  clear dd1 kp
  refine then_normal ?_
  refine hK1 _ _ ?_
  refine wp_seq_k fun KK2 hK2 => ?_
  refine wp_seq_k fun KK3 hK3 => ?_
  refine withYes_r1 c room a cc ps now who key body hk0 hk1 hs hb q b6 b12 H aa nn ss1 ss2 ss3 ss4 ss6 ?_
  clear H nn
  intro aa ww nn dd1 kp ss15 H
  replace ss0 := (kp 0 rfl).trans ss0
  replace ss1 := (kp 1 rfl).trans ss1
  replace ss2 := (kp 2 rfl).trans ss2
  replace ss3 := (kp 3 rfl).trans ss3
  replace ss4 := (kp 4 rfl).trans ss4
  replace ss5 := (kp 5 rfl).trans ss5
  replace ss6 := (kp 6 rfl).trans ss6
  replace ss12 := (kp 12 rfl).trans ss12
  replace ss13 := (kp 13 rfl).trans ss13
  replace dd := dd1.trans dd
  clear dd1 kp
  refine then_normal ?_
  refine hK3 _ _ ?_
  refine wp_seq_k fun KK4 hK4 => ?_
  refine withYes_r2 c room a cc ps now who key body hk0 hk1 hb q b6 b12 H aa nn ss15 ?_
  clear H nn
  intro aa ww nn dd1 kp ss28 H
  replace ss0 := (kp 0 rfl).trans ss0
  replace ss1 := (kp 1 rfl).trans ss1
  replace ss2 := (kp 2 rfl).trans ss2
  replace ss3 := (kp 3 rfl).trans ss3
  replace ss4 := (kp 4 rfl).trans ss4
  replace ss5 := (kp 5 rfl).trans ss5
  replace ss6 := (kp 6 rfl).trans ss6
  replace ss12 := (kp 12 rfl).trans ss12
  replace ss13 := (kp 13 rfl).trans ss13
  replace ss15 := (kp 15 rfl).trans ss15
  replace dd := dd1.trans dd
  clear dd1 kp
  refine then_normal ?_
  refine hK4 _ _ ?_
  refine wp_cond_false ss28 ?_
  refine wp_skip ?_
  refine then_normal ?_
  refine hK2 _ _ ?_
  refine wp_seq_k fun KK5 hK5 => ?_
  refine withYes_r4 c room a cc ps now who key body ans hk0 hk1 hs hb q b6 b12 H aa nn ss1 ss2 ss3 ss4 ss5 ss6 ?_
  clear H nn
  intro a4_2 c4_2 a4_11 c4_11 b16 aa ww nn dd1 kp ss16 H
  replace ss0 := (kp 0 rfl).trans ss0
  replace ss1 := (kp 1 rfl).trans ss1
  replace ss2 := (kp 2 rfl).trans ss2
  replace ss3 := (kp 3 rfl).trans ss3
  replace ss4 := (kp 4 rfl).trans ss4
  replace ss5 := (kp 5 rfl).trans ss5
  replace ss6 := (kp 6 rfl).trans ss6
  replace ss12 := (kp 12 rfl).trans ss12
  replace ss13 := (kp 13 rfl).trans ss13
  replace ss15 := (kp 15 rfl).trans ss15
  replace ss28 := (kp 28 rfl).trans ss28
  replace dd := dd1.trans dd
  clear dd1 kp
  refine then_normal ?_
  refine hK5 _ _ ?_
  refine wp_seq_k fun KK6 hK6 => ?_
  refine withYes_r5 c room a cc ps now who key body ans hk0 hk1 hb q b6 b12 a4_2 c4_2 a4_11 c4_11 b16 H aa nn ss6 ss12 ss16 ?_
  clear H nn ss13
  intro aa ww nn dd1 kp ss13 H
  replace ss0 := (kp 0 rfl).trans ss0
  replace ss1 := (kp 1 rfl).trans ss1
  replace ss2 := (kp 2 rfl).trans ss2
  replace ss3 := (kp 3 rfl).trans ss3
  replace ss4 := (kp 4 rfl).trans ss4
  replace ss5 := (kp 5 rfl).trans ss5
  replace ss6 := (kp 6 rfl).trans ss6
  replace ss12 := (kp 12 rfl).trans ss12
  replace ss15 := (kp 15 rfl).trans ss15
  replace ss16 := (kp 16 rfl).trans ss16
  replace ss28 := (kp 28 rfl).trans ss28
  replace dd := dd1.trans dd
  clear dd1 kp
  refine then_normal ?_
  refine hK6 _ _ ?_
  refine wp_ret ?_
  exact hp_ret_ct tykeys_Keys H rfl dd ss12 ss13 (by (repeat (first | exact List.Mem.head _ | apply List.Mem.tail))) rfl ⟨a4_11, c4_11, rfl, hp_held H (by (repeat (first | exact List.Mem.head _ | apply List.Mem.tail))), hp_told H (by (repeat (first | exact List.Mem.head _ | apply List.Mem.tail))), H.out.off⟩
set_option maxRecDepth 20000 in
theorem makeNo_r0 (c : Cfg) (q : (checkV c != 0) = true) {wa wb : World} (H : Hid (Hp [] wa wb [])) (ac0 : Act) (hz : ac0.tmps.size = 12) (so0 : ac0.eval (.tmp 0) = .agg (cA c)) {QR : Exit → Act → World → Prop} (hfin : ∀ (b1 : Nat) (b2 : Nat) (ac1 : Act) (wz : World), ac1.tmps.size = 12 → ac1.defers = ac0.defers → (∀ t, ([1, 2] : List Nat).contains t = false → ac1.eval (.tmp t) = ac0.eval (.tmp t)) → ac1.eval (.tmp 1) = .pointer (some ⟨b1, 0, none⟩) → ac1.eval (.tmp 2) = .pointer (some ⟨b2, 0, none⟩) →  Hid (Hp [] wa wz [rB b2 84 [.int .i64 0, .int .i64 0, .int .i64 0, .int .i64 0, .int .i64 0, .int .i64 0, .int .i64 0, .int .i64 0, .int .i64 0, .int .i64 0, .int .i64 0, .int .i64 0, .int .i64 0, .int .i64 0, .int .i64 0, .int .i64 0, .int .i64 0, .int .u32 0, .int .i64 0, .slice none 0 0], rB b1 24 (cL c)]) → QR .normal ac1 wz) : (regAt Try.f47 0).wp Try.prog QR ac0 wb := by
  refine wp_region_sq (by kernel_rfl) 12 hz (by kernel_rfl) (fun (xx : Nat × Nat) jx => match xx with | (b1, b2) => nth [.pointer (some ⟨b1, 0, none⟩), .pointer (some ⟨b2, 0, none⟩)] jx) (fun (LL : Nat → Bool) (xx : Nat × Nat) ww => match xx with | (b1, b2) => Hp [] wa ww (bif LL 1 then [rB b2 84 [.int .i64 0, .int .i64 0, .int .i64 0, .int .i64 0, .int .i64 0, .int .i64 0, .int .i64 0, .int .i64 0, .int .i64 0, .int .i64 0, .int .i64 0, .int .i64 0, .int .i64 0, .int .i64 0, .int .i64 0, .int .i64 0, .int .i64 0, .int .u32 0, .int .i64 0, .slice none 0 0], rB b1 24 (cL c)] else (bif LL 0 then [rB b1 24 (cL c)] else []))) (default, default) H.out ?_ (steps_al ?_) ?_ ?_
  · intro L1 L2 xx ww hL sg
    have lh0 := hL 0 (by decide)
    have lh1 := hL 1 (by decide)
    simp only [lh0, lh1] at sg
    exact sg
  · refine al_cons ?_ (al_cons ?_ (al_nil))
    · intro LL xx ac wc sg hst hwant QQ hgo
      obtain ⟨_, b2⟩ := xx
      have H := Lib.hid hst
      simp only [sg.self, sg.des 1 rfl, cond_true, cond_false] at H
      refine hp_box rfl 24 _ rfl _ ((sg.free 0 (by kernel_rfl)).trans so0) _ (by rfl) H ?_
      intro wd b1 H2
      exact hgo _ (b1, b2) _ (sg.agree (x' := (b1, b2)) (n := 2) rfl (by (iterate 2 (refine ix_cons (by first | exact fun _ => rfl | exact no sg.self | exact no (sg.des _ rfl)) ?_)); exact ix_nil)) rfl (by simp only [(show upd LL 0 0 = true from rfl), (show upd LL 0 1 = LL 1 from rfl), sg.des 1 rfl, cond_true, cond_false]; exact H2.out)
    · intro LL xx ac wc sg hst hwant QQ hgo
      obtain ⟨b1, _⟩ := xx
      have H := Lib.hid hst
      simp only [sg.anc 0 rfl, sg.self, cond_true, cond_false] at H
      refine hpA_alloc tykeys_Keys H rfl rfl ?_
      intro wd b2 H2
      exact hgo _ (b1, b2) _ (sg.agree (x' := (b1, b2)) (n := 2) rfl (by (iterate 2 (refine ix_cons (by first | exact fun _ => rfl | exact no sg.self | exact no (sg.des _ rfl)) ?_)); exact ix_nil)) rfl (by simp only [(show upd LL 1 0 = LL 0 from rfl), sg.anc 0 rfl, (show upd LL 1 1 = true from rfl), cond_true, cond_false]; exact H2.out)
  · exact skips [] (by kernel_rfl) (fun _ h => by cases h)
  · intro xx ac1 wz hfr hsl hst
    obtain ⟨b1, b2⟩ := xx
    exact hfin b1 b2 ac1 wz (hfr.size.trans hz) hfr.defers (fr_keep hfr [1, 2] (by kernel_rfl)) (hsl 0 (by decide)) (hsl 1 (by decide)) (Lib.hid hst)
set_option maxRecDepth 20000 in
theorem makeNo_r1 (c : Cfg) (q : (checkV c != 0) = true) (b1 : Nat) (b2 : Nat) {wa wb : World} (H : Hid (Hp [] wa wb [rB b2 84 [.int .i64 0, .int .i64 0, .int .i64 0, .int .i64 0, .int .i64 0, .int .i64 0, .int .i64 0, .int .i64 0, .int .i64 0, .int .i64 0, .int .i64 0, .int .i64 0, .int .i64 0, .int .i64 0, .int .i64 0, .int .i64 0, .int .i64 0, .int .u32 0, .int .i64 0, .slice none 0 0], rB b1 24 (cL c)])) (ac0 : Act) (hz : ac0.tmps.size = 12) (so1 : ac0.eval (.tmp 1) = .pointer (some ⟨b1, 0, none⟩)) {QR : Exit → Act → World → Prop} (hfin : ∀ (ac1 : Act) (wz : World), ac1.tmps.size = 12 → ac1.defers = ac0.defers → (∀ t, ([3, 4, 5] : List Nat).contains t = false → ac1.eval (.tmp t) = ac0.eval (.tmp t)) → ac1.eval (.tmp 5) = .bool true →  Hid (Hp [] wa wz [rB b2 84 [.int .i64 0, .int .i64 0, .int .i64 0, .int .i64 0, .int .i64 0, .int .i64 0, .int .i64 0, .int .i64 0, .int .i64 0, .int .i64 0, .int .i64 0, .int .i64 0, .int .i64 0, .int .i64 0, .int .i64 0, .int .i64 0, .int .i64 0, .int .u32 0, .int .i64 0, .slice none 0 0], rB b1 24 (cL c)]) → QR .normal ac1 wz) : (regAt Try.f47 1).wp Try.prog QR ac0 wb := by
  refine wp_region_sq (by kernel_rfl) 12 hz (by kernel_rfl) (fun (xx : Unit) jx => nth [.agg (cA c), .int .i64 (checkV c), .bool true] jx) (fun (LL : Nat → Bool) (xx : Unit) ww => Hp [] wa ww [rB b2 84 [.int .i64 0, .int .i64 0, .int .i64 0, .int .i64 0, .int .i64 0, .int .i64 0, .int .i64 0, .int .i64 0, .int .i64 0, .int .i64 0, .int .i64 0, .int .i64 0, .int .i64 0, .int .i64 0, .int .i64 0, .int .i64 0, .int .i64 0, .int .u32 0, .int .i64 0, .slice none 0 0], rB b1 24 (cL c)]) () H.out ?_ (steps_al ?_) ?_ ?_
  · exact fun _ _ _ _ _ h => h
  · refine al_cons ?_ (al_cons ?_ (al_cons ?_ (al_nil)))
    · intro LL xx ac wc sg hst hwant QQ hgo
      have H := Lib.hid hst
      refine hpA_load tyapi_Config H rfl ((sg.free 1 (by kernel_rfl)).trans so1) hwant (by (repeat (first | exact List.Mem.head _ | apply List.Mem.tail))) (by rfl) rfl ?_
      exact hgo _ () _ (fun _ _ => rfl) rfl hst
    · intro LL xx ac wc sg hst hwant QQ hgo
      have se3 : ac.eval (.tmp 3) = _ := (sg.slot 0 (sg.anc 0 rfl))
      have sg3 := gt_of se3
      (try simp only [nth] at se3 sg3)
      refine op_call hwant hgo 65 #[.agg (cA c)] (by simp only [execOp]; go_simp) (check c wc) ?_
      rintro er wd ⟨rfl, hof⟩
      exact ⟨_, (), rfl, fun _ _ => rfl, rfl, Hp.quiet hst hof⟩
    · intro LL xx ac wc sg hst hwant QQ hgo
      have se4 : ac.eval (.tmp 4) = _ := (sg.slot 1 (sg.anc 1 rfl))
      have sg4 := gt_of se4
      (try simp only [nth] at se4 sg4)
      exact op_val hwant hgo hst _ (by simp only [execOp, nth]; go_simp <;> omega) rfl
  · exact skips [] (by kernel_rfl) (fun _ h => by cases h)
  · intro xx ac1 wz hfr hsl hst
    exact hfin ac1 wz (hfr.size.trans hz) hfr.defers (fr_keep hfr [3, 4, 5] (by kernel_rfl)) (hsl 2 (by decide)) (Lib.hid hst)
set_option maxRecDepth 20000 in
theorem makeNo_r2 (c : Cfg) (q : (checkV c != 0) = true) (b1 : Nat) (b2 : Nat) {wa wb : World} (H : Hid (Hp [] wa wb [rB b2 84 [.int .i64 0, .int .i64 0, .int .i64 0, .int .i64 0, .int .i64 0, .int .i64 0, .int .i64 0, .int .i64 0, .int .i64 0, .int .i64 0, .int .i64 0, .int .i64 0, .int .i64 0, .int .i64 0, .int .i64 0, .int .i64 0, .int .i64 0, .int .u32 0, .int .i64 0, .slice none 0 0], rB b1 24 (cL c)])) (ac0 : Act) (hz : ac0.tmps.size = 12) (so2 : ac0.eval (.tmp 2) = .pointer (some ⟨b2, 0, none⟩)) {QR : Exit → Act → World → Prop} (hfin : ∀ (ac1 : Act) (wz : World), ac1.tmps.size = 12 → ac1.defers = ac0.defers → (∀ t, ([6] : List Nat).contains t = false → ac1.eval (.tmp t) = ac0.eval (.tmp t)) →  Hid (Hp [] wa wz [rB b2 84 [.int .i64 0, .int .i64 0, .int .i64 0, .int .i64 0, .int .i64 0, .int .i64 0, .int .i64 0, .int .i64 0, .int .i64 0, .int .i64 0, .int .i64 0, .int .i64 0, .int .i64 0, .int .i64 0, .int .i64 0, .int .i64 0, .int .i64 0, .int .u32 0, .int .i64 0, .slice none 0 0], rB b1 24 (cL c)]) → QR .normal ac1 wz) : (regAt Try.f47 2).wp Try.prog QR ac0 wb := by
  refine wp_region_sq (by kernel_rfl) 12 hz (by kernel_rfl) (fun (xx : Unit) jx => nth [.agg #[.int .i64 0, .int .i64 0, .int .i64 0, .int .i64 0, .int .i64 0, .int .i64 0, .int .i64 0, .int .i64 0, .int .i64 0, .int .i64 0, .int .i64 0, .int .i64 0, .int .i64 0, .int .i64 0, .int .i64 0, .int .i64 0, .int .i64 0, .int .u32 0, .int .i64 0, .slice none 0 0], undef] jx) (fun (LL : Nat → Bool) (xx : Unit) ww => Hp [] wa ww (bif LL 1 then [rB b2 84 [.int .i64 0, .int .i64 0, .int .i64 0, .int .i64 0, .int .i64 0, .int .i64 0, .int .i64 0, .int .i64 0, .int .i64 0, .int .i64 0, .int .i64 0, .int .i64 0, .int .i64 0, .int .i64 0, .int .i64 0, .int .i64 0, .int .i64 0, .int .u32 0, .int .i64 0, .slice none 0 0], rB b1 24 (cL c)] else [rB b2 84 [.int .i64 0, .int .i64 0, .int .i64 0, .int .i64 0, .int .i64 0, .int .i64 0, .int .i64 0, .int .i64 0, .int .i64 0, .int .i64 0, .int .i64 0, .int .i64 0, .int .i64 0, .int .i64 0, .int .i64 0, .int .i64 0, .int .i64 0, .int .u32 0, .int .i64 0, .slice none 0 0], rB b1 24 (cL c)])) () H.out ?_ (steps_al ?_) ?_ ?_
  · intro L1 L2 xx ww hL sg
    have lh1 := hL 1 (by decide)
    simp only [lh1] at sg
    exact sg
  · refine al_cons ?_ (al_cons ?_ (al_nil))
    · intro LL xx ac wc sg hst hwant QQ hgo
      exact op_val hwant hgo hst _ (by simp only [execOp, nth, kA, kL, rkA, rkL, cA, cL]; go_simp <;> omega) rfl
    · intro LL xx ac wc sg hst hwant QQ hgo
      have H := Lib.hid hst
      simp only [sg.self, cond_true, cond_false] at H
      refine hpA_store tykeys_Keys H rfl rfl ((sg.free 2 (by kernel_rfl)).trans so2) (sg.slot 0 (sg.anc 0 rfl)) rfl (by repeat (first | apply Put.head | apply Put.tail)) (by simp [kA, kL, rkA, rkL, cA, cL]) (by simp [kA, kL, rkA, rkL, cA, cL, Value.oneCell']) (by first | rfl | (simp only [spl]; rfl)) rfl ?_
      intro wd H2
      exact hgo _ () _ (fun _ _ => rfl) rfl (by simp only [(show upd LL 1 1 = true from rfl), cond_true, cond_false]; exact H2.out)
  · exact skips [] (by kernel_rfl) (fun _ h => by cases h)
  · intro xx ac1 wz hfr hsl hst
    exact hfin ac1 wz (hfr.size.trans hz) hfr.defers (fr_keep hfr [6] (by kernel_rfl)) (Lib.hid hst)
set_option maxRecDepth 20000 in
theorem makeNo (c : Cfg) (w : World) (q : (checkV c != 0) = true) : Calls Try.prog 47 #[.agg (cA c)] w fun e w' => e = .returned (.agg #[.int .i64 0, .int .i64 0, .int .i64 0, .int .i64 0, .int .i64 0, .int .i64 0, .int .i64 0, .int .i64 0, .int .i64 0, .int .i64 0, .int .i64 0, .int .i64 0, .int .i64 0, .int .i64 0, .int .i64 0, .int .i64 0, .int .i64 0, .int .u32 0, .int .i64 0, .slice none 0 0]) ∧ Off [] w w' := by
  have H := Lib.hid (Hp.start [] w)
  refine calls_start Try.func47 rfl 12 rfl (by simp) (fun aa nn dd sl => ?_)
  have ss0 : aa.eval (.tmp 0) = .agg (cA c) := sl 0 (by simp)
  clear sl
  refine wp_seq_k fun KK1 hK1 => ?_
  refine makeNo_r0 c q H aa nn ss0 ?_
  clear H nn
  intro b1 b2 aa ww nn dd1 kp ss1 ss2 H
  replace ss0 := (kp 0 rfl).trans ss0
  replace dd := dd1.trans dd
  clear dd1 kp
  refine then_normal ?_
  refine hK1 _ _ ?_
  refine wp_seq_k fun KK2 hK2 => ?_
  refine wp_seq_k fun KK3 hK3 => ?_
  refine makeNo_r1 c q b1 b2 H aa nn ss1 ?_
  clear H nn
  intro aa ww nn dd1 kp ss5 H
  replace ss0 := (kp 0 rfl).trans ss0
  replace ss1 := (kp 1 rfl).trans ss1
  replace ss2 := (kp 2 rfl).trans ss2
  replace dd := dd1.trans dd
  clear dd1 kp
  refine then_normal ?_
  refine hK3 _ _ ?_
  refine wp_cond_true ss5 ?_
  refine wp_seq_k fun KK4 hK4 => ?_
  refine makeNo_r2 c q b1 b2 H aa nn ss2 ?_
  clear H nn
  intro aa ww nn dd1 kp H
  replace ss0 := (kp 0 rfl).trans ss0
  replace ss1 := (kp 1 rfl).trans ss1
  replace ss2 := (kp 2 rfl).trans ss2
  replace ss5 := (kp 5 rfl).trans ss5
  replace dd := dd1.trans dd
  clear dd1 kp
  refine then_normal ?_
  refine hK4 _ _ ?_
  refine wp_ret ?_
  refine then_ret ?_
  exact hp_ret_c tykeys_Keys H rfl dd ss2  (by (repeat (first | exact List.Mem.head _ | apply List.Mem.tail))) rfl ⟨rfl, H.out.off⟩
set_option maxRecDepth 20000 in
theorem makeYes_r0 (c : Cfg) (q : (checkV c != 0) = false) (hroom : (if c.keys < 1 ∨ 65536 < c.keys then 0 else c.keys) = c.keys) {wa wb : World} (H : Hid (Hp [] wa wb [])) (ac0 : Act) (hz : ac0.tmps.size = 12) (so0 : ac0.eval (.tmp 0) = .agg (cA c)) {QR : Exit → Act → World → Prop} (hfin : ∀ (b1 : Nat) (b2 : Nat) (ac1 : Act) (wz : World), ac1.tmps.size = 12 → ac1.defers = ac0.defers → (∀ t, ([1, 2] : List Nat).contains t = false → ac1.eval (.tmp t) = ac0.eval (.tmp t)) → ac1.eval (.tmp 1) = .pointer (some ⟨b1, 0, none⟩) → ac1.eval (.tmp 2) = .pointer (some ⟨b2, 0, none⟩) →  Hid (Hp [] wa wz [rB b2 84 [.int .i64 0, .int .i64 0, .int .i64 0, .int .i64 0, .int .i64 0, .int .i64 0, .int .i64 0, .int .i64 0, .int .i64 0, .int .i64 0, .int .i64 0, .int .i64 0, .int .i64 0, .int .i64 0, .int .i64 0, .int .i64 0, .int .i64 0, .int .u32 0, .int .i64 0, .slice none 0 0], rB b1 24 (cL c)]) → QR .normal ac1 wz) : (regAt Try.f47 0).wp Try.prog QR ac0 wb := by
  refine wp_region_sq (by kernel_rfl) 12 hz (by kernel_rfl) (fun (xx : Nat × Nat) jx => match xx with | (b1, b2) => nth [.pointer (some ⟨b1, 0, none⟩), .pointer (some ⟨b2, 0, none⟩)] jx) (fun (LL : Nat → Bool) (xx : Nat × Nat) ww => match xx with | (b1, b2) => Hp [] wa ww (bif LL 1 then [rB b2 84 [.int .i64 0, .int .i64 0, .int .i64 0, .int .i64 0, .int .i64 0, .int .i64 0, .int .i64 0, .int .i64 0, .int .i64 0, .int .i64 0, .int .i64 0, .int .i64 0, .int .i64 0, .int .i64 0, .int .i64 0, .int .i64 0, .int .i64 0, .int .u32 0, .int .i64 0, .slice none 0 0], rB b1 24 (cL c)] else (bif LL 0 then [rB b1 24 (cL c)] else []))) (default, default) H.out ?_ (steps_al ?_) ?_ ?_
  · intro L1 L2 xx ww hL sg
    have lh0 := hL 0 (by decide)
    have lh1 := hL 1 (by decide)
    simp only [lh0, lh1] at sg
    exact sg
  · refine al_cons ?_ (al_cons ?_ (al_nil))
    · intro LL xx ac wc sg hst hwant QQ hgo
      obtain ⟨_, b2⟩ := xx
      have H := Lib.hid hst
      simp only [sg.self, sg.des 1 rfl, cond_true, cond_false] at H
      refine hp_box rfl 24 _ rfl _ ((sg.free 0 (by kernel_rfl)).trans so0) _ (by rfl) H ?_
      intro wd b1 H2
      exact hgo _ (b1, b2) _ (sg.agree (x' := (b1, b2)) (n := 2) rfl (by (iterate 2 (refine ix_cons (by first | exact fun _ => rfl | exact no sg.self | exact no (sg.des _ rfl)) ?_)); exact ix_nil)) rfl (by simp only [(show upd LL 0 0 = true from rfl), (show upd LL 0 1 = LL 1 from rfl), sg.des 1 rfl, cond_true, cond_false]; exact H2.out)
    · intro LL xx ac wc sg hst hwant QQ hgo
      obtain ⟨b1, _⟩ := xx
      have H := Lib.hid hst
      simp only [sg.anc 0 rfl, sg.self, cond_true, cond_false] at H
      refine hpA_alloc tykeys_Keys H rfl rfl ?_
      intro wd b2 H2
      exact hgo _ (b1, b2) _ (sg.agree (x' := (b1, b2)) (n := 2) rfl (by (iterate 2 (refine ix_cons (by first | exact fun _ => rfl | exact no sg.self | exact no (sg.des _ rfl)) ?_)); exact ix_nil)) rfl (by simp only [(show upd LL 1 0 = LL 0 from rfl), sg.anc 0 rfl, (show upd LL 1 1 = true from rfl), cond_true, cond_false]; exact H2.out)
  · exact skips [] (by kernel_rfl) (fun _ h => by cases h)
  · intro xx ac1 wz hfr hsl hst
    obtain ⟨b1, b2⟩ := xx
    exact hfin b1 b2 ac1 wz (hfr.size.trans hz) hfr.defers (fr_keep hfr [1, 2] (by kernel_rfl)) (hsl 0 (by decide)) (hsl 1 (by decide)) (Lib.hid hst)
set_option maxRecDepth 20000 in
theorem makeYes_r1 (c : Cfg) (q : (checkV c != 0) = false) (hroom : (if c.keys < 1 ∨ 65536 < c.keys then 0 else c.keys) = c.keys) (b1 : Nat) (b2 : Nat) {wa wb : World} (H : Hid (Hp [] wa wb [rB b2 84 [.int .i64 0, .int .i64 0, .int .i64 0, .int .i64 0, .int .i64 0, .int .i64 0, .int .i64 0, .int .i64 0, .int .i64 0, .int .i64 0, .int .i64 0, .int .i64 0, .int .i64 0, .int .i64 0, .int .i64 0, .int .i64 0, .int .i64 0, .int .u32 0, .int .i64 0, .slice none 0 0], rB b1 24 (cL c)])) (ac0 : Act) (hz : ac0.tmps.size = 12) (so1 : ac0.eval (.tmp 1) = .pointer (some ⟨b1, 0, none⟩)) {QR : Exit → Act → World → Prop} (hfin : ∀ (ac1 : Act) (wz : World), ac1.tmps.size = 12 → ac1.defers = ac0.defers → (∀ t, ([3, 4, 5] : List Nat).contains t = false → ac1.eval (.tmp t) = ac0.eval (.tmp t)) → ac1.eval (.tmp 5) = .bool false →  Hid (Hp [] wa wz [rB b2 84 [.int .i64 0, .int .i64 0, .int .i64 0, .int .i64 0, .int .i64 0, .int .i64 0, .int .i64 0, .int .i64 0, .int .i64 0, .int .i64 0, .int .i64 0, .int .i64 0, .int .i64 0, .int .i64 0, .int .i64 0, .int .i64 0, .int .i64 0, .int .u32 0, .int .i64 0, .slice none 0 0], rB b1 24 (cL c)]) → QR .normal ac1 wz) : (regAt Try.f47 1).wp Try.prog QR ac0 wb := by
  refine wp_region_sq (by kernel_rfl) 12 hz (by kernel_rfl) (fun (xx : Unit) jx => nth [.agg (cA c), .int .i64 (checkV c), .bool false] jx) (fun (LL : Nat → Bool) (xx : Unit) ww => Hp [] wa ww [rB b2 84 [.int .i64 0, .int .i64 0, .int .i64 0, .int .i64 0, .int .i64 0, .int .i64 0, .int .i64 0, .int .i64 0, .int .i64 0, .int .i64 0, .int .i64 0, .int .i64 0, .int .i64 0, .int .i64 0, .int .i64 0, .int .i64 0, .int .i64 0, .int .u32 0, .int .i64 0, .slice none 0 0], rB b1 24 (cL c)]) () H.out ?_ (steps_al ?_) ?_ ?_
  · exact fun _ _ _ _ _ h => h
  · refine al_cons ?_ (al_cons ?_ (al_cons ?_ (al_nil)))
    · intro LL xx ac wc sg hst hwant QQ hgo
      have H := Lib.hid hst
      refine hpA_load tyapi_Config H rfl ((sg.free 1 (by kernel_rfl)).trans so1) hwant (by (repeat (first | exact List.Mem.head _ | apply List.Mem.tail))) (by rfl) rfl ?_
      exact hgo _ () _ (fun _ _ => rfl) rfl hst
    · intro LL xx ac wc sg hst hwant QQ hgo
      have se3 : ac.eval (.tmp 3) = _ := (sg.slot 0 (sg.anc 0 rfl))
      have sg3 := gt_of se3
      (try simp only [nth] at se3 sg3)
      refine op_call hwant hgo 65 #[.agg (cA c)] (by simp only [execOp]; go_simp) (check c wc) ?_
      rintro er wd ⟨rfl, hof⟩
      exact ⟨_, (), rfl, fun _ _ => rfl, rfl, Hp.quiet hst hof⟩
    · intro LL xx ac wc sg hst hwant QQ hgo
      have se4 : ac.eval (.tmp 4) = _ := (sg.slot 1 (sg.anc 1 rfl))
      have sg4 := gt_of se4
      (try simp only [nth] at se4 sg4)
      exact op_val hwant hgo hst _ (by simp only [execOp, nth]; go_simp <;> omega) rfl
  · exact skips [] (by kernel_rfl) (fun _ h => by cases h)
  · intro xx ac1 wz hfr hsl hst
    exact hfin ac1 wz (hfr.size.trans hz) hfr.defers (fr_keep hfr [3, 4, 5] (by kernel_rfl)) (hsl 2 (by decide)) (Lib.hid hst)
set_option maxRecDepth 20000 in
theorem makeYes_r3 (c : Cfg) (q : (checkV c != 0) = false) (hroom : (if c.keys < 1 ∨ 65536 < c.keys then 0 else c.keys) = c.keys) (b1 : Nat) (b2 : Nat) {wa wb : World} (H : Hid (Hp [] wa wb [rB b2 84 [.int .i64 0, .int .i64 0, .int .i64 0, .int .i64 0, .int .i64 0, .int .i64 0, .int .i64 0, .int .i64 0, .int .i64 0, .int .i64 0, .int .i64 0, .int .i64 0, .int .i64 0, .int .i64 0, .int .i64 0, .int .i64 0, .int .i64 0, .int .u32 0, .int .i64 0, .slice none 0 0], rB b1 24 (cL c)])) (ac0 : Act) (hz : ac0.tmps.size = 12) (so1 : ac0.eval (.tmp 1) = .pointer (some ⟨b1, 0, none⟩)) (so2 : ac0.eval (.tmp 2) = .pointer (some ⟨b2, 0, none⟩)) {QR : Exit → Act → World → Prop} (hfin : ∀ (ac1 : Act) (wz : World), ac1.tmps.size = 12 → ac1.defers = ac0.defers → (∀ t, ([7, 8, 9, 10, 11] : List Nat).contains t = false → ac1.eval (.tmp t) = ac0.eval (.tmp t)) →  Hid (Hp [] wa wz [rB b2 84 (kL c c.keys (.slice none 0 0)), rB b1 24 (cL c)]) → QR .normal ac1 wz) : (regAt Try.f47 3).wp Try.prog QR ac0 wb := by
  refine wp_region_st mixedP ⟨[0, 0, 1, 2, 3, 4], by kernel_rfl⟩ [[], [], [1], [1, 2], [0, 1, 2, 3], [0, 1, 2, 3, 4]] (by kernel_rfl) (by kernel_rfl) 12 hz (by kernel_rfl) (fun (xx : Unit) jx => nth [.agg (cA c), .pointer (some ⟨b1, 5, none⟩), .int .i64 c.keys, .agg #[.int .i64 c.keys, .slice none 0 0], .agg (kA c c.keys (.slice none 0 0)), undef] jx) (fun (LL : Nat → Bool) (xx : Unit) ww => Hp [] wa ww (bif LL 5 then [rB b2 84 (kL c c.keys (.slice none 0 0)), rB b1 24 (cL c)] else [rB b2 84 [.int .i64 0, .int .i64 0, .int .i64 0, .int .i64 0, .int .i64 0, .int .i64 0, .int .i64 0, .int .i64 0, .int .i64 0, .int .i64 0, .int .i64 0, .int .i64 0, .int .i64 0, .int .i64 0, .int .i64 0, .int .i64 0, .int .i64 0, .int .u32 0, .int .i64 0, .slice none 0 0], rB b1 24 (cL c)])) () H.out.drew ?_ (steps_al ?_) ?_ ?_
  · intro L1 L2 xx ww hL sg
    have lh5 := hL 5 (by decide)
    simp only [lh5] at sg
    exact sg
  · refine al_cons ?_ (al_cons ?_ (al_cons ?_ (al_cons ?_ (al_cons ?_ (al_cons ?_ (al_nil))))))
    · intro LL xx ac wc sg hst hwant QQ hgo
      have H := Lib.hid hst
      simp only [sg.des 5 rfl, cond_true, cond_false] at H
      refine hpA_load tyapi_Config H rfl ((sg.free 1 (by kernel_rfl)).trans so1) hwant (by (repeat (first | exact List.Mem.head _ | apply List.Mem.tail))) (by rfl) rfl ?_
      exact hgo _ () _ (fun _ _ => rfl) rfl hst
    · intro LL xx ac wc sg hst hwant QQ hgo
      have se1 : ac.eval (.tmp 1) = _ := ((sg.free 1 (by kernel_rfl)).trans so1)
      have sg1 := gt_of se1
      exact op_val hwant hgo hst _ (by simp only [execOp, nth]; go_simp <;> omega) rfl
    · intro LL xx ac wc sg hst hwant QQ hgo
      have H := Lib.hid hst
      simp only [sg.des 5 rfl, cond_true, cond_false] at H
      refine hpA_load1 tyint H rfl (sg.slot 1 (sg.anc 1 rfl)) hwant (by (repeat (first | exact List.Mem.head _ | apply List.Mem.tail))) (by rfl) ?_
      exact hgo _ () _ (fun _ _ => rfl) rfl hst
    · intro LL xx ac wc sg hst hwant QQ hgo
      have se9 : ac.eval (.tmp 9) = _ := (sg.slot 2 (sg.anc 2 rfl))
      have sg9 := gt_of se9
      (try simp only [nth] at se9 sg9)
      refine op_call hwant hgo 75 #[.int .i64 c.keys] (by simp only [execOp]; go_simp) (by have h := newC c.keys wc; rw [hroom] at h; exact h) ?_
      rintro er wd ⟨rfl, hof⟩
      exact ⟨_, (), rfl, fun _ _ => rfl, rfl, Hp.quiet hst hof⟩
    · intro LL xx ac wc sg hst hwant QQ hgo
      have se7 : ac.eval (.tmp 7) = _ := (sg.slot 0 (sg.anc 0 rfl))
      have sg7 := gt_of se7
      have se10 : ac.eval (.tmp 10) = _ := (sg.slot 3 (sg.anc 3 rfl))
      have sg10 := gt_of se10
      (try simp only [nth] at se7 sg7 se10 sg10)
      (try simp only [kA, kL, rkA, rkL, cA, cL] at se7 sg7 se10 sg10)
      exact op_val hwant hgo hst _ (by simp only [execOp, nth, kA, kL, rkA, rkL, cA, cL]; go_simp <;> omega) rfl
    · intro LL xx ac wc sg hst hwant QQ hgo
      have H := Lib.hid hst
      simp only [sg.self, cond_true, cond_false] at H
      refine hpA_store tykeys_Keys H rfl rfl ((sg.free 2 (by kernel_rfl)).trans so2) (sg.slot 4 (sg.anc 4 rfl)) rfl (by repeat (first | apply Put.head | apply Put.tail)) (by simp [kA, kL, rkA, rkL, cA, cL]) (by simp [kA, kL, rkA, rkL, cA, cL, Value.oneCell']) (by first | rfl | (simp only [spl]; rfl)) rfl ?_
      intro wd H2
      exact hgo _ () _ (fun _ _ => rfl) rfl (by simp only [(show upd LL 5 5 = true from rfl), cond_true, cond_false]; exact H2.out)
  · exact skips [] (by kernel_rfl) (fun _ h => by cases h)
  · intro xx ac1 wz hfr hsl hst
    exact hfin ac1 wz (hfr.size.trans hz) hfr.defers (fr_keep hfr [7, 8, 9, 10, 11] (by kernel_rfl)) (Lib.hid hst)
set_option maxRecDepth 20000 in
theorem makeYes (c : Cfg) (w : World) (q : (checkV c != 0) = false) (hroom : (if c.keys < 1 ∨ 65536 < c.keys then 0 else c.keys) = c.keys) : Calls Try.prog 47 #[.agg (cA c)] w fun e w' => e = .returned (.agg (kA c c.keys (.slice none 0 0))) ∧ Off [] w w' := by
  have H := Lib.hid (Hp.start [] w)
  refine calls_start Try.func47 rfl 12 rfl (by simp) (fun aa nn dd sl => ?_)
  have ss0 : aa.eval (.tmp 0) = .agg (cA c) := sl 0 (by simp)
  clear sl
  refine wp_seq_k fun KK1 hK1 => ?_
  refine makeYes_r0 c q hroom H aa nn ss0 ?_
  clear H nn
  intro b1 b2 aa ww nn dd1 kp ss1 ss2 H
  replace ss0 := (kp 0 rfl).trans ss0
  replace dd := dd1.trans dd
  clear dd1 kp
  refine then_normal ?_
  refine hK1 _ _ ?_
  refine wp_seq_k fun KK2 hK2 => ?_
  refine wp_seq_k fun KK3 hK3 => ?_
  refine makeYes_r1 c q hroom b1 b2 H aa nn ss1 ?_
  clear H nn
  intro aa ww nn dd1 kp ss5 H
  replace ss0 := (kp 0 rfl).trans ss0
  replace ss1 := (kp 1 rfl).trans ss1
  replace ss2 := (kp 2 rfl).trans ss2
  replace dd := dd1.trans dd
  clear dd1 kp
  refine then_normal ?_
  refine hK3 _ _ ?_
  refine wp_cond_false ss5 ?_
  refine wp_skip ?_
  refine then_normal ?_
  refine hK2 _ _ ?_
  refine wp_seq_k fun KK4 hK4 => ?_
  refine makeYes_r3 c q hroom b1 b2 H aa nn ss1 ss2 ?_
  clear H nn
  intro aa ww nn dd1 kp H
  replace ss0 := (kp 0 rfl).trans ss0
  replace ss1 := (kp 1 rfl).trans ss1
  replace ss2 := (kp 2 rfl).trans ss2
  replace ss5 := (kp 5 rfl).trans ss5
  replace dd := dd1.trans dd
  clear dd1 kp
  refine then_normal ?_
  refine hK4 _ _ ?_
  refine wp_ret ?_
  exact hp_ret_c tykeys_Keys H rfl dd ss2  (by (repeat (first | exact List.Mem.head _ | apply List.Mem.tail))) rfl ⟨rfl, H.out.off⟩
set_option maxRecDepth 20000 in
theorem equalKC_r0 (c : Cfg) (d : Cfg) (r1 : Int) (r2 : Int) (a : Option Addr) (b : Option Addr) (cc : Nat) (ce : Nat) (ps : List PairV) (qs : List PairV) (hb : ps.length ≤ 1000000) (hb2 : qs.length ≤ 1000000) {wa wb : World} (H : Hid (Hp [] wa wb [rS b ce 4 (qs.map rowOf), rS a cc 4 (ps.map rowOf)])) (ac0 : Act) (hz : ac0.tmps.size = 17) (so0 : ac0.eval (.tmp 0) = .agg (kA c r1 (.slice a ps.length cc))) (so1 : ac0.eval (.tmp 1) = .agg (kA d r2 (.slice b qs.length ce))) {QR : Exit → Act → World → Prop} (hfin : ∀ (b2 : Nat) (b3 : Nat) (ac1 : Act) (wz : World), ac1.tmps.size = 17 → ac1.defers = ac0.defers → (∀ t, ([2, 3, 4] : List Nat).contains t = false → ac1.eval (.tmp t) = ac0.eval (.tmp t)) → ac1.eval (.tmp 2) = .pointer (some ⟨b2, 0, none⟩) → ac1.eval (.tmp 3) = .pointer (some ⟨b3, 0, none⟩) → ac1.eval (.tmp 4) = .bool false →  Hid (Hp [] wa wz [rB b3 84 (kL d r2 (.slice b qs.length ce)), rB b2 84 (kL c r1 (.slice a ps.length cc)), rS b ce 4 (qs.map rowOf), rS a cc 4 (ps.map rowOf)]) → QR .normal ac1 wz) : (regAt Try.f57 0).wp Try.prog QR ac0 wb := by
  refine wp_region_sq (by kernel_rfl) 17 hz (by kernel_rfl) (fun (xx : Nat × Nat) jx => match xx with | (b2, b3) => nth [.pointer (some ⟨b2, 0, none⟩), .pointer (some ⟨b3, 0, none⟩), .bool false] jx) (fun (LL : Nat → Bool) (xx : Nat × Nat) ww => match xx with | (b2, b3) => Hp [] wa ww (bif LL 1 then [rB b3 84 (kL d r2 (.slice b qs.length ce)), rB b2 84 (kL c r1 (.slice a ps.length cc)), rS b ce 4 (qs.map rowOf), rS a cc 4 (ps.map rowOf)] else (bif LL 0 then [rB b2 84 (kL c r1 (.slice a ps.length cc)), rS b ce 4 (qs.map rowOf), rS a cc 4 (ps.map rowOf)] else [rS b ce 4 (qs.map rowOf), rS a cc 4 (ps.map rowOf)]))) (default, default) H.out ?_ (steps_al ?_) ?_ ?_
  · intro L1 L2 xx ww hL sg
    have lh0 := hL 0 (by decide)
    have lh1 := hL 1 (by decide)
    simp only [lh0, lh1] at sg
    exact sg
  · refine al_cons ?_ (al_cons ?_ (al_cons ?_ (al_nil)))
    · intro LL xx ac wc sg hst hwant QQ hgo
      obtain ⟨_, b3⟩ := xx
      have H := Lib.hid hst
      simp only [sg.self, sg.des 1 rfl, cond_true, cond_false] at H
      refine hp_box rfl 84 _ rfl _ ((sg.free 0 (by kernel_rfl)).trans so0) _ (by rfl) H ?_
      intro wd b2 H2
      exact hgo _ (b2, b3) _ (sg.agree (x' := (b2, b3)) (n := 3) rfl (by (iterate 3 (refine ix_cons (by first | exact fun _ => rfl | exact no sg.self | exact no (sg.des _ rfl)) ?_)); exact ix_nil)) rfl (by simp only [(show upd LL 0 0 = true from rfl), (show upd LL 0 1 = LL 1 from rfl), sg.des 1 rfl, cond_true, cond_false]; exact H2.out)
    · intro LL xx ac wc sg hst hwant QQ hgo
      obtain ⟨b2, _⟩ := xx
      have H := Lib.hid hst
      simp only [sg.anc 0 rfl, sg.self, cond_true, cond_false] at H
      refine hp_box rfl 84 _ rfl _ ((sg.free 1 (by kernel_rfl)).trans so1) _ (by rfl) H ?_
      intro wd b3 H2
      exact hgo _ (b2, b3) _ (sg.agree (x' := (b2, b3)) (n := 3) rfl (by (iterate 3 (refine ix_cons (by first | exact fun _ => rfl | exact no sg.self | exact no (sg.des _ rfl)) ?_)); exact ix_nil)) rfl (by simp only [(show upd LL 1 0 = LL 0 from rfl), sg.anc 0 rfl, (show upd LL 1 1 = true from rfl), cond_true, cond_false]; exact H2.out)
    · intro LL xx ac wc sg hst hwant QQ hgo
      obtain ⟨b2, b3⟩ := xx
      exact op_val hwant hgo hst _ (exec_assign rfl rfl) rfl
  · exact skips [] (by kernel_rfl) (fun _ h => by cases h)
  · intro xx ac1 wz hfr hsl hst
    obtain ⟨b2, b3⟩ := xx
    exact hfin b2 b3 ac1 wz (hfr.size.trans hz) hfr.defers (fr_keep hfr [2, 3, 4] (by kernel_rfl)) (hsl 0 (by decide)) (hsl 1 (by decide)) (hsl 2 (by decide)) (Lib.hid hst)
set_option maxRecDepth 20000 in
theorem equalKC_r1 (c : Cfg) (d : Cfg) (r1 : Int) (r2 : Int) (a : Option Addr) (b : Option Addr) (cc : Nat) (ce : Nat) (ps : List PairV) (qs : List PairV) (hb : ps.length ≤ 1000000) (hb2 : qs.length ≤ 1000000) (b2 : Nat) (b3 : Nat) {wa wb : World} (H : Hid (Hp [] wa wb [rB b3 84 (kL d r2 (.slice b qs.length ce)), rB b2 84 (kL c r1 (.slice a ps.length cc)), rS b ce 4 (qs.map rowOf), rS a cc 4 (ps.map rowOf)])) (ac0 : Act) (hz : ac0.tmps.size = 17) (so2 : ac0.eval (.tmp 2) = .pointer (some ⟨b2, 0, none⟩)) (so3 : ac0.eval (.tmp 3) = .pointer (some ⟨b3, 0, none⟩)) {QR : Exit → Act → World → Prop} (hfin : ∀ (ac1 : Act) (wz : World), ac1.tmps.size = 17 → ac1.defers = ac0.defers → (∀ t, ([4, 5, 6, 7, 8, 9, 10, 11, 12, 13, 14, 15, 16] : List Nat).contains t = false → ac1.eval (.tmp t) = ac0.eval (.tmp t)) → ac1.eval (.tmp 4) = .bool ((decide (c = d)) && ((r1 == r2) && decide (ps = qs))) →  Hid (Hp [] wa wz [rB b3 84 (kL d r2 (.slice b qs.length ce)), rB b2 84 (kL c r1 (.slice a ps.length cc)), rS b ce 4 (qs.map rowOf), rS a cc 4 (ps.map rowOf)]) → QR .normal ac1 wz) : (regAt Try.f57 1).wp Try.prog QR ac0 wb := by
  refine wp_region_sq (by kernel_rfl) 17 hz (by kernel_rfl) (fun (xx : Unit) jx => nth [.pointer (some ⟨b2, 0, none⟩), .agg (cA c), .pointer (some ⟨b3, 0, none⟩), .agg (cA d), .bool (decide (c = d)), .bool (decide (c = d)), bif (decide (c = d)) then .pointer (some ⟨b2, 18, none⟩) else undef, bif (decide (c = d)) then .agg #[.int .i64 r1, .slice a ps.length cc] else undef, bif (decide (c = d)) then .pointer (some ⟨b3, 18, none⟩) else undef, bif (decide (c = d)) then .agg #[.int .i64 r2, .slice b qs.length ce] else undef, bif (decide (c = d)) then .bool ((r1 == r2) && decide (ps = qs)) else undef, .bool ((decide (c = d)) && ((r1 == r2) && decide (ps = qs))), .bool ((decide (c = d)) && ((r1 == r2) && decide (ps = qs)))] jx) (fun (LL : Nat → Bool) (xx : Unit) ww => Hp [] wa ww [rB b3 84 (kL d r2 (.slice b qs.length ce)), rB b2 84 (kL c r1 (.slice a ps.length cc)), rS b ce 4 (qs.map rowOf), rS a cc 4 (ps.map rowOf)]) () H.out ?_ (steps_al ?_) ?_ ?_
  · exact fun _ _ _ _ _ h => h
  · refine al_cons ?_ (al_cons ?_ (al_cons ?_ (al_cons ?_ (al_cons ?_ (al_cons ?_ (al_cons ?_ (al_cons ?_ (al_cons ?_ (al_cons ?_ (al_cons ?_ (al_cons ?_ (al_cons ?_ (al_nil)))))))))))))
    · intro LL xx ac wc sg hst hwant QQ hgo
      have se2 : ac.eval (.tmp 2) = _ := ((sg.free 2 (by kernel_rfl)).trans so2)
      have sg2 := gt_of se2
      exact op_val hwant hgo hst _ (by simp only [execOp, nth]; go_simp <;> omega) rfl
    · intro LL xx ac wc sg hst hwant QQ hgo
      have H := Lib.hid hst
      refine hpA_load tyapi_Config H rfl (sg.slot 0 (sg.anc 0 rfl)) hwant (by (repeat (first | exact List.Mem.head _ | apply List.Mem.tail))) (by rfl) rfl ?_
      exact hgo _ () _ (fun _ _ => rfl) rfl hst
    · intro LL xx ac wc sg hst hwant QQ hgo
      have se3 : ac.eval (.tmp 3) = _ := ((sg.free 3 (by kernel_rfl)).trans so3)
      have sg3 := gt_of se3
      exact op_val hwant hgo hst _ (by simp only [execOp, nth]; go_simp <;> omega) rfl
    · intro LL xx ac wc sg hst hwant QQ hgo
      have H := Lib.hid hst
      refine hpA_load tyapi_Config H rfl (sg.slot 2 (sg.anc 2 rfl)) hwant (by (repeat (first | exact List.Mem.head _ | apply List.Mem.tail))) (by rfl) rfl ?_
      exact hgo _ () _ (fun _ _ => rfl) rfl hst
    · intro LL xx ac wc sg hst hwant QQ hgo
      exact op_val hwant hgo hst (.bool (decide (c = d))) (exec_eql rfl (sg.slot 1 (sg.anc 1 rfl)) (sg.slot 3 (sg.anc 3 rfl)) (by kernel_rfl) (run_eql_cfg c d wc)) rfl
    · intro LL xx ac wc sg hst hwant QQ hgo
      exact op_val hwant hgo hst _ (exec_move rfl (sg.slot 4 (sg.anc 4 rfl))) rfl
    · intro LL xx ac wc sg hst hwant QQ hgo
      have hG : (decide (c = d)) = true := (want_t rfl rfl (sg.slot 5 (sg.anc 5 rfl))).symm.trans hwant
      have se2 : ac.eval (.tmp 2) = _ := ((sg.free 2 (by kernel_rfl)).trans so2)
      have sg2 := gt_of se2
      exact op_val hwant hgo hst _ (by simp only [execOp, nth]; go_simp <;> omega) (cI hG)
    · intro LL xx ac wc sg hst hwant QQ hgo
      have hG : (decide (c = d)) = true := (want_t rfl rfl (sg.slot 5 (sg.anc 5 rfl))).symm.trans hwant
      have H := Lib.hid hst
      refine hpA_load tyshelf_Shelf_string__keys_entry_ H rfl (cT (sg.slot 6 (sg.anc 6 rfl)) hG) hwant (by (repeat (first | exact List.Mem.head _ | apply List.Mem.tail))) (by rfl) rfl ?_
      exact hgo _ () _ (fun _ _ => rfl) (cI hG) hst
    · intro LL xx ac wc sg hst hwant QQ hgo
      have hG : (decide (c = d)) = true := (want_t rfl rfl (sg.slot 5 (sg.anc 5 rfl))).symm.trans hwant
      have se3 : ac.eval (.tmp 3) = _ := ((sg.free 3 (by kernel_rfl)).trans so3)
      have sg3 := gt_of se3
      exact op_val hwant hgo hst _ (by simp only [execOp, nth]; go_simp <;> omega) (cI hG)
    · intro LL xx ac wc sg hst hwant QQ hgo
      have hG : (decide (c = d)) = true := (want_t rfl rfl (sg.slot 5 (sg.anc 5 rfl))).symm.trans hwant
      have H := Lib.hid hst
      refine hpA_load tyshelf_Shelf_string__keys_entry_ H rfl (cT (sg.slot 8 (sg.anc 8 rfl)) hG) hwant (by (repeat (first | exact List.Mem.head _ | apply List.Mem.tail))) (by rfl) rfl ?_
      exact hgo _ () _ (fun _ _ => rfl) (cI hG) hst
    · intro LL xx ac wc sg hst hwant QQ hgo
      have hG : (decide (c = d)) = true := (want_t rfl rfl (sg.slot 5 (sg.anc 5 rfl))).symm.trans hwant
      have se12 : ac.eval (.tmp 12) = _ := (cT (sg.slot 7 (sg.anc 7 rfl)) hG)
      have sg12 := gt_of se12
      have se14 : ac.eval (.tmp 14) = _ := (cT (sg.slot 9 (sg.anc 9 rfl)) hG)
      have sg14 := gt_of se14
      (try simp only [nth] at se12 sg12 se14 sg14)
      have H := Lib.hid hst
      refine op_call hwant hgo 83 _ (by simp only [execOp]; go_simp) (equalC r1 r2 a b cc ce ps qs wc (hp_held H (by (repeat (first | exact List.Mem.head _ | apply List.Mem.tail)))) (hp_held H (by (repeat (first | exact List.Mem.head _ | apply List.Mem.tail)))) hb hb2) ?_
      rintro er wd ⟨rfl, hof⟩
      exact ⟨_, (), rfl, fun _ _ => rfl, (cI hG), Hp.quiet hst hof⟩
    · intro LL xx ac wc sg hst hwant QQ hgo
      exact op_val hwant hgo hst (.bool ((decide (c = d)) && ((r1 == r2) && decide (ps = qs)))) (exec_and (Y := (r1 == r2) && decide (ps = qs)) rfl (sg.slot 5 (sg.anc 5 rfl)) (fun qq => cT (sg.slot 10 (sg.anc 10 rfl)) qq)) rfl
    · intro LL xx ac wc sg hst hwant QQ hgo
      exact op_val hwant hgo hst _ (exec_assign rfl (sg.slot 11 (sg.anc 11 rfl))) rfl
  · refine skips [6, 7, 8, 9, 10] (by kernel_rfl) ?_
    refine List.forall_mem_cons.2 ⟨?_, List.forall_mem_cons.2 ⟨?_, List.forall_mem_cons.2 ⟨?_, List.forall_mem_cons.2 ⟨?_, List.forall_mem_cons.2 ⟨?_, fun _ h => by cases h⟩⟩⟩⟩⟩
    · intro oo hop LL xx ac sg hwant
      cases Option.some.inj hop
      have hG : (decide (c = d)) = false := (want_t rfl rfl (sg.slot 5 (sg.anc 5 rfl))).symm.trans hwant
      exact ⟨cF hG, fun _ h => h⟩
    · intro oo hop LL xx ac sg hwant
      cases Option.some.inj hop
      have hG : (decide (c = d)) = false := (want_t rfl rfl (sg.slot 5 (sg.anc 5 rfl))).symm.trans hwant
      exact ⟨cF hG, fun _ h => h⟩
    · intro oo hop LL xx ac sg hwant
      cases Option.some.inj hop
      have hG : (decide (c = d)) = false := (want_t rfl rfl (sg.slot 5 (sg.anc 5 rfl))).symm.trans hwant
      exact ⟨cF hG, fun _ h => h⟩
    · intro oo hop LL xx ac sg hwant
      cases Option.some.inj hop
      have hG : (decide (c = d)) = false := (want_t rfl rfl (sg.slot 5 (sg.anc 5 rfl))).symm.trans hwant
      exact ⟨cF hG, fun _ h => h⟩
    · intro oo hop LL xx ac sg hwant
      cases Option.some.inj hop
      have hG : (decide (c = d)) = false := (want_t rfl rfl (sg.slot 5 (sg.anc 5 rfl))).symm.trans hwant
      exact ⟨cF hG, fun _ h => h⟩
  · intro xx ac1 wz hfr hsl hst
    exact hfin ac1 wz (hfr.size.trans hz) hfr.defers (fr_keep hfr [4, 5, 6, 7, 8, 9, 10, 11, 12, 13, 14, 15, 16] (by kernel_rfl)) (hsl 12 (by decide)) (Lib.hid hst)
set_option maxRecDepth 20000 in
theorem equalKC (c : Cfg) (d : Cfg) (r1 : Int) (r2 : Int) (a : Option Addr) (b : Option Addr) (cc : Nat) (ce : Nat) (ps : List PairV) (qs : List PairV) (w : World) (h : (rS a cc 4 (ps.map rowOf)).holds w) (h2 : (rS b ce 4 (qs.map rowOf)).holds w) (hb : ps.length ≤ 1000000) (hb2 : qs.length ≤ 1000000) : Calls Try.prog 57 #[.agg (kA c r1 (.slice a ps.length cc)), .agg (kA d r2 (.slice b qs.length ce))] w fun e w' => e = .returned (.bool (decide (c = d) && (r1 == r2 && decide (ps = qs)))) ∧ Off [] w w' := by
  have H := Lib.hid (Hp.start [] w)
  have H := hp_old H h (by decide)
  clear h
  replace H := hp_old H h2 (by decide)
  refine calls_start Try.func57 rfl 17 rfl (by simp) (fun aa nn dd sl => ?_)
  have ss0 : aa.eval (.tmp 0) = .agg (kA c r1 (.slice a ps.length cc)) := sl 0 (by simp)
  have ss1 : aa.eval (.tmp 1) = .agg (kA d r2 (.slice b qs.length ce)) := sl 1 (by simp)
  clear sl
  refine wp_seq_k fun KK1 hK1 => ?_
  refine equalKC_r0 c d r1 r2 a b cc ce ps qs hb hb2 H aa nn ss0 ss1 ?_
  clear H nn
  intro b2 b3 aa ww nn dd1 kp ss2 ss3 ss4 H
  replace ss0 := (kp 0 rfl).trans ss0
  replace ss1 := (kp 1 rfl).trans ss1
  replace dd := dd1.trans dd
  clear dd1 kp
  refine then_normal ?_
  refine hK1 _ _ ?_
  refine wp_seq_k fun KK2 hK2 => ?_
  refine equalKC_r1 c d r1 r2 a b cc ce ps qs hb hb2 b2 b3 H aa nn ss2 ss3 ?_
  clear H nn ss4
  intro aa ww nn dd1 kp ss4 H
  replace ss0 := (kp 0 rfl).trans ss0
  replace ss1 := (kp 1 rfl).trans ss1
  replace ss2 := (kp 2 rfl).trans ss2
  replace ss3 := (kp 3 rfl).trans ss3
  replace dd := dd1.trans dd
  clear dd1 kp
  refine then_normal ?_
  refine hK2 _ _ ?_
  refine wp_ret ?_
  exact ret1 rfl dd ss4 ⟨rfl, H.out.off⟩
end Go.Proofs.Ytfhhfmkfkoemjaa.Se6
