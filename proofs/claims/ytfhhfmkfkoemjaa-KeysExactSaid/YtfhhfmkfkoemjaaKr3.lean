/- The reference of layer 10: With. -/
import Derived.Test.YtfhhfmkfkoemjaaProg
import Derived.Below
import Derived.WalkKit
import Derived.KernelRfl
import Derived.RowKit3
import Derived.Deep.LoopGhost
import Derived.Deep.QuietTactic
import Derived.BigQuiet
import Derived.WideLaws
import Derived.Deep.DeepCutAuto
import Derived.Deep.CutBlock
import Derived.Lib.Hide
import Derived.Laws.BitsLemmas
import Derived.Laws.Bits64
import Derived.Laws.BitsAllLaws
import Derived.IntWalk
import Derived.Outline
import Derived.WalkSpells
import Derived.Test.YtfhhfmkfkoemjaaMem
import Derived.Test.YtfhhfmkfkoemjaaKr2
namespace Go.Proofs.Ytfhhfmkfkoemjaa.Se6
open Go.RowKit Go.Proofs.Ytfhhfmkfkoemjaa.Mem Go.Proofs.Ytfhhfmkfkoemjaa.Reg Go.Proofs.Ytfhhfmkfkoemjaa.Pk Go.Proofs.Ytfhhfmkfkoemjaa.Si
set_option linter.unusedVariables false
set_option linter.unusedSimpArgs false

set_option maxRecDepth 20000 in
theorem withRno_r0 (c : Cfg) (la : Option Addr) (lc : Nat) (l : List EntR) (now : Int) (who : Int) (key : Int) (body : ByteArray) (hk0 : 0 ≤ key) (hk1 : key ≤ 18446744073709551615) (hl : l.length ≤ 1000000) (q : ((lookR c l now who key body).2 != 1) = true) {wa wb : World} (H : Hid (Hp [] wa wb [rS la lc 4 (l.map entRow)])) (ac0 : Act) (hz : ac0.tmps.size = 41) (so0 : ac0.eval (.tmp 0) = .agg (rkA c (.slice la l.length lc))) {QR : Exit → Act → World → Prop} (hfin : ∀ (b6 : Nat) (b12 : Nat) (ac1 : Act) (wz : World), ac1.tmps.size = 41 → ac1.defers = ac0.defers → (∀ t, ([6, 12, 13] : List Nat).contains t = false → ac1.eval (.tmp t) = ac0.eval (.tmp t)) → ac1.eval (.tmp 6) = .pointer (some ⟨b6, 0, none⟩) → ac1.eval (.tmp 12) = .pointer (some ⟨b12, 0, none⟩) → ac1.eval (.tmp 13) = .int .i64 0 →  Hid (Hp [] wa wz [rB b12 99 [.int .i64 0, .int .i64 0, .int .i64 0, .int .i64 0, .int .i64 0, .int .i64 0, .int .i64 0, .int .i64 0, .int .i64 0, .int .i64 0, .int .i64 0, .int .i64 0, .int .i64 0, .int .i64 0, .int .i64 0, .int .i64 0, .int .i64 0, .int .u32 0, .slice none 0 0], rB b6 99 (rkL c (.slice la l.length lc)), rS la lc 4 (l.map entRow)]) → QR .normal ac1 wz) : (regAt Try.f56 0).wp Try.prog QR ac0 wb := by
  refine wp_region_sq (by kernel_rfl) 41 hz (by kernel_rfl) (fun (xx : Nat × Nat) jx => match xx with | (b6, b12) => nth [.pointer (some ⟨b6, 0, none⟩), .pointer (some ⟨b12, 0, none⟩), .int .i64 0] jx) (fun (LL : Nat → Bool) (xx : Nat × Nat) ww => match xx with | (b6, b12) => Hp [] wa ww (bif LL 1 then [rB b12 99 [.int .i64 0, .int .i64 0, .int .i64 0, .int .i64 0, .int .i64 0, .int .i64 0, .int .i64 0, .int .i64 0, .int .i64 0, .int .i64 0, .int .i64 0, .int .i64 0, .int .i64 0, .int .i64 0, .int .i64 0, .int .i64 0, .int .i64 0, .int .u32 0, .slice none 0 0], rB b6 99 (rkL c (.slice la l.length lc)), rS la lc 4 (l.map entRow)] else (bif LL 0 then [rB b6 99 (rkL c (.slice la l.length lc)), rS la lc 4 (l.map entRow)] else [rS la lc 4 (l.map entRow)]))) (default, default) H.out ?_ (steps_al ?_) ?_ ?_
  · intro L1 L2 xx ww hL sg
    have lh0 := hL 0 (by decide)
    have lh1 := hL 1 (by decide)
    simp only [lh0, lh1] at sg
    exact sg
  · refine al_cons ?_ (al_cons ?_ (al_cons ?_ (al_nil)))
    · intro LL xx ac wc sg hst hwant QQ hgo
      obtain ⟨_, b12⟩ := xx
      have H := Lib.hid hst
      simp only [sg.self, sg.des 1 rfl, cond_true, cond_false] at H
      refine hp_box rfl 99 _ rfl _ ((sg.free 0 (by kernel_rfl)).trans so0) _ (by rfl) H ?_
      intro wd b6 H2
      exact hgo _ (b6, b12) _ (sg.agree (x' := (b6, b12)) (n := 3) rfl (by (iterate 3 (refine ix_cons (by first | exact fun _ => rfl | exact no sg.self | exact no (sg.des _ rfl)) ?_)); exact ix_nil)) rfl (by simp only [(show upd LL 0 0 = true from rfl), (show upd LL 0 1 = LL 1 from rfl), sg.des 1 rfl, cond_true, cond_false]; exact H2.out)
    · intro LL xx ac wc sg hst hwant QQ hgo
      obtain ⟨b6, _⟩ := xx
      have H := Lib.hid hst
      simp only [sg.anc 0 rfl, sg.self, cond_true, cond_false] at H
      refine hpA_alloc tyhoistwayref10_Keys H rfl rfl ?_
      intro wd b12 H2
      exact hgo _ (b6, b12) _ (sg.agree (x' := (b6, b12)) (n := 3) rfl (by (iterate 3 (refine ix_cons (by first | exact fun _ => rfl | exact no sg.self | exact no (sg.des _ rfl)) ?_)); exact ix_nil)) rfl (by simp only [(show upd LL 1 0 = LL 0 from rfl), sg.anc 0 rfl, (show upd LL 1 1 = true from rfl), cond_true, cond_false]; exact H2.out)
    · intro LL xx ac wc sg hst hwant QQ hgo
      obtain ⟨b6, b12⟩ := xx
      exact op_val hwant hgo hst _ (exec_assign rfl rfl) rfl
  · exact skips [] (by kernel_rfl) (fun _ h => by cases h)
  · intro xx ac1 wz hfr hsl hst
    obtain ⟨b6, b12⟩ := xx
    exact hfin b6 b12 ac1 wz (hfr.size.trans hz) hfr.defers (fr_keep hfr [6, 12, 13] (by kernel_rfl)) (hsl 0 (by decide)) (hsl 1 (by decide)) (hsl 2 (by decide)) (Lib.hid hst)
set_option maxRecDepth 20000 in
theorem withRno_r1 (c : Cfg) (la : Option Addr) (lc : Nat) (l : List EntR) (now : Int) (who : Int) (key : Int) (body : ByteArray) (hk0 : 0 ≤ key) (hk1 : key ≤ 18446744073709551615) (hl : l.length ≤ 1000000) (hok : Hid (∀ e ∈ l, 0 ≤ e.key ∧ e.key ≤ 18446744073709551615)) (q : ((lookR c l now who key body).2 != 1) = true) (b6 : Nat) (b12 : Nat) {wa wb : World} (H : Hid (Hp [] wa wb [rB b12 99 [.int .i64 0, .int .i64 0, .int .i64 0, .int .i64 0, .int .i64 0, .int .i64 0, .int .i64 0, .int .i64 0, .int .i64 0, .int .i64 0, .int .i64 0, .int .i64 0, .int .i64 0, .int .i64 0, .int .i64 0, .int .i64 0, .int .i64 0, .int .u32 0, .slice none 0 0], rB b6 99 (rkL c (.slice la l.length lc)), rS la lc 4 (l.map entRow)])) (ac0 : Act) (hz : ac0.tmps.size = 41) (so1 : ac0.eval (.tmp 1) = .int .i64 now) (so2 : ac0.eval (.tmp 2) = .int .i64 who) (so3 : ac0.eval (.tmp 3) = .int .u64 key) (so4 : ac0.eval (.tmp 4) = .string body) (so6 : ac0.eval (.tmp 6) = .pointer (some ⟨b6, 0, none⟩)) {QR : Exit → Act → World → Prop} (hfin : ∀ (ac1 : Act) (wz : World), ac1.tmps.size = 41 → ac1.defers = ac0.defers → (∀ t, ([14, 15, 16, 17, 18, 19, 20, 21, 22, 23, 24] : List Nat).contains t = false → ac1.eval (.tmp t) = ac0.eval (.tmp t)) → ac1.eval (.tmp 15) = .int .i64 ((lookR c l now who key body).2) →  Hid (Hp [] wa wz [rB b12 99 [.int .i64 0, .int .i64 0, .int .i64 0, .int .i64 0, .int .i64 0, .int .i64 0, .int .i64 0, .int .i64 0, .int .i64 0, .int .i64 0, .int .i64 0, .int .i64 0, .int .i64 0, .int .i64 0, .int .i64 0, .int .i64 0, .int .i64 0, .int .u32 0, .slice none 0 0], rB b6 99 (rkL c (.slice la l.length lc)), rS la lc 4 (l.map entRow)]) → QR .normal ac1 wz) : (regAt Try.f56 1).wp Try.prog QR ac0 wb := by
  refine wp_region_sq (by kernel_rfl) 41 hz (by kernel_rfl) (fun (xx : Unit) jx => nth [.agg (rkA c (.slice la l.length lc)), .int .i64 now, .int .i64 who, .int .u64 key, .string body, .tuple #[.string ((lookR c l now who key body).1), .int .i64 ((lookR c l now who key body).2)], .tuple #[.string ((lookR c l now who key body).1), .int .i64 ((lookR c l now who key body).2)], .string ((lookR c l now who key body).1), .int .i64 ((lookR c l now who key body).2), .string ((lookR c l now who key body).1), .int .i64 ((lookR c l now who key body).2)] jx) (fun (LL : Nat → Bool) (xx : Unit) ww => Hp [] wa ww [rB b12 99 [.int .i64 0, .int .i64 0, .int .i64 0, .int .i64 0, .int .i64 0, .int .i64 0, .int .i64 0, .int .i64 0, .int .i64 0, .int .i64 0, .int .i64 0, .int .i64 0, .int .i64 0, .int .i64 0, .int .i64 0, .int .i64 0, .int .i64 0, .int .u32 0, .slice none 0 0], rB b6 99 (rkL c (.slice la l.length lc)), rS la lc 4 (l.map entRow)]) () H.out ?_ (steps_al ?_) ?_ ?_
  · exact fun _ _ _ _ _ h => h
  · refine al_cons ?_ (al_cons ?_ (al_cons ?_ (al_cons ?_ (al_cons ?_ (al_cons ?_ (al_cons ?_ (al_cons ?_ (al_cons ?_ (al_cons ?_ (al_cons ?_ (al_nil)))))))))))
    · intro LL xx ac wc sg hst hwant QQ hgo
      have H := Lib.hid hst
      refine hpA_load tyhoistwayref10_Keys H rfl ((sg.free 6 (by kernel_rfl)).trans so6) hwant (by (repeat (first | exact List.Mem.head _ | apply List.Mem.tail))) (by rfl) rfl ?_
      exact hgo _ () _ (fun _ _ => rfl) rfl hst
    · intro LL xx ac wc sg hst hwant QQ hgo
      exact op_val hwant hgo hst _ (exec_move rfl ((sg.free 1 (by kernel_rfl)).trans so1)) rfl
    · intro LL xx ac wc sg hst hwant QQ hgo
      exact op_val hwant hgo hst _ (exec_move rfl ((sg.free 2 (by kernel_rfl)).trans so2)) rfl
    · intro LL xx ac wc sg hst hwant QQ hgo
      exact op_val hwant hgo hst _ (exec_move rfl ((sg.free 3 (by kernel_rfl)).trans so3)) rfl
    · intro LL xx ac wc sg hst hwant QQ hgo
      exact op_val hwant hgo hst _ (exec_move rfl ((sg.free 4 (by kernel_rfl)).trans so4)) rfl
    · intro LL xx ac wc sg hst hwant QQ hgo
      have se17 : ac.eval (.tmp 17) = _ := (sg.slot 0 (sg.anc 0 rfl))
      have sg17 := gt_of se17
      have se18 : ac.eval (.tmp 18) = _ := (sg.slot 1 (sg.anc 1 rfl))
      have sg18 := gt_of se18
      have se19 : ac.eval (.tmp 19) = _ := (sg.slot 2 (sg.anc 2 rfl))
      have sg19 := gt_of se19
      have se20 : ac.eval (.tmp 20) = _ := (sg.slot 3 (sg.anc 3 rfl))
      have sg20 := gt_of se20
      have se21 : ac.eval (.tmp 21) = _ := (sg.slot 4 (sg.anc 4 rfl))
      have sg21 := gt_of se21
      (try simp only [nth] at se17 sg17 se18 sg18 se19 sg19 se20 sg20 se21 sg21)
      have H := Lib.hid hst
      refine op_call hwant hgo 55 _ (by simp only [execOp]; go_simp) (lookRC c la lc l now who key body wc (hp_held H (by (repeat (first | exact List.Mem.head _ | apply List.Mem.tail)))) hk0 hk1 hl hok) ?_
      rintro er wd ⟨rfl, hof⟩
      exact ⟨_, (), rfl, fun _ _ => rfl, rfl, Hp.quiet hst hof⟩
    · intro LL xx ac wc sg hst hwant QQ hgo
      exact op_val hwant hgo hst _ (exec_move rfl (sg.slot 5 (sg.anc 5 rfl))) rfl
    · intro LL xx ac wc sg hst hwant QQ hgo
      have se16 : ac.eval (.tmp 16) = _ := (sg.slot 6 (sg.anc 6 rfl))
      have sg16 := gt_of se16
      (try simp only [nth] at se16 sg16)
      exact op_val hwant hgo hst _ (by simp only [execOp, nth]; go_simp <;> omega) rfl
    · intro LL xx ac wc sg hst hwant QQ hgo
      have se16 : ac.eval (.tmp 16) = _ := (sg.slot 6 (sg.anc 6 rfl))
      have sg16 := gt_of se16
      (try simp only [nth] at se16 sg16)
      exact op_val hwant hgo hst _ (by simp only [execOp, nth]; go_simp <;> omega) rfl
    · intro LL xx ac wc sg hst hwant QQ hgo
      exact op_val hwant hgo hst _ (exec_assign rfl (sg.slot 7 (sg.anc 7 rfl))) rfl
    · intro LL xx ac wc sg hst hwant QQ hgo
      exact op_val hwant hgo hst _ (exec_assign rfl (sg.slot 8 (sg.anc 8 rfl))) rfl
  · exact skips [] (by kernel_rfl) (fun _ h => by cases h)
  · intro xx ac1 wz hfr hsl hst
    exact hfin ac1 wz (hfr.size.trans hz) hfr.defers (fr_keep hfr [14, 15, 16, 17, 18, 19, 20, 21, 22, 23, 24] (by kernel_rfl)) (hsl 10 (by decide)) (Lib.hid hst)
set_option maxRecDepth 20000 in
theorem withRno_r2 (c : Cfg) (la : Option Addr) (lc : Nat) (l : List EntR) (now : Int) (who : Int) (key : Int) (body : ByteArray) (hk0 : 0 ≤ key) (hk1 : key ≤ 18446744073709551615) (hl : l.length ≤ 1000000) (q : ((lookR c l now who key body).2 != 1) = true) (b6 : Nat) (b12 : Nat) {wa wb : World} (H : Hid (Hp [] wa wb [rB b12 99 [.int .i64 0, .int .i64 0, .int .i64 0, .int .i64 0, .int .i64 0, .int .i64 0, .int .i64 0, .int .i64 0, .int .i64 0, .int .i64 0, .int .i64 0, .int .i64 0, .int .i64 0, .int .i64 0, .int .i64 0, .int .i64 0, .int .i64 0, .int .u32 0, .slice none 0 0], rB b6 99 (rkL c (.slice la l.length lc)), rS la lc 4 (l.map entRow)])) (ac0 : Act) (hz : ac0.tmps.size = 41) (so15 : ac0.eval (.tmp 15) = .int .i64 ((lookR c l now who key body).2)) {QR : Exit → Act → World → Prop} (hfin : ∀ (ac1 : Act) (wz : World), ac1.tmps.size = 41 → ac1.defers = ac0.defers → (∀ t, ([25, 26] : List Nat).contains t = false → ac1.eval (.tmp t) = ac0.eval (.tmp t)) → ac1.eval (.tmp 26) = .bool true →  Hid (Hp [] wa wz [rB b12 99 [.int .i64 0, .int .i64 0, .int .i64 0, .int .i64 0, .int .i64 0, .int .i64 0, .int .i64 0, .int .i64 0, .int .i64 0, .int .i64 0, .int .i64 0, .int .i64 0, .int .i64 0, .int .i64 0, .int .i64 0, .int .i64 0, .int .i64 0, .int .u32 0, .slice none 0 0], rB b6 99 (rkL c (.slice la l.length lc)), rS la lc 4 (l.map entRow)]) → QR .normal ac1 wz) : (regAt Try.f56 2).wp Try.prog QR ac0 wb := by
  refine wp_region_sq (by kernel_rfl) 41 hz (by kernel_rfl) (fun (xx : Unit) jx => nth [.int .i64 ((lookR c l now who key body).2), .bool true] jx) (fun (LL : Nat → Bool) (xx : Unit) ww => Hp [] wa ww [rB b12 99 [.int .i64 0, .int .i64 0, .int .i64 0, .int .i64 0, .int .i64 0, .int .i64 0, .int .i64 0, .int .i64 0, .int .i64 0, .int .i64 0, .int .i64 0, .int .i64 0, .int .i64 0, .int .i64 0, .int .i64 0, .int .i64 0, .int .i64 0, .int .u32 0, .slice none 0 0], rB b6 99 (rkL c (.slice la l.length lc)), rS la lc 4 (l.map entRow)]) () H.out ?_ (steps_al ?_) ?_ ?_
  · exact fun _ _ _ _ _ h => h
  · refine al_cons ?_ (al_cons ?_ (al_nil))
    · intro LL xx ac wc sg hst hwant QQ hgo
      exact op_val hwant hgo hst _ (exec_move rfl ((sg.free 15 (by kernel_rfl)).trans so15)) rfl
    · intro LL xx ac wc sg hst hwant QQ hgo
      have se25 : ac.eval (.tmp 25) = _ := (sg.slot 0 (sg.anc 0 rfl))
      have sg25 := gt_of se25
      (try simp only [nth] at se25 sg25)
      exact op_val hwant hgo hst _ (by simp only [execOp, nth]; go_simp <;> omega) rfl
  · exact skips [] (by kernel_rfl) (fun _ h => by cases h)
  · intro xx ac1 wz hfr hsl hst
    exact hfin ac1 wz (hfr.size.trans hz) hfr.defers (fr_keep hfr [25, 26] (by kernel_rfl)) (hsl 1 (by decide)) (Lib.hid hst)
set_option maxRecDepth 20000 in
theorem withRno_r3 (c : Cfg) (la : Option Addr) (lc : Nat) (l : List EntR) (now : Int) (who : Int) (key : Int) (body : ByteArray) (hk0 : 0 ≤ key) (hk1 : key ≤ 18446744073709551615) (hl : l.length ≤ 1000000) (q : ((lookR c l now who key body).2 != 1) = true) (b6 : Nat) (b12 : Nat) {wa wb : World} (H : Hid (Hp [] wa wb [rB b12 99 [.int .i64 0, .int .i64 0, .int .i64 0, .int .i64 0, .int .i64 0, .int .i64 0, .int .i64 0, .int .i64 0, .int .i64 0, .int .i64 0, .int .i64 0, .int .i64 0, .int .i64 0, .int .i64 0, .int .i64 0, .int .i64 0, .int .i64 0, .int .u32 0, .slice none 0 0], rB b6 99 (rkL c (.slice la l.length lc)), rS la lc 4 (l.map entRow)])) (ac0 : Act) (hz : ac0.tmps.size = 41) (so12 : ac0.eval (.tmp 12) = .pointer (some ⟨b12, 0, none⟩)) {QR : Exit → Act → World → Prop} (hfin : ∀ (ac1 : Act) (wz : World), ac1.tmps.size = 41 → ac1.defers = ac0.defers → (∀ t, ([13, 27] : List Nat).contains t = false → ac1.eval (.tmp t) = ac0.eval (.tmp t)) → ac1.eval (.tmp 13) = .int .i64 7 →  Hid (Hp [] wa wz [rB b12 99 [.int .i64 0, .int .i64 0, .int .i64 0, .int .i64 0, .int .i64 0, .int .i64 0, .int .i64 0, .int .i64 0, .int .i64 0, .int .i64 0, .int .i64 0, .int .i64 0, .int .i64 0, .int .i64 0, .int .i64 0, .int .i64 0, .int .i64 0, .int .u32 0, .slice none 0 0], rB b6 99 (rkL c (.slice la l.length lc)), rS la lc 4 (l.map entRow)]) → QR .normal ac1 wz) : (regAt Try.f56 3).wp Try.prog QR ac0 wb := by
  refine wp_region_sq (by kernel_rfl) 41 hz (by kernel_rfl) (fun (xx : Unit) jx => nth [.agg #[.int .i64 0, .int .i64 0, .int .i64 0, .int .i64 0, .int .i64 0, .int .i64 0, .int .i64 0, .int .i64 0, .int .i64 0, .int .i64 0, .int .i64 0, .int .i64 0, .int .i64 0, .int .i64 0, .int .i64 0, .int .i64 0, .int .i64 0, .int .u32 0, .slice none 0 0], undef, .int .i64 7] jx) (fun (LL : Nat → Bool) (xx : Unit) ww => Hp [] wa ww (bif LL 1 then [rB b12 99 [.int .i64 0, .int .i64 0, .int .i64 0, .int .i64 0, .int .i64 0, .int .i64 0, .int .i64 0, .int .i64 0, .int .i64 0, .int .i64 0, .int .i64 0, .int .i64 0, .int .i64 0, .int .i64 0, .int .i64 0, .int .i64 0, .int .i64 0, .int .u32 0, .slice none 0 0], rB b6 99 (rkL c (.slice la l.length lc)), rS la lc 4 (l.map entRow)] else [rB b12 99 [.int .i64 0, .int .i64 0, .int .i64 0, .int .i64 0, .int .i64 0, .int .i64 0, .int .i64 0, .int .i64 0, .int .i64 0, .int .i64 0, .int .i64 0, .int .i64 0, .int .i64 0, .int .i64 0, .int .i64 0, .int .i64 0, .int .i64 0, .int .u32 0, .slice none 0 0], rB b6 99 (rkL c (.slice la l.length lc)), rS la lc 4 (l.map entRow)])) () H.out ?_ (steps_al ?_) ?_ ?_
  · intro L1 L2 xx ww hL sg
    have lh1 := hL 1 (by decide)
    simp only [lh1] at sg
    exact sg
  · refine al_cons ?_ (al_cons ?_ (al_cons ?_ (al_nil)))
    · intro LL xx ac wc sg hst hwant QQ hgo
      exact op_val hwant hgo hst _ (by simp only [execOp, nth, kA, kL, rkA, rkL, cA, cL]; go_simp <;> omega) rfl
    · intro LL xx ac wc sg hst hwant QQ hgo
      have H := Lib.hid hst
      simp only [sg.self, cond_true, cond_false] at H
      refine hpA_store tyhoistwayref10_Keys H rfl rfl ((sg.free 12 (by kernel_rfl)).trans so12) (sg.slot 0 (sg.anc 0 rfl)) rfl (by repeat (first | apply Put.head | apply Put.tail)) (by simp [kA, kL, rkA, rkL, cA, cL]) (by simp [kA, kL, rkA, rkL, cA, cL, Value.oneCell']) (by first | rfl | (simp only [spl]; rfl)) rfl ?_
      intro wd H2
      exact hgo _ () _ (fun _ _ => rfl) rfl (by simp only [(show upd LL 1 1 = true from rfl), cond_true, cond_false]; exact H2.out)
    · intro LL xx ac wc sg hst hwant QQ hgo
      exact op_val hwant hgo hst _ (exec_assign rfl rfl) rfl
  · exact skips [] (by kernel_rfl) (fun _ h => by cases h)
  · intro xx ac1 wz hfr hsl hst
    exact hfin ac1 wz (hfr.size.trans hz) hfr.defers (fr_keep hfr [13, 27] (by kernel_rfl)) (hsl 2 (by decide)) (Lib.hid hst)
set_option maxRecDepth 20000 in
theorem withRno (c : Cfg) (la : Option Addr) (lc : Nat) (l : List EntR) (now : Int) (who : Int) (key : Int) (body : ByteArray) (ans : ByteArray) (w : World) (h : (rS la lc 4 (l.map entRow)).holds w) (hk0 : 0 ≤ key) (hk1 : key ≤ 18446744073709551615) (hl : l.length ≤ 1000000) (hok : Hid (∀ e ∈ l, 0 ≤ e.key ∧ e.key ≤ 18446744073709551615)) (q : ((lookR c l now who key body).2 != 1) = true) : Calls Try.prog 56 #[.agg (rkA c (.slice la l.length lc)), .int .i64 now, .int .i64 who, .int .u64 key, .string body, .string ans] w fun e w' => e = .returned (.tuple #[.agg #[.int .i64 0, .int .i64 0, .int .i64 0, .int .i64 0, .int .i64 0, .int .i64 0, .int .i64 0, .int .i64 0, .int .i64 0, .int .i64 0, .int .i64 0, .int .i64 0, .int .i64 0, .int .i64 0, .int .i64 0, .int .i64 0, .int .i64 0, .int .u32 0, .slice none 0 0], .int .i64 7]) ∧ Off [] w w' := by
  have H := Lib.hid (Hp.start [] w)
  have H := hp_old H h (by decide)
  clear h
  refine calls_start Try.func56 rfl 41 rfl (by simp) (fun aa nn dd sl => ?_)
  have ss0 : aa.eval (.tmp 0) = .agg (rkA c (.slice la l.length lc)) := sl 0 (by simp)
  have ss1 : aa.eval (.tmp 1) = .int .i64 now := sl 1 (by simp)
  have ss2 : aa.eval (.tmp 2) = .int .i64 who := sl 2 (by simp)
  have ss3 : aa.eval (.tmp 3) = .int .u64 key := sl 3 (by simp)
  have ss4 : aa.eval (.tmp 4) = .string body := sl 4 (by simp)
  have ss5 : aa.eval (.tmp 5) = .string ans := sl 5 (by simp)
  clear sl
  refine wp_seq_k fun KK1 hK1 => ?_
  refine withRno_r0 c la lc l now who key body hk0 hk1 hl q H aa nn ss0 ?_
  clear H nn
  intro b6 b12 aa ww nn dd1 kp ss6 ss12 ss13 H
  replace ss0 := (kp 0 rfl).trans ss0
  replace ss1 := (kp 1 rfl).trans ss1
  replace ss2 := (kp 2 rfl).trans ss2
  replace ss3 := (kp 3 rfl).trans ss3
  replace ss4 := (kp 4 rfl).trans ss4
  replace ss5 := (kp 5 rfl).trans ss5
  replace dd := dd1.trans dd
  clear dd1 kp
  refine then_normal ?_
  refine hK1 _ _ ?_
  refine wp_seq_k fun KK2 hK2 => ?_
  refine withRno_r1 c la lc l now who key body hk0 hk1 hl hok q b6 b12 H aa nn ss1 ss2 ss3 ss4 ss6 ?_
  clear H nn
  intro aa ww nn dd1 kp ss15 H
  replace ss0 := (kp 0 rfl).trans ss0
  replace ss1 := (kp 1 rfl).trans ss1
  replace ss2 := (kp 2 rfl).trans ss2
  replace ss3 := (kp 3 rfl).trans ss3
  replace ss4 := (kp 4 rfl).trans ss4
  replace ss5 := (kp 5 rfl).trans ss5
  replace ss6 := (kp 6 rfl).trans ss6
  replace ss12 := (kp 12 rfl).trans ss12
  replace ss13 := (kp 13 rfl).trans ss13
  replace dd := dd1.trans dd
  clear dd1 kp
  refine then_normal ?_
  refine hK2 _ _ ?_
  refine wp_seq_k fun KK3 hK3 => ?_
  refine wp_seq_k fun KK4 hK4 => ?_
  refine withRno_r2 c la lc l now who key body hk0 hk1 hl q b6 b12 H aa nn ss15 ?_
  clear H nn
  intro aa ww nn dd1 kp ss26 H
  replace ss0 := (kp 0 rfl).trans ss0
  replace ss1 := (kp 1 rfl).trans ss1
  replace ss2 := (kp 2 rfl).trans ss2
  replace ss3 := (kp 3 rfl).trans ss3
  replace ss4 := (kp 4 rfl).trans ss4
  replace ss5 := (kp 5 rfl).trans ss5
  replace ss6 := (kp 6 rfl).trans ss6
  replace ss12 := (kp 12 rfl).trans ss12
  replace ss13 := (kp 13 rfl).trans ss13
  replace ss15 := (kp 15 rfl).trans ss15
  replace dd := dd1.trans dd
  clear dd1 kp
  refine then_normal ?_
  refine hK4 _ _ ?_
  refine wp_cond_true ss26 ?_
  refine wp_seq_k fun KK5 hK5 => ?_
  refine withRno_r3 c la lc l now who key body hk0 hk1 hl q b6 b12 H aa nn ss12 ?_
  clear H nn ss13
  intro aa ww nn dd1 kp ss13 H
  replace ss0 := (kp 0 rfl).trans ss0
  replace ss1 := (kp 1 rfl).trans ss1
  replace ss2 := (kp 2 rfl).trans ss2
  replace ss3 := (kp 3 rfl).trans ss3
  replace ss4 := (kp 4 rfl).trans ss4
  replace ss5 := (kp 5 rfl).trans ss5
  replace ss6 := (kp 6 rfl).trans ss6
  replace ss12 := (kp 12 rfl).trans ss12
  replace ss15 := (kp 15 rfl).trans ss15
  replace ss26 := (kp 26 rfl).trans ss26
  replace dd := dd1.trans dd
  clear dd1 kp
  refine then_normal ?_
  refine hK5 _ _ ?_
  refine wp_ret ?_
  refine then_ret ?_
  exact hp_ret_ct tyhoistwayref10_Keys H rfl dd ss12 ss13 (by (repeat (first | exact List.Mem.head _ | apply List.Mem.tail))) rfl ⟨rfl, H.out.off⟩
set_option maxRecDepth 20000 in
theorem withRyes_r0 (c : Cfg) (la : Option Addr) (lc : Nat) (l : List EntR) (now : Int) (who : Int) (key : Int) (body : ByteArray) (hk0 : 0 ≤ key) (hk1 : key ≤ 18446744073709551615) (hl : l.length ≤ 1000000) (q : ((lookR c l now who key body).2 != 1) = false) (hfl : (l.filter (keepR c now)).length ≤ 1000000) {wa wb : World} (H : Hid (Hp [] wa wb [rS la lc 4 (l.map entRow)])) (ac0 : Act) (hz : ac0.tmps.size = 41) (so0 : ac0.eval (.tmp 0) = .agg (rkA c (.slice la l.length lc))) {QR : Exit → Act → World → Prop} (hfin : ∀ (b6 : Nat) (b12 : Nat) (ac1 : Act) (wz : World), ac1.tmps.size = 41 → ac1.defers = ac0.defers → (∀ t, ([6, 12, 13] : List Nat).contains t = false → ac1.eval (.tmp t) = ac0.eval (.tmp t)) → ac1.eval (.tmp 6) = .pointer (some ⟨b6, 0, none⟩) → ac1.eval (.tmp 12) = .pointer (some ⟨b12, 0, none⟩) → ac1.eval (.tmp 13) = .int .i64 0 →  Hid (Hp [] wa wz [rB b12 99 [.int .i64 0, .int .i64 0, .int .i64 0, .int .i64 0, .int .i64 0, .int .i64 0, .int .i64 0, .int .i64 0, .int .i64 0, .int .i64 0, .int .i64 0, .int .i64 0, .int .i64 0, .int .i64 0, .int .i64 0, .int .i64 0, .int .i64 0, .int .u32 0, .slice none 0 0], rB b6 99 (rkL c (.slice la l.length lc)), rS la lc 4 (l.map entRow)]) → QR .normal ac1 wz) : (regAt Try.f56 0).wp Try.prog QR ac0 wb := by
  refine wp_region_sq (by kernel_rfl) 41 hz (by kernel_rfl) (fun (xx : Nat × Nat) jx => match xx with | (b6, b12) => nth [.pointer (some ⟨b6, 0, none⟩), .pointer (some ⟨b12, 0, none⟩), .int .i64 0] jx) (fun (LL : Nat → Bool) (xx : Nat × Nat) ww => match xx with | (b6, b12) => Hp [] wa ww (bif LL 1 then [rB b12 99 [.int .i64 0, .int .i64 0, .int .i64 0, .int .i64 0, .int .i64 0, .int .i64 0, .int .i64 0, .int .i64 0, .int .i64 0, .int .i64 0, .int .i64 0, .int .i64 0, .int .i64 0, .int .i64 0, .int .i64 0, .int .i64 0, .int .i64 0, .int .u32 0, .slice none 0 0], rB b6 99 (rkL c (.slice la l.length lc)), rS la lc 4 (l.map entRow)] else (bif LL 0 then [rB b6 99 (rkL c (.slice la l.length lc)), rS la lc 4 (l.map entRow)] else [rS la lc 4 (l.map entRow)]))) (default, default) H.out ?_ (steps_al ?_) ?_ ?_
  · intro L1 L2 xx ww hL sg
    have lh0 := hL 0 (by decide)
    have lh1 := hL 1 (by decide)
    simp only [lh0, lh1] at sg
    exact sg
  · refine al_cons ?_ (al_cons ?_ (al_cons ?_ (al_nil)))
    · intro LL xx ac wc sg hst hwant QQ hgo
      obtain ⟨_, b12⟩ := xx
      have H := Lib.hid hst
      simp only [sg.self, sg.des 1 rfl, cond_true, cond_false] at H
      refine hp_box rfl 99 _ rfl _ ((sg.free 0 (by kernel_rfl)).trans so0) _ (by rfl) H ?_
      intro wd b6 H2
      exact hgo _ (b6, b12) _ (sg.agree (x' := (b6, b12)) (n := 3) rfl (by (iterate 3 (refine ix_cons (by first | exact fun _ => rfl | exact no sg.self | exact no (sg.des _ rfl)) ?_)); exact ix_nil)) rfl (by simp only [(show upd LL 0 0 = true from rfl), (show upd LL 0 1 = LL 1 from rfl), sg.des 1 rfl, cond_true, cond_false]; exact H2.out)
    · intro LL xx ac wc sg hst hwant QQ hgo
      obtain ⟨b6, _⟩ := xx
      have H := Lib.hid hst
      simp only [sg.anc 0 rfl, sg.self, cond_true, cond_false] at H
      refine hpA_alloc tyhoistwayref10_Keys H rfl rfl ?_
      intro wd b12 H2
      exact hgo _ (b6, b12) _ (sg.agree (x' := (b6, b12)) (n := 3) rfl (by (iterate 3 (refine ix_cons (by first | exact fun _ => rfl | exact no sg.self | exact no (sg.des _ rfl)) ?_)); exact ix_nil)) rfl (by simp only [(show upd LL 1 0 = LL 0 from rfl), sg.anc 0 rfl, (show upd LL 1 1 = true from rfl), cond_true, cond_false]; exact H2.out)
    · intro LL xx ac wc sg hst hwant QQ hgo
      obtain ⟨b6, b12⟩ := xx
      exact op_val hwant hgo hst _ (exec_assign rfl rfl) rfl
  · exact skips [] (by kernel_rfl) (fun _ h => by cases h)
  · intro xx ac1 wz hfr hsl hst
    obtain ⟨b6, b12⟩ := xx
    exact hfin b6 b12 ac1 wz (hfr.size.trans hz) hfr.defers (fr_keep hfr [6, 12, 13] (by kernel_rfl)) (hsl 0 (by decide)) (hsl 1 (by decide)) (hsl 2 (by decide)) (Lib.hid hst)
set_option maxRecDepth 20000 in
theorem withRyes_r1 (c : Cfg) (la : Option Addr) (lc : Nat) (l : List EntR) (now : Int) (who : Int) (key : Int) (body : ByteArray) (hk0 : 0 ≤ key) (hk1 : key ≤ 18446744073709551615) (hl : l.length ≤ 1000000) (hok : Hid (∀ e ∈ l, 0 ≤ e.key ∧ e.key ≤ 18446744073709551615)) (q : ((lookR c l now who key body).2 != 1) = false) (hfl : (l.filter (keepR c now)).length ≤ 1000000) (b6 : Nat) (b12 : Nat) {wa wb : World} (H : Hid (Hp [] wa wb [rB b12 99 [.int .i64 0, .int .i64 0, .int .i64 0, .int .i64 0, .int .i64 0, .int .i64 0, .int .i64 0, .int .i64 0, .int .i64 0, .int .i64 0, .int .i64 0, .int .i64 0, .int .i64 0, .int .i64 0, .int .i64 0, .int .i64 0, .int .i64 0, .int .u32 0, .slice none 0 0], rB b6 99 (rkL c (.slice la l.length lc)), rS la lc 4 (l.map entRow)])) (ac0 : Act) (hz : ac0.tmps.size = 41) (so1 : ac0.eval (.tmp 1) = .int .i64 now) (so2 : ac0.eval (.tmp 2) = .int .i64 who) (so3 : ac0.eval (.tmp 3) = .int .u64 key) (so4 : ac0.eval (.tmp 4) = .string body) (so6 : ac0.eval (.tmp 6) = .pointer (some ⟨b6, 0, none⟩)) {QR : Exit → Act → World → Prop} (hfin : ∀ (ac1 : Act) (wz : World), ac1.tmps.size = 41 → ac1.defers = ac0.defers → (∀ t, ([14, 15, 16, 17, 18, 19, 20, 21, 22, 23, 24] : List Nat).contains t = false → ac1.eval (.tmp t) = ac0.eval (.tmp t)) → ac1.eval (.tmp 15) = .int .i64 ((lookR c l now who key body).2) →  Hid (Hp [] wa wz [rB b12 99 [.int .i64 0, .int .i64 0, .int .i64 0, .int .i64 0, .int .i64 0, .int .i64 0, .int .i64 0, .int .i64 0, .int .i64 0, .int .i64 0, .int .i64 0, .int .i64 0, .int .i64 0, .int .i64 0, .int .i64 0, .int .i64 0, .int .i64 0, .int .u32 0, .slice none 0 0], rB b6 99 (rkL c (.slice la l.length lc)), rS la lc 4 (l.map entRow)]) → QR .normal ac1 wz) : (regAt Try.f56 1).wp Try.prog QR ac0 wb := by
  refine wp_region_sq (by kernel_rfl) 41 hz (by kernel_rfl) (fun (xx : Unit) jx => nth [.agg (rkA c (.slice la l.length lc)), .int .i64 now, .int .i64 who, .int .u64 key, .string body, .tuple #[.string ((lookR c l now who key body).1), .int .i64 ((lookR c l now who key body).2)], .tuple #[.string ((lookR c l now who key body).1), .int .i64 ((lookR c l now who key body).2)], .string ((lookR c l now who key body).1), .int .i64 ((lookR c l now who key body).2), .string ((lookR c l now who key body).1), .int .i64 ((lookR c l now who key body).2)] jx) (fun (LL : Nat → Bool) (xx : Unit) ww => Hp [] wa ww [rB b12 99 [.int .i64 0, .int .i64 0, .int .i64 0, .int .i64 0, .int .i64 0, .int .i64 0, .int .i64 0, .int .i64 0, .int .i64 0, .int .i64 0, .int .i64 0, .int .i64 0, .int .i64 0, .int .i64 0, .int .i64 0, .int .i64 0, .int .i64 0, .int .u32 0, .slice none 0 0], rB b6 99 (rkL c (.slice la l.length lc)), rS la lc 4 (l.map entRow)]) () H.out ?_ (steps_al ?_) ?_ ?_
  · exact fun _ _ _ _ _ h => h
  · refine al_cons ?_ (al_cons ?_ (al_cons ?_ (al_cons ?_ (al_cons ?_ (al_cons ?_ (al_cons ?_ (al_cons ?_ (al_cons ?_ (al_cons ?_ (al_cons ?_ (al_nil)))))))))))
    · intro LL xx ac wc sg hst hwant QQ hgo
      have H := Lib.hid hst
      refine hpA_load tyhoistwayref10_Keys H rfl ((sg.free 6 (by kernel_rfl)).trans so6) hwant (by (repeat (first | exact List.Mem.head _ | apply List.Mem.tail))) (by rfl) rfl ?_
      exact hgo _ () _ (fun _ _ => rfl) rfl hst
    · intro LL xx ac wc sg hst hwant QQ hgo
      exact op_val hwant hgo hst _ (exec_move rfl ((sg.free 1 (by kernel_rfl)).trans so1)) rfl
    · intro LL xx ac wc sg hst hwant QQ hgo
      exact op_val hwant hgo hst _ (exec_move rfl ((sg.free 2 (by kernel_rfl)).trans so2)) rfl
    · intro LL xx ac wc sg hst hwant QQ hgo
      exact op_val hwant hgo hst _ (exec_move rfl ((sg.free 3 (by kernel_rfl)).trans so3)) rfl
    · intro LL xx ac wc sg hst hwant QQ hgo
      exact op_val hwant hgo hst _ (exec_move rfl ((sg.free 4 (by kernel_rfl)).trans so4)) rfl
    · intro LL xx ac wc sg hst hwant QQ hgo
      have se17 : ac.eval (.tmp 17) = _ := (sg.slot 0 (sg.anc 0 rfl))
      have sg17 := gt_of se17
      have se18 : ac.eval (.tmp 18) = _ := (sg.slot 1 (sg.anc 1 rfl))
      have sg18 := gt_of se18
      have se19 : ac.eval (.tmp 19) = _ := (sg.slot 2 (sg.anc 2 rfl))
      have sg19 := gt_of se19
      have se20 : ac.eval (.tmp 20) = _ := (sg.slot 3 (sg.anc 3 rfl))
      have sg20 := gt_of se20
      have se21 : ac.eval (.tmp 21) = _ := (sg.slot 4 (sg.anc 4 rfl))
      have sg21 := gt_of se21
      (try simp only [nth] at se17 sg17 se18 sg18 se19 sg19 se20 sg20 se21 sg21)
      have H := Lib.hid hst
      refine op_call hwant hgo 55 _ (by simp only [execOp]; go_simp) (lookRC c la lc l now who key body wc (hp_held H (by (repeat (first | exact List.Mem.head _ | apply List.Mem.tail)))) hk0 hk1 hl hok) ?_
      rintro er wd ⟨rfl, hof⟩
      exact ⟨_, (), rfl, fun _ _ => rfl, rfl, Hp.quiet hst hof⟩
    · intro LL xx ac wc sg hst hwant QQ hgo
      exact op_val hwant hgo hst _ (exec_move rfl (sg.slot 5 (sg.anc 5 rfl))) rfl
    · intro LL xx ac wc sg hst hwant QQ hgo
      have se16 : ac.eval (.tmp 16) = _ := (sg.slot 6 (sg.anc 6 rfl))
      have sg16 := gt_of se16
      (try simp only [nth] at se16 sg16)
      exact op_val hwant hgo hst _ (by simp only [execOp, nth]; go_simp <;> omega) rfl
    · intro LL xx ac wc sg hst hwant QQ hgo
      have se16 : ac.eval (.tmp 16) = _ := (sg.slot 6 (sg.anc 6 rfl))
      have sg16 := gt_of se16
      (try simp only [nth] at se16 sg16)
      exact op_val hwant hgo hst _ (by simp only [execOp, nth]; go_simp <;> omega) rfl
    · intro LL xx ac wc sg hst hwant QQ hgo
      exact op_val hwant hgo hst _ (exec_assign rfl (sg.slot 7 (sg.anc 7 rfl))) rfl
    · intro LL xx ac wc sg hst hwant QQ hgo
      exact op_val hwant hgo hst _ (exec_assign rfl (sg.slot 8 (sg.anc 8 rfl))) rfl
  · exact skips [] (by kernel_rfl) (fun _ h => by cases h)
  · intro xx ac1 wz hfr hsl hst
    exact hfin ac1 wz (hfr.size.trans hz) hfr.defers (fr_keep hfr [14, 15, 16, 17, 18, 19, 20, 21, 22, 23, 24] (by kernel_rfl)) (hsl 10 (by decide)) (Lib.hid hst)
set_option maxRecDepth 20000 in
theorem withRyes_r2 (c : Cfg) (la : Option Addr) (lc : Nat) (l : List EntR) (now : Int) (who : Int) (key : Int) (body : ByteArray) (hk0 : 0 ≤ key) (hk1 : key ≤ 18446744073709551615) (hl : l.length ≤ 1000000) (q : ((lookR c l now who key body).2 != 1) = false) (hfl : (l.filter (keepR c now)).length ≤ 1000000) (b6 : Nat) (b12 : Nat) {wa wb : World} (H : Hid (Hp [] wa wb [rB b12 99 [.int .i64 0, .int .i64 0, .int .i64 0, .int .i64 0, .int .i64 0, .int .i64 0, .int .i64 0, .int .i64 0, .int .i64 0, .int .i64 0, .int .i64 0, .int .i64 0, .int .i64 0, .int .i64 0, .int .i64 0, .int .i64 0, .int .i64 0, .int .u32 0, .slice none 0 0], rB b6 99 (rkL c (.slice la l.length lc)), rS la lc 4 (l.map entRow)])) (ac0 : Act) (hz : ac0.tmps.size = 41) (so15 : ac0.eval (.tmp 15) = .int .i64 ((lookR c l now who key body).2)) {QR : Exit → Act → World → Prop} (hfin : ∀ (ac1 : Act) (wz : World), ac1.tmps.size = 41 → ac1.defers = ac0.defers → (∀ t, ([25, 26] : List Nat).contains t = false → ac1.eval (.tmp t) = ac0.eval (.tmp t)) → ac1.eval (.tmp 26) = .bool false →  Hid (Hp [] wa wz [rB b12 99 [.int .i64 0, .int .i64 0, .int .i64 0, .int .i64 0, .int .i64 0, .int .i64 0, .int .i64 0, .int .i64 0, .int .i64 0, .int .i64 0, .int .i64 0, .int .i64 0, .int .i64 0, .int .i64 0, .int .i64 0, .int .i64 0, .int .i64 0, .int .u32 0, .slice none 0 0], rB b6 99 (rkL c (.slice la l.length lc)), rS la lc 4 (l.map entRow)]) → QR .normal ac1 wz) : (regAt Try.f56 2).wp Try.prog QR ac0 wb := by
  refine wp_region_sq (by kernel_rfl) 41 hz (by kernel_rfl) (fun (xx : Unit) jx => nth [.int .i64 ((lookR c l now who key body).2), .bool false] jx) (fun (LL : Nat → Bool) (xx : Unit) ww => Hp [] wa ww [rB b12 99 [.int .i64 0, .int .i64 0, .int .i64 0, .int .i64 0, .int .i64 0, .int .i64 0, .int .i64 0, .int .i64 0, .int .i64 0, .int .i64 0, .int .i64 0, .int .i64 0, .int .i64 0, .int .i64 0, .int .i64 0, .int .i64 0, .int .i64 0, .int .u32 0, .slice none 0 0], rB b6 99 (rkL c (.slice la l.length lc)), rS la lc 4 (l.map entRow)]) () H.out ?_ (steps_al ?_) ?_ ?_
  · exact fun _ _ _ _ _ h => h
  · refine al_cons ?_ (al_cons ?_ (al_nil))
    · intro LL xx ac wc sg hst hwant QQ hgo
      exact op_val hwant hgo hst _ (exec_move rfl ((sg.free 15 (by kernel_rfl)).trans so15)) rfl
    · intro LL xx ac wc sg hst hwant QQ hgo
      have se25 : ac.eval (.tmp 25) = _ := (sg.slot 0 (sg.anc 0 rfl))
      have sg25 := gt_of se25
      (try simp only [nth] at se25 sg25)
      exact op_val hwant hgo hst _ (by simp only [execOp, nth]; go_simp <;> omega) rfl
  · exact skips [] (by kernel_rfl) (fun _ h => by cases h)
  · intro xx ac1 wz hfr hsl hst
    exact hfin ac1 wz (hfr.size.trans hz) hfr.defers (fr_keep hfr [25, 26] (by kernel_rfl)) (hsl 1 (by decide)) (Lib.hid hst)
set_option maxRecDepth 20000 in
theorem withRyes_r4 (c : Cfg) (la : Option Addr) (lc : Nat) (l : List EntR) (now : Int) (who : Int) (key : Int) (body : ByteArray) (ans : ByteArray) (hk0 : 0 ≤ key) (hk1 : key ≤ 18446744073709551615) (hl : l.length ≤ 1000000) (hok : Hid (∀ e ∈ l, 0 ≤ e.key ∧ e.key ≤ 18446744073709551615)) (q : ((lookR c l now who key body).2 != 1) = false) (hfl : (l.filter (keepR c now)).length ≤ 1000000) (b6 : Nat) (b12 : Nat) {wa wb : World} (H : Hid (Hp [] wa wb [rB b12 99 [.int .i64 0, .int .i64 0, .int .i64 0, .int .i64 0, .int .i64 0, .int .i64 0, .int .i64 0, .int .i64 0, .int .i64 0, .int .i64 0, .int .i64 0, .int .i64 0, .int .i64 0, .int .i64 0, .int .i64 0, .int .i64 0, .int .i64 0, .int .u32 0, .slice none 0 0], rB b6 99 (rkL c (.slice la l.length lc)), rS la lc 4 (l.map entRow)])) (ac0 : Act) (hz : ac0.tmps.size = 41) (so1 : ac0.eval (.tmp 1) = .int .i64 now) (so2 : ac0.eval (.tmp 2) = .int .i64 who) (so3 : ac0.eval (.tmp 3) = .int .u64 key) (so4 : ac0.eval (.tmp 4) = .string body) (so5 : ac0.eval (.tmp 5) = .string ans) (so6 : ac0.eval (.tmp 6) = .pointer (some ⟨b6, 0, none⟩)) (so12 : ac0.eval (.tmp 12) = .pointer (some ⟨b12, 0, none⟩)) {QR : Exit → Act → World → Prop} (hfin : ∀ (a4_4 : Option Addr) (c4_4 : Nat) (b38 : Nat) (a39 : Option Addr) (c39 : Nat) (ac1 : Act) (wz : World), ac1.tmps.size = 41 → ac1.defers = ac0.defers → (∀ t, ([13, 28, 29, 30, 31, 32, 33, 34, 35, 36, 37, 38, 39, 40] : List Nat).contains t = false → ac1.eval (.tmp t) = ac0.eval (.tmp t)) → ac1.eval (.tmp 13) = .int .i64 0 →  Hid (Hp [] wa wz [rB b38 136 [.int .i64 who, .int .u64 key, .string body, .string ans], rA a39 c39 136 4 (((l.filter (keepR c now)) ++ [(⟨who, key, body, ans⟩ : EntR)]).map entRow), rB b12 99 (rkL c (.slice a39 (((l.filter (keepR c now)) ++ [(⟨who, key, body, ans⟩ : EntR)]).length) c39)), rB b6 99 (rkL c (.slice la l.length lc)), rS la lc 4 (l.map entRow)]) → QR .normal ac1 wz) : (regAt Try.f56 4).wp Try.prog QR ac0 wb := by
  refine wp_region_st mixedP ⟨[0, 1, 0, 0, 1, 0, 0, 0, 0, 1, 2, 3, 4, 5, 6], by kernel_rfl⟩ [[], [0], [], [], [2, 3], [], [], [], [], [5, 6, 7, 8], [5, 6, 7, 8, 9], [2, 3, 4, 5, 6, 7, 8, 9, 10], [0, 1, 2, 3, 4, 5, 6, 7, 8, 9, 10, 11], [0, 1, 2, 3, 4, 5, 6, 7, 8, 9, 10, 11, 12], [0, 1, 2, 3, 4, 5, 6, 7, 8, 9, 10, 11, 12, 13]] (by kernel_rfl) (by kernel_rfl) 41 hz (by kernel_rfl) (fun (xx : Option Addr × Nat × Nat × Option Addr × Nat) jx => match xx with | (a4_4, c4_4, b38, a39, c39) => nth [.pointer (some ⟨b6, 0, none⟩), .agg (cA c), .agg (rkA c (.slice la l.length lc)), .int .i64 now, .slice a4_4 ((l.filter (keepR c now)).length) c4_4, .int .i64 who, .int .u64 key, .string body, .string ans, .agg #[.int .i64 who, .int .u64 key, .string body, .string ans], .slice (some ⟨b38, 0, none⟩) 1 1, .slice a39 (((l.filter (keepR c now)) ++ [(⟨who, key, body, ans⟩ : EntR)]).length) c39, .agg (rkA c (.slice a39 (((l.filter (keepR c now)) ++ [(⟨who, key, body, ans⟩ : EntR)]).length) c39)), undef, .int .i64 0] jx) (fun (LL : Nat → Bool) (xx : Option Addr × Nat × Nat × Option Addr × Nat) ww => match xx with | (a4_4, c4_4, b38, a39, c39) => Hp [] wa ww (bif LL 4 then (bif LL 10 then (bif LL 11 then (bif LL 13 then [rB b38 136 [.int .i64 who, .int .u64 key, .string body, .string ans], rA a39 c39 136 4 (((l.filter (keepR c now)) ++ [(⟨who, key, body, ans⟩ : EntR)]).map entRow), rB b12 99 (rkL c (.slice a39 (((l.filter (keepR c now)) ++ [(⟨who, key, body, ans⟩ : EntR)]).length) c39)), rB b6 99 (rkL c (.slice la l.length lc)), rS la lc 4 (l.map entRow)] else [rB b38 136 [.int .i64 who, .int .u64 key, .string body, .string ans], rA a39 c39 136 4 (((l.filter (keepR c now)) ++ [(⟨who, key, body, ans⟩ : EntR)]).map entRow), rB b12 99 [.int .i64 0, .int .i64 0, .int .i64 0, .int .i64 0, .int .i64 0, .int .i64 0, .int .i64 0, .int .i64 0, .int .i64 0, .int .i64 0, .int .i64 0, .int .i64 0, .int .i64 0, .int .i64 0, .int .i64 0, .int .i64 0, .int .i64 0, .int .u32 0, .slice none 0 0], rB b6 99 (rkL c (.slice la l.length lc)), rS la lc 4 (l.map entRow)]) else [rB b38 136 [.int .i64 who, .int .u64 key, .string body, .string ans], rA a4_4 c4_4 136 4 ((l.filter (keepR c now)).map entRow), rB b12 99 [.int .i64 0, .int .i64 0, .int .i64 0, .int .i64 0, .int .i64 0, .int .i64 0, .int .i64 0, .int .i64 0, .int .i64 0, .int .i64 0, .int .i64 0, .int .i64 0, .int .i64 0, .int .i64 0, .int .i64 0, .int .i64 0, .int .i64 0, .int .u32 0, .slice none 0 0], rB b6 99 (rkL c (.slice la l.length lc)), rS la lc 4 (l.map entRow)]) else [rA a4_4 c4_4 136 4 ((l.filter (keepR c now)).map entRow), rB b12 99 [.int .i64 0, .int .i64 0, .int .i64 0, .int .i64 0, .int .i64 0, .int .i64 0, .int .i64 0, .int .i64 0, .int .i64 0, .int .i64 0, .int .i64 0, .int .i64 0, .int .i64 0, .int .i64 0, .int .i64 0, .int .i64 0, .int .i64 0, .int .u32 0, .slice none 0 0], rB b6 99 (rkL c (.slice la l.length lc)), rS la lc 4 (l.map entRow)]) else (bif LL 10 then [rB b38 136 [.int .i64 who, .int .u64 key, .string body, .string ans], rB b12 99 [.int .i64 0, .int .i64 0, .int .i64 0, .int .i64 0, .int .i64 0, .int .i64 0, .int .i64 0, .int .i64 0, .int .i64 0, .int .i64 0, .int .i64 0, .int .i64 0, .int .i64 0, .int .i64 0, .int .i64 0, .int .i64 0, .int .i64 0, .int .u32 0, .slice none 0 0], rB b6 99 (rkL c (.slice la l.length lc)), rS la lc 4 (l.map entRow)] else [rB b12 99 [.int .i64 0, .int .i64 0, .int .i64 0, .int .i64 0, .int .i64 0, .int .i64 0, .int .i64 0, .int .i64 0, .int .i64 0, .int .i64 0, .int .i64 0, .int .i64 0, .int .i64 0, .int .i64 0, .int .i64 0, .int .i64 0, .int .i64 0, .int .u32 0, .slice none 0 0], rB b6 99 (rkL c (.slice la l.length lc)), rS la lc 4 (l.map entRow)]))) (default, default, default, default, default) H.out.drew ?_ (steps_al ?_) ?_ ?_
  · intro L1 L2 xx ww hL sg
    have lh4 := hL 4 (by decide)
    have lh10 := hL 10 (by decide)
    have lh11 := hL 11 (by decide)
    have lh13 := hL 13 (by decide)
    simp only [lh4, lh10, lh11, lh13] at sg
    exact sg
  · refine al_cons ?_ (al_cons ?_ (al_cons ?_ (al_cons ?_ (al_cons ?_ (al_cons ?_ (al_cons ?_ (al_cons ?_ (al_cons ?_ (al_cons ?_ (al_cons ?_ (al_cons ?_ (al_cons ?_ (al_cons ?_ (al_cons ?_ (al_nil)))))))))))))))
    · intro LL xx ac wc sg hst hwant QQ hgo
      obtain ⟨a4_4, c4_4, b38, a39, c39⟩ := xx
      have se6 : ac.eval (.tmp 6) = _ := ((sg.free 6 (by kernel_rfl)).trans so6)
      have sg6 := gt_of se6
      exact op_val hwant hgo hst _ (by simp only [execOp, nth]; go_simp <;> omega) rfl
    · intro LL xx ac wc sg hst hwant QQ hgo
      obtain ⟨a4_4, c4_4, b38, a39, c39⟩ := xx
      rcases Bool.eq_false_or_eq_true (LL 4) with lh4 | lh4
      · skip
        rcases Bool.eq_false_or_eq_true (LL 10) with lh10 | lh10
        · skip
          rcases Bool.eq_false_or_eq_true (LL 11) with lh11 | lh11
          · skip
            have H := Lib.hid hst
            simp only [lh4, lh10, lh11, sg.des 13 rfl, cond_true, cond_false] at H
            refine hpA_load tyapi_Config H rfl (sg.slot 0 (sg.anc 0 rfl)) hwant (by (repeat (first | exact List.Mem.head _ | apply List.Mem.tail))) (by rfl) rfl ?_
            exact hgo _ (a4_4, c4_4, b38, a39, c39) _ (fun _ _ => rfl) rfl hst
          · skip
            have H := Lib.hid hst
            simp only [lh4, lh10, lh11, sg.des 13 rfl, cond_true, cond_false] at H
            refine hpA_load tyapi_Config H rfl (sg.slot 0 (sg.anc 0 rfl)) hwant (by (repeat (first | exact List.Mem.head _ | apply List.Mem.tail))) (by rfl) rfl ?_
            exact hgo _ (a4_4, c4_4, b38, a39, c39) _ (fun _ _ => rfl) rfl hst
        · skip
          rcases Bool.eq_false_or_eq_true (LL 11) with lh11 | lh11
          · skip
            exact absurd (sg.down 11 10 lh11 rfl) (by rw [lh10]; decide)
          · skip
            have H := Lib.hid hst
            simp only [lh4, lh10, lh11, sg.des 13 rfl, cond_true, cond_false] at H
            refine hpA_load tyapi_Config H rfl (sg.slot 0 (sg.anc 0 rfl)) hwant (by (repeat (first | exact List.Mem.head _ | apply List.Mem.tail))) (by rfl) rfl ?_
            exact hgo _ (a4_4, c4_4, b38, a39, c39) _ (fun _ _ => rfl) rfl hst
      · skip
        rcases Bool.eq_false_or_eq_true (LL 10) with lh10 | lh10
        · skip
          rcases Bool.eq_false_or_eq_true (LL 11) with lh11 | lh11
          · skip
            exact absurd (sg.down 11 4 lh11 rfl) (by rw [lh4]; decide)
          · skip
            have H := Lib.hid hst
            simp only [lh4, lh10, lh11, sg.des 13 rfl, cond_true, cond_false] at H
            refine hpA_load tyapi_Config H rfl (sg.slot 0 (sg.anc 0 rfl)) hwant (by (repeat (first | exact List.Mem.head _ | apply List.Mem.tail))) (by rfl) rfl ?_
            exact hgo _ (a4_4, c4_4, b38, a39, c39) _ (fun _ _ => rfl) rfl hst
        · skip
          rcases Bool.eq_false_or_eq_true (LL 11) with lh11 | lh11
          · skip
            exact absurd (sg.down 11 10 lh11 rfl) (by rw [lh10]; decide)
          · skip
            have H := Lib.hid hst
            simp only [lh4, lh10, lh11, sg.des 13 rfl, cond_true, cond_false] at H
            refine hpA_load tyapi_Config H rfl (sg.slot 0 (sg.anc 0 rfl)) hwant (by (repeat (first | exact List.Mem.head _ | apply List.Mem.tail))) (by rfl) rfl ?_
            exact hgo _ (a4_4, c4_4, b38, a39, c39) _ (fun _ _ => rfl) rfl hst
    · intro LL xx ac wc sg hst hwant QQ hgo
      obtain ⟨a4_4, c4_4, b38, a39, c39⟩ := xx
      rcases Bool.eq_false_or_eq_true (LL 10) with lh10 | lh10
      · skip
        have H := Lib.hid hst
        simp only [sg.des 4 rfl, lh10, sg.des 11 rfl, sg.des 13 rfl, cond_true, cond_false] at H
        refine hpA_load tyhoistwayref10_Keys H rfl ((sg.free 6 (by kernel_rfl)).trans so6) hwant (by (repeat (first | exact List.Mem.head _ | apply List.Mem.tail))) (by rfl) rfl ?_
        exact hgo _ (a4_4, c4_4, b38, a39, c39) _ (fun _ _ => rfl) rfl hst
      · skip
        have H := Lib.hid hst
        simp only [sg.des 4 rfl, lh10, sg.des 11 rfl, sg.des 13 rfl, cond_true, cond_false] at H
        refine hpA_load tyhoistwayref10_Keys H rfl ((sg.free 6 (by kernel_rfl)).trans so6) hwant (by (repeat (first | exact List.Mem.head _ | apply List.Mem.tail))) (by rfl) rfl ?_
        exact hgo _ (a4_4, c4_4, b38, a39, c39) _ (fun _ _ => rfl) rfl hst
    · intro LL xx ac wc sg hst hwant QQ hgo
      obtain ⟨a4_4, c4_4, b38, a39, c39⟩ := xx
      exact op_val hwant hgo hst _ (exec_move rfl ((sg.free 1 (by kernel_rfl)).trans so1)) rfl
    · intro LL xx ac wc sg hst hwant QQ hgo
      obtain ⟨_, _, b38, a39, c39⟩ := xx
      have se30 : ac.eval (.tmp 30) = _ := (sg.slot 2 (sg.anc 2 rfl))
      have sg30 := gt_of se30
      have se31 : ac.eval (.tmp 31) = _ := (sg.slot 3 (sg.anc 3 rfl))
      have sg31 := gt_of se31
      (try simp only [nth] at se30 sg30 se31 sg31)
      rcases Bool.eq_false_or_eq_true (LL 10) with lh10 | lh10
      · skip
        have H := Lib.hid hst
        simp only [sg.self, lh10, sg.des 11 rfl, sg.des 13 rfl, cond_true, cond_false] at H
        refine op_call hwant hgo 58 _ (by simp only [execOp]; go_simp) (countsR c la lc l now wc (hp_held H (by (repeat (first | exact List.Mem.head _ | apply List.Mem.tail)))) hl hok) ?_
        rintro er wd ⟨a4_4, c4_4, rfl, hA, hfA, hof⟩
        have H2 := hp_gotA H hof hA hfA
        replace H2 := hp_front H2 4 rfl
        replace H2 := hp_front H2 4 rfl
        replace H2 := hp_front H2 4 rfl
        replace H2 := hp_front H2 3 rfl
        replace H2 := hp_front H2 4 rfl
        exact ⟨_, (a4_4, c4_4, b38, a39, c39), rfl, (sg.agree (x' := (a4_4, c4_4, b38, a39, c39)) (n := 15) rfl (by (iterate 15 (refine ix_cons (by first | exact fun _ => rfl | exact no sg.self | exact no (sg.des _ rfl)) ?_)); exact ix_nil)), rfl, (by simp only [(show upd LL 4 4 = true from rfl), (show upd LL 4 10 = LL 10 from rfl), lh10, (show upd LL 4 11 = LL 11 from rfl), sg.des 11 rfl, (show upd LL 4 13 = LL 13 from rfl), sg.des 13 rfl, cond_true, cond_false]; exact H2.out)⟩
      · skip
        have H := Lib.hid hst
        simp only [sg.self, lh10, sg.des 11 rfl, sg.des 13 rfl, cond_true, cond_false] at H
        refine op_call hwant hgo 58 _ (by simp only [execOp]; go_simp) (countsR c la lc l now wc (hp_held H (by (repeat (first | exact List.Mem.head _ | apply List.Mem.tail)))) hl hok) ?_
        rintro er wd ⟨a4_4, c4_4, rfl, hA, hfA, hof⟩
        have H2 := hp_gotA H hof hA hfA
        exact ⟨_, (a4_4, c4_4, b38, a39, c39), rfl, (sg.agree (x' := (a4_4, c4_4, b38, a39, c39)) (n := 15) rfl (by (iterate 15 (refine ix_cons (by first | exact fun _ => rfl | exact no sg.self | exact no (sg.des _ rfl)) ?_)); exact ix_nil)), rfl, (by simp only [(show upd LL 4 4 = true from rfl), (show upd LL 4 10 = LL 10 from rfl), lh10, (show upd LL 4 11 = LL 11 from rfl), sg.des 11 rfl, (show upd LL 4 13 = LL 13 from rfl), sg.des 13 rfl, cond_true, cond_false]; exact H2.out)⟩
    · intro LL xx ac wc sg hst hwant QQ hgo
      obtain ⟨a4_4, c4_4, b38, a39, c39⟩ := xx
      exact op_val hwant hgo hst _ (exec_move rfl ((sg.free 2 (by kernel_rfl)).trans so2)) rfl
    · intro LL xx ac wc sg hst hwant QQ hgo
      obtain ⟨a4_4, c4_4, b38, a39, c39⟩ := xx
      exact op_val hwant hgo hst _ (exec_move rfl ((sg.free 3 (by kernel_rfl)).trans so3)) rfl
    · intro LL xx ac wc sg hst hwant QQ hgo
      obtain ⟨a4_4, c4_4, b38, a39, c39⟩ := xx
      exact op_val hwant hgo hst _ (exec_move rfl ((sg.free 4 (by kernel_rfl)).trans so4)) rfl
    · intro LL xx ac wc sg hst hwant QQ hgo
      obtain ⟨a4_4, c4_4, b38, a39, c39⟩ := xx
      exact op_val hwant hgo hst _ (exec_move rfl ((sg.free 5 (by kernel_rfl)).trans so5)) rfl
    · intro LL xx ac wc sg hst hwant QQ hgo
      obtain ⟨a4_4, c4_4, b38, a39, c39⟩ := xx
      have se33 : ac.eval (.tmp 33) = _ := (sg.slot 5 (sg.anc 5 rfl))
      have sg33 := gt_of se33
      have se34 : ac.eval (.tmp 34) = _ := (sg.slot 6 (sg.anc 6 rfl))
      have sg34 := gt_of se34
      have se35 : ac.eval (.tmp 35) = _ := (sg.slot 7 (sg.anc 7 rfl))
      have sg35 := gt_of se35
      have se36 : ac.eval (.tmp 36) = _ := (sg.slot 8 (sg.anc 8 rfl))
      have sg36 := gt_of se36
      (try simp only [nth] at se33 sg33 se34 sg34 se35 sg35 se36 sg36)
      (try simp only [kA, kL, rkA, rkL, cA, cL] at se33 sg33 se34 sg34 se35 sg35 se36 sg36)
      exact op_val hwant hgo hst _ (by simp only [execOp, nth, kA, kL, rkA, rkL, cA, cL]; go_simp <;> omega) rfl
    · intro LL xx ac wc sg hst hwant QQ hgo
      obtain ⟨a4_4, c4_4, _, a39, c39⟩ := xx
      have se37 : ac.eval (.tmp 37) = _ := (sg.slot 9 (sg.anc 9 rfl))
      have sg37 := gt_of se37
      (try simp only [nth] at se37 sg37)
      rcases Bool.eq_false_or_eq_true (LL 4) with lh4 | lh4
      · skip
        have H := Lib.hid hst
        simp only [lh4, sg.self, sg.des 11 rfl, sg.des 13 rfl, cond_true, cond_false] at H
        refine hpA_bslice Try.underlying97 tyhoistwayref10_Entry H rfl rfl (by decide) (by decide) (by first | (go_simp; rfl) | rfl | (simp; rfl)) ?_
        intro wd b38 H2
        exact hgo _ (a4_4, c4_4, b38, a39, c39) _ (sg.agree (x' := (a4_4, c4_4, b38, a39, c39)) (n := 15) rfl (by (iterate 15 (refine ix_cons (by first | exact fun _ => rfl | exact no sg.self | exact no (sg.des _ rfl)) ?_)); exact ix_nil)) rfl (by simp only [(show upd LL 10 4 = LL 4 from rfl), lh4, (show upd LL 10 10 = true from rfl), (show upd LL 10 11 = LL 11 from rfl), sg.des 11 rfl, (show upd LL 10 13 = LL 13 from rfl), sg.des 13 rfl, cond_true, cond_false]; exact H2.out)
      · skip
        have H := Lib.hid hst
        simp only [lh4, sg.self, sg.des 11 rfl, sg.des 13 rfl, cond_true, cond_false] at H
        refine hpA_bslice Try.underlying97 tyhoistwayref10_Entry H rfl rfl (by decide) (by decide) (by first | (go_simp; rfl) | rfl | (simp; rfl)) ?_
        intro wd b38 H2
        exact hgo _ (a4_4, c4_4, b38, a39, c39) _ (sg.agree (x' := (a4_4, c4_4, b38, a39, c39)) (n := 15) rfl (by (iterate 15 (refine ix_cons (by first | exact fun _ => rfl | exact no sg.self | exact no (sg.des _ rfl)) ?_)); exact ix_nil)) rfl (by simp only [(show upd LL 10 4 = LL 4 from rfl), lh4, (show upd LL 10 10 = true from rfl), (show upd LL 10 11 = LL 11 from rfl), sg.des 11 rfl, (show upd LL 10 13 = LL 13 from rfl), sg.des 13 rfl, cond_true, cond_false]; exact H2.out)
    · intro LL xx ac wc sg hst hwant QQ hgo
      obtain ⟨a4_4, c4_4, b38, _, _⟩ := xx
      have H := Lib.hid hst
      simp only [sg.anc 4 rfl, sg.anc 10 rfl, sg.self, sg.des 13 rfl, cond_true, cond_false] at H
      refine hp_append (news := [entRow (⟨who, key, body, ans⟩ : EntR)]) elEnt H rfl rfl 1 rfl (sg.slot 4 (sg.anc 4 rfl)) (by simp) (sg.slot 10 (sg.anc 10 rfl)) rfl (hp_single (e := 136) H (by (repeat (first | exact List.Mem.head _ | apply List.Mem.tail))) rfl (by simp [entRow, Value.oneCell'])) (by simp; omega) (by decide) ?_
      intro wd a39 c39 H2
      rw [show (l.filter (keepR c now)).map entRow ++ [entRow (⟨who, key, body, ans⟩ : EntR)] = ((l.filter (keepR c now)) ++ [(⟨who, key, body, ans⟩ : EntR)]).map entRow by simp] at H2 ⊢
      rw [List.length_map]
      exact hgo _ (a4_4, c4_4, b38, a39, c39) _ (sg.agree (x' := (a4_4, c4_4, b38, a39, c39)) (n := 15) rfl (by (iterate 15 (refine ix_cons (by first | exact fun _ => rfl | exact no sg.self | exact no (sg.des _ rfl)) ?_)); exact ix_nil)) rfl (by simp only [(show upd LL 11 4 = LL 4 from rfl), sg.anc 4 rfl, (show upd LL 11 10 = LL 10 from rfl), sg.anc 10 rfl, (show upd LL 11 11 = true from rfl), (show upd LL 11 13 = LL 13 from rfl), sg.des 13 rfl, cond_true, cond_false]; exact H2.out)
    · intro LL xx ac wc sg hst hwant QQ hgo
      obtain ⟨a4_4, c4_4, b38, a39, c39⟩ := xx
      have se29 : ac.eval (.tmp 29) = _ := (sg.slot 1 (sg.anc 1 rfl))
      have sg29 := gt_of se29
      have se39 : ac.eval (.tmp 39) = _ := (sg.slot 11 (sg.anc 11 rfl))
      have sg39 := gt_of se39
      (try simp only [nth] at se29 sg29 se39 sg39)
      (try simp only [kA, kL, rkA, rkL, cA, cL] at se29 sg29 se39 sg39)
      exact op_val hwant hgo hst _ (by simp only [execOp, nth, kA, kL, rkA, rkL, cA, cL]; go_simp <;> omega) rfl
    · intro LL xx ac wc sg hst hwant QQ hgo
      obtain ⟨a4_4, c4_4, b38, a39, c39⟩ := xx
      have H := Lib.hid hst
      simp only [sg.anc 4 rfl, sg.anc 10 rfl, sg.anc 11 rfl, sg.self, cond_true, cond_false] at H
      refine hpA_store tyhoistwayref10_Keys H rfl rfl ((sg.free 12 (by kernel_rfl)).trans so12) (sg.slot 12 (sg.anc 12 rfl)) rfl (by repeat (first | apply Put.head | apply Put.tail)) (by simp [kA, kL, rkA, rkL, cA, cL]) (by simp [kA, kL, rkA, rkL, cA, cL, Value.oneCell']) (by first | rfl | (simp only [spl]; rfl)) rfl ?_
      intro wd H2
      exact hgo _ (a4_4, c4_4, b38, a39, c39) _ (sg.agree (x' := (a4_4, c4_4, b38, a39, c39)) (n := 15) rfl (by (iterate 15 (refine ix_cons (by first | exact fun _ => rfl | exact no sg.self | exact no (sg.des _ rfl)) ?_)); exact ix_nil)) rfl (by simp only [(show upd LL 13 4 = LL 4 from rfl), sg.anc 4 rfl, (show upd LL 13 10 = LL 10 from rfl), sg.anc 10 rfl, (show upd LL 13 11 = LL 11 from rfl), sg.anc 11 rfl, (show upd LL 13 13 = true from rfl), cond_true, cond_false]; exact H2.out)
    · intro LL xx ac wc sg hst hwant QQ hgo
      obtain ⟨a4_4, c4_4, b38, a39, c39⟩ := xx
      exact op_val hwant hgo hst _ (exec_assign rfl rfl) rfl
  · exact skips [] (by kernel_rfl) (fun _ h => by cases h)
  · intro xx ac1 wz hfr hsl hst
    obtain ⟨a4_4, c4_4, b38, a39, c39⟩ := xx
    exact hfin a4_4 c4_4 b38 a39 c39 ac1 wz (hfr.size.trans hz) hfr.defers (fr_keep hfr [13, 28, 29, 30, 31, 32, 33, 34, 35, 36, 37, 38, 39, 40] (by kernel_rfl)) (hsl 14 (by decide)) (Lib.hid hst)
set_option maxRecDepth 20000 in
theorem withRyes (c : Cfg) (la : Option Addr) (lc : Nat) (l : List EntR) (now : Int) (who : Int) (key : Int) (body : ByteArray) (ans : ByteArray) (w : World) (h : (rS la lc 4 (l.map entRow)).holds w) (hk0 : 0 ≤ key) (hk1 : key ≤ 18446744073709551615) (hl : l.length ≤ 1000000) (hok : Hid (∀ e ∈ l, 0 ≤ e.key ∧ e.key ≤ 18446744073709551615)) (q : ((lookR c l now who key body).2 != 1) = false) : Calls Try.prog 56 #[.agg (rkA c (.slice la l.length lc)), .int .i64 now, .int .i64 who, .int .u64 key, .string body, .string ans] w fun e w' => ∃ a' c', e = .returned (.tuple #[.agg (rkA c (.slice a' (l.filter (keepR c now) ++ [(⟨who, key, body, ans⟩ : EntR)]).length c')), .int .i64 0]) ∧ (rS a' c' 4 ((l.filter (keepR c now) ++ [(⟨who, key, body, ans⟩ : EntR)]).map entRow)).holds w' ∧ From w [] (rS a' c' 4 ((l.filter (keepR c now) ++ [(⟨who, key, body, ans⟩ : EntR)]).map entRow)).foot ∧ Off [] w w' := by
  have H := Lib.hid (Hp.start [] w)
  have H := hp_old H h (by decide)
  clear h
  refine calls_start Try.func56 rfl 41 rfl (by simp) (fun aa nn dd sl => ?_)
  have ss0 : aa.eval (.tmp 0) = .agg (rkA c (.slice la l.length lc)) := sl 0 (by simp)
  have ss1 : aa.eval (.tmp 1) = .int .i64 now := sl 1 (by simp)
  have ss2 : aa.eval (.tmp 2) = .int .i64 who := sl 2 (by simp)
  have ss3 : aa.eval (.tmp 3) = .int .u64 key := sl 3 (by simp)
  have ss4 : aa.eval (.tmp 4) = .string body := sl 4 (by simp)
  have ss5 : aa.eval (.tmp 5) = .string ans := sl 5 (by simp)
  clear sl
  have hfl : (l.filter (keepR c now)).length ≤ 1000000 := Nat.le_trans (List.length_filter_le _ _) hl
  refine wp_seq_k fun KK1 hK1 => ?_
  refine withRyes_r0 c la lc l now who key body hk0 hk1 hl q hfl H aa nn ss0 ?_
  clear H nn
  intro b6 b12 aa ww nn dd1 kp ss6 ss12 ss13 H
  replace ss0 := (kp 0 rfl).trans ss0
  replace ss1 := (kp 1 rfl).trans ss1
  replace ss2 := (kp 2 rfl).trans ss2
  replace ss3 := (kp 3 rfl).trans ss3
  replace ss4 := (kp 4 rfl).trans ss4
  replace ss5 := (kp 5 rfl).trans ss5
  replace dd := dd1.trans dd
  clear dd1 kp
  refine then_normal ?_
  refine hK1 _ _ ?_
  refine wp_seq_k fun KK2 hK2 => ?_
  refine withRyes_r1 c la lc l now who key body hk0 hk1 hl hok q hfl b6 b12 H aa nn ss1 ss2 ss3 ss4 ss6 ?_
  clear H nn
  intro aa ww nn dd1 kp ss15 H
  replace ss0 := (kp 0 rfl).trans ss0
  replace ss1 := (kp 1 rfl).trans ss1
  replace ss2 := (kp 2 rfl).trans ss2
  replace ss3 := (kp 3 rfl).trans ss3
  replace ss4 := (kp 4 rfl).trans ss4
  replace ss5 := (kp 5 rfl).trans ss5
  replace ss6 := (kp 6 rfl).trans ss6
  replace ss12 := (kp 12 rfl).trans ss12
  replace ss13 := (kp 13 rfl).trans ss13
  replace dd := dd1.trans dd
  clear dd1 kp
  refine then_normal ?_
  refine hK2 _ _ ?_
  refine wp_seq_k fun KK3 hK3 => ?_
  refine wp_seq_k fun KK4 hK4 => ?_
  refine withRyes_r2 c la lc l now who key body hk0 hk1 hl q hfl b6 b12 H aa nn ss15 ?_
  clear H nn
  intro aa ww nn dd1 kp ss26 H
  replace ss0 := (kp 0 rfl).trans ss0
  replace ss1 := (kp 1 rfl).trans ss1
  replace ss2 := (kp 2 rfl).trans ss2
  replace ss3 := (kp 3 rfl).trans ss3
  replace ss4 := (kp 4 rfl).trans ss4
  replace ss5 := (kp 5 rfl).trans ss5
  replace ss6 := (kp 6 rfl).trans ss6
  replace ss12 := (kp 12 rfl).trans ss12
  replace ss13 := (kp 13 rfl).trans ss13
  replace ss15 := (kp 15 rfl).trans ss15
  replace dd := dd1.trans dd
  clear dd1 kp
  refine then_normal ?_
  refine hK4 _ _ ?_
  refine wp_cond_false ss26 ?_
  refine wp_skip ?_
  refine then_normal ?_
  refine hK3 _ _ ?_
  refine wp_seq_k fun KK5 hK5 => ?_
  refine withRyes_r4 c la lc l now who key body ans hk0 hk1 hl hok q hfl b6 b12 H aa nn ss1 ss2 ss3 ss4 ss5 ss6 ss12 ?_
  clear H nn ss13
  intro a4_4 c4_4 b38 a39 c39 aa ww nn dd1 kp ss13 H
  replace ss0 := (kp 0 rfl).trans ss0
  replace ss1 := (kp 1 rfl).trans ss1
  replace ss2 := (kp 2 rfl).trans ss2
  replace ss3 := (kp 3 rfl).trans ss3
  replace ss4 := (kp 4 rfl).trans ss4
  replace ss5 := (kp 5 rfl).trans ss5
  replace ss6 := (kp 6 rfl).trans ss6
  replace ss12 := (kp 12 rfl).trans ss12
  replace ss15 := (kp 15 rfl).trans ss15
  replace ss26 := (kp 26 rfl).trans ss26
  replace dd := dd1.trans dd
  clear dd1 kp
  refine then_normal ?_
  refine hK5 _ _ ?_
  refine wp_ret ?_
  exact hp_ret_ct tyhoistwayref10_Keys H rfl dd ss12 ss13 (by (repeat (first | exact List.Mem.head _ | apply List.Mem.tail))) rfl (by have hh := hp_from (e := 136) H (show rA a39 c39 136 4 ((l.filter (keepR c now) ++ [(⟨who, key, body, ans⟩ : EntR)]).map entRow) ∈ _ by (repeat (first | exact List.Mem.head _ | apply List.Mem.tail))) []; exact ⟨_, _, rfl, hh.1, hh.2, H.out.off⟩)
end Go.Proofs.Ytfhhfmkfkoemjaa.Se6
