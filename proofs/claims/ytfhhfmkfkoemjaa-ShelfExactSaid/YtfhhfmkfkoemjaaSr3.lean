/- Layer 6: alike. -/
import Derived.Test.YtfhhfmkfkoemjaaProg
import Derived.Below
import Derived.WalkKit
import Derived.KernelRfl
import Derived.RowKit3
import Derived.Deep.LoopGhost
import Derived.Deep.QuietTactic
import Derived.BigQuiet
import Derived.WideLaws
import Derived.Deep.DeepCutAuto
import Derived.Deep.CutBlock
import Derived.Lib.Hide
import Derived.Laws.BitsLemmas
import Derived.Laws.Bits64
import Derived.Laws.BitsAllLaws
import Derived.IntWalk
import Derived.Outline
import Derived.WalkSpells
import Derived.Test.YtfhhfmkfkoemjaaMem
import Derived.Test.YtfhhfmkfkoemjaaSr2
namespace Go.Proofs.Ytfhhfmkfkoemjaa.Si6
open Go.RowKit Go.Proofs.Ytfhhfmkfkoemjaa.Mem Go.Proofs.Ytfhhfmkfkoemjaa.Reg
set_option linter.unusedVariables false
set_option linter.unusedSimpArgs false

set_option maxRecDepth 20000 in
theorem alikeC_r0 (room : Int) (a : Option Addr) (c : Nat) (la : Option Addr) (lc : Nat) (l : List PairV) (hl : l.length ≤ 1000000) {wa wb : World} (H : Hid (Hp [] wa wb [rS la lc 2 (l.map rowOf), rS a c 2 (l.map rowOf)])) (ac0 : Act) (hz : ac0.tmps.size = 73) (so0 : ac0.eval (.tmp 0) = .agg #[.int .i64 room, .slice a l.length c]) {QR : Exit → Act → World → Prop} (hfin : ∀ (b2 : Nat) (ac1 : Act) (wz : World), ac1.tmps.size = 73 → ac1.defers = ac0.defers → (∀ t, ([2, 4] : List Nat).contains t = false → ac1.eval (.tmp t) = ac0.eval (.tmp t)) → ac1.eval (.tmp 2) = .pointer (some ⟨b2, 0, none⟩) → ac1.eval (.tmp 4) = .bool false →  Hid (Hp [] wa wz [rB b2 43 [.int .i64 room, .slice a l.length c], rS la lc 2 (l.map rowOf), rS a c 2 (l.map rowOf)]) → QR .normal ac1 wz) : (regAt Try.f42 0).wp Try.prog QR ac0 wb := by
  refine wp_region_sq (by kernel_rfl) 73 hz (by kernel_rfl) (fun (xx : Nat) jx => match xx with | b2 => nth [.pointer (some ⟨b2, 0, none⟩), .bool false] jx) (fun (LL : Nat → Bool) (xx : Nat) ww => match xx with | b2 => Hp [] wa ww (bif LL 0 then [rB b2 43 [.int .i64 room, .slice a l.length c], rS la lc 2 (l.map rowOf), rS a c 2 (l.map rowOf)] else [rS la lc 2 (l.map rowOf), rS a c 2 (l.map rowOf)])) default H.out ?_ (steps_al ?_) ?_ ?_
  · intro L1 L2 xx ww hL sg
    have lh0 := hL 0 (by decide)
    simp only [lh0] at sg
    exact sg
  · refine al_cons ?_ (al_cons ?_ (al_nil))
    · intro LL xx ac wc sg hst hwant QQ hgo
      revert sg hst hgo; revert xx; intro xold sg hst hgo
      have H := Lib.hid hst
      simp only [sg.self, cond_true, cond_false] at H
      refine hp_box rfl 43 _ rfl _ ((sg.free 0 (by kernel_rfl)).trans so0) _ (by rfl) H ?_
      intro wd b2 H2
      exact hgo _ b2 _ (sg.agree (x' := b2) (n := 2) rfl (by (iterate 2 (refine ix_cons (by first | exact fun _ => rfl | exact no sg.self | exact no (sg.des _ rfl)) ?_)); exact ix_nil)) rfl (by simp only [(show upd LL 0 0 = true from rfl), cond_true, cond_false]; exact H2.out)
    · intro LL xx ac wc sg hst hwant QQ hgo
      revert sg hst hgo; revert xx; intro b2 sg hst hgo
      exact op_val hwant hgo hst _ (exec_assign rfl rfl) rfl
  · exact skips [] (by kernel_rfl) (fun _ h => by cases h)
  · intro xx ac1 wz hfr hsl hst
    revert hsl hst; revert xx; intro b2 hsl hst
    exact hfin b2 ac1 wz (hfr.size.trans hz) hfr.defers (fr_keep hfr [2, 4] (by kernel_rfl)) (hsl 0 (by decide)) (hsl 1 (by decide)) (Lib.hid hst)
set_option maxRecDepth 20000 in
theorem alikeC_r1 (room : Int) (a : Option Addr) (c : Nat) (la : Option Addr) (lc : Nat) (l : List PairV) (hl : l.length ≤ 1000000) (b2 : Nat) {wa wb : World} (H : Hid (Hp [] wa wb [rB b2 43 [.int .i64 room, .slice a l.length c], rS la lc 2 (l.map rowOf), rS a c 2 (l.map rowOf)])) (ac0 : Act) (hz : ac0.tmps.size = 73) (so2 : ac0.eval (.tmp 2) = .pointer (some ⟨b2, 0, none⟩)) {QR : Exit → Act → World → Prop} (hfin : ∀ (a1_1 : Option Addr) (c1_1 : Nat) (ac1 : Act) (wz : World), ac1.tmps.size = 73 → ac1.defers = ac0.defers → (∀ t, ([5, 8, 9] : List Nat).contains t = false → ac1.eval (.tmp t) = ac0.eval (.tmp t)) → ac1.eval (.tmp 5) = .slice a1_1 l.length c1_1 →  Hid (Hp [] wa wz [rS a1_1 c1_1 2 (l.map rowOf), rB b2 43 [.int .i64 room, .slice a l.length c], rS la lc 2 (l.map rowOf), rS a c 2 (l.map rowOf)]) → QR .normal ac1 wz) : (regAt Try.f42 1).wp Try.prog QR ac0 wb := by
  refine wp_region_sq (by kernel_rfl) 73 hz (by kernel_rfl) (fun (xx : Option Addr × Nat) jx => match xx with | (a1_1, c1_1) => nth [.agg #[.int .i64 room, .slice a l.length c], .slice a1_1 l.length c1_1, .slice a1_1 l.length c1_1] jx) (fun (LL : Nat → Bool) (xx : Option Addr × Nat) ww => match xx with | (a1_1, c1_1) => Hp [] wa ww (bif LL 1 then [rS a1_1 c1_1 2 (l.map rowOf), rB b2 43 [.int .i64 room, .slice a l.length c], rS la lc 2 (l.map rowOf), rS a c 2 (l.map rowOf)] else [rB b2 43 [.int .i64 room, .slice a l.length c], rS la lc 2 (l.map rowOf), rS a c 2 (l.map rowOf)])) (default, default) H.out ?_ (steps_al ?_) ?_ ?_
  · intro L1 L2 xx ww hL sg
    have lh1 := hL 1 (by decide)
    simp only [lh1] at sg
    exact sg
  · refine al_cons ?_ (al_cons ?_ (al_cons ?_ (al_nil)))
    · intro LL xx ac wc sg hst hwant QQ hgo
      obtain ⟨a1_1, c1_1⟩ := xx
      have H := Lib.hid hst
      simp only [sg.des 1 rfl, cond_true, cond_false] at H
      refine hpA_load tyshelf_Shelf_string__int_ H rfl ((sg.free 2 (by kernel_rfl)).trans so2) hwant (by (repeat (first | exact List.Mem.head _ | apply List.Mem.tail))) (by rfl) rfl ?_
      exact hgo _ (a1_1, c1_1) _ (fun _ _ => rfl) rfl hst
    · intro LL xx ac wc sg hst hwant QQ hgo
      obtain ⟨_, _⟩ := xx
      have se8 : ac.eval (.tmp 8) = _ := (sg.slot 0 (sg.anc 0 rfl))
      have sg8 := gt_of se8
      (try simp only [nth] at se8 sg8)
      have H := Lib.hid hst
      simp only [sg.self, cond_true, cond_false] at H
      refine op_call hwant hgo 36 _ (by simp only [execOp]; go_simp) (listC room a c l wc (hp_held H (by (repeat (first | exact List.Mem.head _ | apply List.Mem.tail)))) hl) ?_
      rintro er wd ⟨a1_1, c1_1, rfl, hgv⟩
      have H2 := hp_got H hgv.2.2 hgv.1 (by decide) hgv.2.1 (by simp)
      exact ⟨_, (a1_1, c1_1), rfl, (sg.agree (x' := (a1_1, c1_1)) (n := 3) rfl (by (iterate 3 (refine ix_cons (by first | exact fun _ => rfl | exact no sg.self | exact no (sg.des _ rfl)) ?_)); exact ix_nil)), rfl, (by simp only [(show upd LL 1 1 = true from rfl), cond_true, cond_false]; exact H2.out)⟩
    · intro LL xx ac wc sg hst hwant QQ hgo
      obtain ⟨a1_1, c1_1⟩ := xx
      exact op_val hwant hgo hst _ (exec_assign rfl (sg.slot 1 (sg.anc 1 rfl))) rfl
  · exact skips [] (by kernel_rfl) (fun _ h => by cases h)
  · intro xx ac1 wz hfr hsl hst
    obtain ⟨a1_1, c1_1⟩ := xx
    exact hfin a1_1 c1_1 ac1 wz (hfr.size.trans hz) hfr.defers (fr_keep hfr [5, 8, 9] (by kernel_rfl)) (hsl 2 (by decide)) (Lib.hid hst)
set_option maxRecDepth 20000 in
theorem alikeC_r2 (room : Int) (a : Option Addr) (c : Nat) (la : Option Addr) (lc : Nat) (l : List PairV) (hl : l.length ≤ 1000000) (b2 : Nat) (a1_1 : Option Addr) (c1_1 : Nat) {wa wb : World} (H : Hid (Hp [] wa wb [rS a1_1 c1_1 2 (l.map rowOf), rB b2 43 [.int .i64 room, .slice a l.length c], rS la lc 2 (l.map rowOf), rS a c 2 (l.map rowOf)])) (ac0 : Act) (hz : ac0.tmps.size = 73) (so2 : ac0.eval (.tmp 2) = .pointer (some ⟨b2, 0, none⟩)) {QR : Exit → Act → World → Prop} (hfin : ∀ (a2_1 : Option Addr) (c2_1 : Nat) (ac1 : Act) (wz : World), ac1.tmps.size = 73 → ac1.defers = ac0.defers → (∀ t, ([6, 10, 11] : List Nat).contains t = false → ac1.eval (.tmp t) = ac0.eval (.tmp t)) → ac1.eval (.tmp 6) = .slice a2_1 l.length c2_1 →  Hid (Hp [] wa wz [rS a2_1 c2_1 1 (l.map keyRow), rS a1_1 c1_1 2 (l.map rowOf), rB b2 43 [.int .i64 room, .slice a l.length c], rS la lc 2 (l.map rowOf), rS a c 2 (l.map rowOf)]) → QR .normal ac1 wz) : (regAt Try.f42 2).wp Try.prog QR ac0 wb := by
  refine wp_region_sq (by kernel_rfl) 73 hz (by kernel_rfl) (fun (xx : Option Addr × Nat) jx => match xx with | (a2_1, c2_1) => nth [.agg #[.int .i64 room, .slice a l.length c], .slice a2_1 l.length c2_1, .slice a2_1 l.length c2_1] jx) (fun (LL : Nat → Bool) (xx : Option Addr × Nat) ww => match xx with | (a2_1, c2_1) => Hp [] wa ww (bif LL 1 then [rS a2_1 c2_1 1 (l.map keyRow), rS a1_1 c1_1 2 (l.map rowOf), rB b2 43 [.int .i64 room, .slice a l.length c], rS la lc 2 (l.map rowOf), rS a c 2 (l.map rowOf)] else [rS a1_1 c1_1 2 (l.map rowOf), rB b2 43 [.int .i64 room, .slice a l.length c], rS la lc 2 (l.map rowOf), rS a c 2 (l.map rowOf)])) (default, default) H.out ?_ (steps_al ?_) ?_ ?_
  · intro L1 L2 xx ww hL sg
    have lh1 := hL 1 (by decide)
    simp only [lh1] at sg
    exact sg
  · refine al_cons ?_ (al_cons ?_ (al_cons ?_ (al_nil)))
    · intro LL xx ac wc sg hst hwant QQ hgo
      obtain ⟨a2_1, c2_1⟩ := xx
      have H := Lib.hid hst
      simp only [sg.des 1 rfl, cond_true, cond_false] at H
      refine hpA_load tyshelf_Shelf_string__int_ H rfl ((sg.free 2 (by kernel_rfl)).trans so2) hwant (by (repeat (first | exact List.Mem.head _ | apply List.Mem.tail))) (by rfl) rfl ?_
      exact hgo _ (a2_1, c2_1) _ (fun _ _ => rfl) rfl hst
    · intro LL xx ac wc sg hst hwant QQ hgo
      obtain ⟨_, _⟩ := xx
      have se10 : ac.eval (.tmp 10) = _ := (sg.slot 0 (sg.anc 0 rfl))
      have sg10 := gt_of se10
      (try simp only [nth] at se10 sg10)
      have H := Lib.hid hst
      simp only [sg.self, cond_true, cond_false] at H
      refine op_call hwant hgo 28 _ (by simp only [execOp]; go_simp) (keysC room a c l wc (hp_held H (by (repeat (first | exact List.Mem.head _ | apply List.Mem.tail)))) hl) ?_
      rintro er wd ⟨a2_1, c2_1, rfl, hgv⟩
      have H2 := hp_got H hgv.2.2 hgv.1 (by decide) hgv.2.1 (by simp)
      exact ⟨_, (a2_1, c2_1), rfl, (sg.agree (x' := (a2_1, c2_1)) (n := 3) rfl (by (iterate 3 (refine ix_cons (by first | exact fun _ => rfl | exact no sg.self | exact no (sg.des _ rfl)) ?_)); exact ix_nil)), rfl, (by simp only [(show upd LL 1 1 = true from rfl), cond_true, cond_false]; exact H2.out)⟩
    · intro LL xx ac wc sg hst hwant QQ hgo
      obtain ⟨a2_1, c2_1⟩ := xx
      exact op_val hwant hgo hst _ (exec_assign rfl (sg.slot 1 (sg.anc 1 rfl))) rfl
  · exact skips [] (by kernel_rfl) (fun _ h => by cases h)
  · intro xx ac1 wz hfr hsl hst
    obtain ⟨a2_1, c2_1⟩ := xx
    exact hfin a2_1 c2_1 ac1 wz (hfr.size.trans hz) hfr.defers (fr_keep hfr [6, 10, 11] (by kernel_rfl)) (hsl 2 (by decide)) (Lib.hid hst)
set_option maxRecDepth 20000 in
theorem alikeC_r3 (room : Int) (a : Option Addr) (c : Nat) (la : Option Addr) (lc : Nat) (l : List PairV) (hl : l.length ≤ 1000000) (b2 : Nat) (a1_1 : Option Addr) (c1_1 : Nat) (a2_1 : Option Addr) (c2_1 : Nat) {wa wb : World} (H : Hid (Hp [] wa wb [rS a2_1 c2_1 1 (l.map keyRow), rS a1_1 c1_1 2 (l.map rowOf), rB b2 43 [.int .i64 room, .slice a l.length c], rS la lc 2 (l.map rowOf), rS a c 2 (l.map rowOf)])) (ac0 : Act) (hz : ac0.tmps.size = 73) (so1 : ac0.eval (.tmp 1) = .slice la l.length lc) (so2 : ac0.eval (.tmp 2) = .pointer (some ⟨b2, 0, none⟩)) (so5 : ac0.eval (.tmp 5) = .slice a1_1 l.length c1_1) (so6 : ac0.eval (.tmp 6) = .slice a2_1 l.length c2_1) {QR : Exit → Act → World → Prop} (hfin : ∀ (ac1 : Act) (wz : World), ac1.tmps.size = 73 → ac1.defers = ac0.defers → (∀ t, ([12, 13, 14, 15, 16, 17, 18, 19, 20, 21, 22, 23, 24, 25, 26, 27, 28, 29, 30] : List Nat).contains t = false → ac1.eval (.tmp t) = ac0.eval (.tmp t)) → ac1.eval (.tmp 30) = .bool false →  Hid (Hp [] wa wz [rS a2_1 c2_1 1 (l.map keyRow), rS a1_1 c1_1 2 (l.map rowOf), rB b2 43 [.int .i64 room, .slice a l.length c], rS la lc 2 (l.map rowOf), rS a c 2 (l.map rowOf)]) → QR .normal ac1 wz) : (regAt Try.f42 3).wp Try.prog QR ac0 wb := by
  refine wp_region_sq (by kernel_rfl) 73 hz (by kernel_rfl) (fun (xx : Unit) jx => nth [.slice a1_1 l.length c1_1, .int .i64 l.length, .slice la l.length lc, .int .i64 l.length, .bool false, .bool false, .slice a2_1 l.length c2_1, .int .i64 l.length, .slice la l.length lc, .int .i64 l.length, .bool false, .bool false, .bool false, .agg #[.int .i64 room, .slice a l.length c], .int .i64 l.length, .slice la l.length lc, .int .i64 l.length, .bool false, .bool false] jx) (fun (LL : Nat → Bool) (xx : Unit) ww => Hp [] wa ww [rS a2_1 c2_1 1 (l.map keyRow), rS a1_1 c1_1 2 (l.map rowOf), rB b2 43 [.int .i64 room, .slice a l.length c], rS la lc 2 (l.map rowOf), rS a c 2 (l.map rowOf)]) () H.out ?_ (steps_al ?_) ?_ ?_
  · exact fun _ _ _ _ _ h => h
  · refine al_cons ?_ (al_cons ?_ (al_cons ?_ (al_cons ?_ (al_cons ?_ (al_cons ?_ (al_cons ?_ (al_cons ?_ (al_cons ?_ (al_cons ?_ (al_cons ?_ (al_cons ?_ (al_cons ?_ (al_cons ?_ (al_cons ?_ (al_cons ?_ (al_cons ?_ (al_cons ?_ (al_cons ?_ (al_nil)))))))))))))))))))
    · intro LL xx ac wc sg hst hwant QQ hgo
      exact op_val hwant hgo hst _ (exec_move rfl ((sg.free 5 (by kernel_rfl)).trans so5)) rfl
    · intro LL xx ac wc sg hst hwant QQ hgo
      have se12 : ac.eval (.tmp 12) = _ := (sg.slot 0 (sg.anc 0 rfl))
      have sg12 := gt_of se12
      (try simp only [nth] at se12 sg12)
      exact op_val hwant hgo hst _ (by simp only [execOp, nth]; go_simp <;> omega) rfl
    · intro LL xx ac wc sg hst hwant QQ hgo
      exact op_val hwant hgo hst _ (exec_move rfl ((sg.free 1 (by kernel_rfl)).trans so1)) rfl
    · intro LL xx ac wc sg hst hwant QQ hgo
      have se14 : ac.eval (.tmp 14) = _ := (sg.slot 2 (sg.anc 2 rfl))
      have sg14 := gt_of se14
      (try simp only [nth] at se14 sg14)
      exact op_val hwant hgo hst _ (by simp only [execOp, nth]; go_simp <;> omega) rfl
    · intro LL xx ac wc sg hst hwant QQ hgo
      have se13 : ac.eval (.tmp 13) = _ := (sg.slot 1 (sg.anc 1 rfl))
      have sg13 := gt_of se13
      have se15 : ac.eval (.tmp 15) = _ := (sg.slot 3 (sg.anc 3 rfl))
      have sg15 := gt_of se15
      (try simp only [nth] at se13 sg13 se15 sg15)
      exact op_val hwant hgo hst _ (by simp only [execOp, nth]; go_simp <;> omega) rfl
    · intro LL xx ac wc sg hst hwant QQ hgo
      exact op_val hwant hgo hst _ (exec_move rfl (sg.slot 4 (sg.anc 4 rfl))) rfl
    · intro LL xx ac wc sg hst hwant QQ hgo
      exact op_val hwant hgo hst _ (exec_move rfl ((sg.free 6 (by kernel_rfl)).trans so6)) rfl
    · intro LL xx ac wc sg hst hwant QQ hgo
      have se18 : ac.eval (.tmp 18) = _ := (sg.slot 6 (sg.anc 6 rfl))
      have sg18 := gt_of se18
      (try simp only [nth] at se18 sg18)
      exact op_val hwant hgo hst _ (by simp only [execOp, nth]; go_simp <;> omega) rfl
    · intro LL xx ac wc sg hst hwant QQ hgo
      exact op_val hwant hgo hst _ (exec_move rfl ((sg.free 1 (by kernel_rfl)).trans so1)) rfl
    · intro LL xx ac wc sg hst hwant QQ hgo
      have se20 : ac.eval (.tmp 20) = _ := (sg.slot 8 (sg.anc 8 rfl))
      have sg20 := gt_of se20
      (try simp only [nth] at se20 sg20)
      exact op_val hwant hgo hst _ (by simp only [execOp, nth]; go_simp <;> omega) rfl
    · intro LL xx ac wc sg hst hwant QQ hgo
      have se19 : ac.eval (.tmp 19) = _ := (sg.slot 7 (sg.anc 7 rfl))
      have sg19 := gt_of se19
      have se21 : ac.eval (.tmp 21) = _ := (sg.slot 9 (sg.anc 9 rfl))
      have sg21 := gt_of se21
      (try simp only [nth] at se19 sg19 se21 sg21)
      exact op_val hwant hgo hst _ (by simp only [execOp, nth]; go_simp <;> omega) rfl
    · intro LL xx ac wc sg hst hwant QQ hgo
      exact op_val hwant hgo hst (.bool false) (exec_pick (B := false) (U := undef) (V := .bool false) rfl (sg.slot 5 (sg.anc 5 rfl)) (fun h => by cases h) (fun _ => (sg.slot 10 (sg.anc 10 rfl)))) rfl
    · intro LL xx ac wc sg hst hwant QQ hgo
      exact op_val hwant hgo hst _ (exec_move rfl (sg.slot 11 (sg.anc 11 rfl))) rfl
    · intro LL xx ac wc sg hst hwant QQ hgo
      have H := Lib.hid hst
      refine hpA_load tyshelf_Shelf_string__int_ H rfl ((sg.free 2 (by kernel_rfl)).trans so2) hwant (by (repeat (first | exact List.Mem.head _ | apply List.Mem.tail))) (by rfl) rfl ?_
      exact hgo _ () _ (fun _ _ => rfl) rfl hst
    · intro LL xx ac wc sg hst hwant QQ hgo
      have se25 : ac.eval (.tmp 25) = _ := (sg.slot 13 (sg.anc 13 rfl))
      have sg25 := gt_of se25
      (try simp only [nth] at se25 sg25)
      refine op_call hwant hgo 35 _ (by simp only [execOp]; go_simp) (lenC room a l.length c wc) ?_
      rintro er wd ⟨rfl, hof⟩
      exact ⟨_, (), rfl, fun _ _ => rfl, rfl, Hp.quiet hst hof⟩
    · intro LL xx ac wc sg hst hwant QQ hgo
      exact op_val hwant hgo hst _ (exec_move rfl ((sg.free 1 (by kernel_rfl)).trans so1)) rfl
    · intro LL xx ac wc sg hst hwant QQ hgo
      have se27 : ac.eval (.tmp 27) = _ := (sg.slot 15 (sg.anc 15 rfl))
      have sg27 := gt_of se27
      (try simp only [nth] at se27 sg27)
      exact op_val hwant hgo hst _ (by simp only [execOp, nth]; go_simp <;> omega) rfl
    · intro LL xx ac wc sg hst hwant QQ hgo
      have se26 : ac.eval (.tmp 26) = _ := (sg.slot 14 (sg.anc 14 rfl))
      have sg26 := gt_of se26
      have se28 : ac.eval (.tmp 28) = _ := (sg.slot 16 (sg.anc 16 rfl))
      have sg28 := gt_of se28
      (try simp only [nth] at se26 sg26 se28 sg28)
      exact op_val hwant hgo hst _ (by simp only [execOp, nth]; go_simp <;> omega) rfl
    · intro LL xx ac wc sg hst hwant QQ hgo
      exact op_val hwant hgo hst (.bool false) (exec_pick (B := false) (U := undef) (V := .bool false) rfl (sg.slot 12 (sg.anc 12 rfl)) (fun h => by cases h) (fun _ => (sg.slot 17 (sg.anc 17 rfl)))) rfl
  · refine skips [6, 7, 8, 9, 10, 13, 14, 15, 16, 17] (by kernel_rfl) ?_
    refine List.forall_mem_cons.2 ⟨?_, List.forall_mem_cons.2 ⟨?_, List.forall_mem_cons.2 ⟨?_, List.forall_mem_cons.2 ⟨?_, List.forall_mem_cons.2 ⟨?_, List.forall_mem_cons.2 ⟨?_, List.forall_mem_cons.2 ⟨?_, List.forall_mem_cons.2 ⟨?_, List.forall_mem_cons.2 ⟨?_, List.forall_mem_cons.2 ⟨?_, fun _ h => by cases h⟩⟩⟩⟩⟩⟩⟩⟩⟩⟩
    · intro oo hop LL xx ac sg hwant
      cases Option.some.inj hop
      exact absurd ((want_f rfl rfl (sg.slot 5 (sg.anc 5 rfl))).symm.trans hwant) (by decide)
    · intro oo hop LL xx ac sg hwant
      cases Option.some.inj hop
      exact absurd ((want_f rfl rfl (sg.slot 5 (sg.anc 5 rfl))).symm.trans hwant) (by decide)
    · intro oo hop LL xx ac sg hwant
      cases Option.some.inj hop
      exact absurd ((want_f rfl rfl (sg.slot 5 (sg.anc 5 rfl))).symm.trans hwant) (by decide)
    · intro oo hop LL xx ac sg hwant
      cases Option.some.inj hop
      exact absurd ((want_f rfl rfl (sg.slot 5 (sg.anc 5 rfl))).symm.trans hwant) (by decide)
    · intro oo hop LL xx ac sg hwant
      cases Option.some.inj hop
      exact absurd ((want_f rfl rfl (sg.slot 5 (sg.anc 5 rfl))).symm.trans hwant) (by decide)
    · intro oo hop LL xx ac sg hwant
      cases Option.some.inj hop
      exact absurd ((want_f rfl rfl (sg.slot 12 (sg.anc 12 rfl))).symm.trans hwant) (by decide)
    · intro oo hop LL xx ac sg hwant
      cases Option.some.inj hop
      exact absurd ((want_f rfl rfl (sg.slot 12 (sg.anc 12 rfl))).symm.trans hwant) (by decide)
    · intro oo hop LL xx ac sg hwant
      cases Option.some.inj hop
      exact absurd ((want_f rfl rfl (sg.slot 12 (sg.anc 12 rfl))).symm.trans hwant) (by decide)
    · intro oo hop LL xx ac sg hwant
      cases Option.some.inj hop
      exact absurd ((want_f rfl rfl (sg.slot 12 (sg.anc 12 rfl))).symm.trans hwant) (by decide)
    · intro oo hop LL xx ac sg hwant
      cases Option.some.inj hop
      exact absurd ((want_f rfl rfl (sg.slot 12 (sg.anc 12 rfl))).symm.trans hwant) (by decide)
  · intro xx ac1 wz hfr hsl hst
    exact hfin ac1 wz (hfr.size.trans hz) hfr.defers (fr_keep hfr [12, 13, 14, 15, 16, 17, 18, 19, 20, 21, 22, 23, 24, 25, 26, 27, 28, 29, 30] (by kernel_rfl)) (hsl 18 (by decide)) (Lib.hid hst)
set_option maxRecDepth 20000 in
theorem alikeC_r5 (room : Int) (a : Option Addr) (c : Nat) (la : Option Addr) (lc : Nat) (l : List PairV) (hl : l.length ≤ 1000000) (b2 : Nat) (a1_1 : Option Addr) (c1_1 : Nat) (a2_1 : Option Addr) (c2_1 : Nat) {wa wb : World} (H : Hid (Hp [] wa wb [rS a2_1 c2_1 1 (l.map keyRow), rS a1_1 c1_1 2 (l.map rowOf), rB b2 43 [.int .i64 room, .slice a l.length c], rS la lc 2 (l.map rowOf), rS a c 2 (l.map rowOf)])) (ac0 : Act) (hz : ac0.tmps.size = 73)  {QR : Exit → Act → World → Prop} (hfin : ∀ (ac1 : Act) (wz : World), ac1.tmps.size = 73 → ac1.defers = ac0.defers → (∀ t, ([7] : List Nat).contains t = false → ac1.eval (.tmp t) = ac0.eval (.tmp t)) → ac1.eval (.tmp 7) = .int .i64 0 →  Hid (Hp [] wa wz [rS a2_1 c2_1 1 (l.map keyRow), rS a1_1 c1_1 2 (l.map rowOf), rB b2 43 [.int .i64 room, .slice a l.length c], rS la lc 2 (l.map rowOf), rS a c 2 (l.map rowOf)]) → QR .normal ac1 wz) : (regAt Try.f42 5).wp Try.prog QR ac0 wb := by
  refine wp_region_sq (by kernel_rfl) 73 hz (by kernel_rfl) (fun (xx : Unit) jx => nth [.int .i64 0] jx) (fun (LL : Nat → Bool) (xx : Unit) ww => Hp [] wa ww [rS a2_1 c2_1 1 (l.map keyRow), rS a1_1 c1_1 2 (l.map rowOf), rB b2 43 [.int .i64 room, .slice a l.length c], rS la lc 2 (l.map rowOf), rS a c 2 (l.map rowOf)]) () H.out ?_ (steps_al ?_) ?_ ?_
  · exact fun _ _ _ _ _ h => h
  · refine al_cons ?_ (al_nil)
    · intro LL xx ac wc sg hst hwant QQ hgo
      exact op_val hwant hgo hst _ (exec_assign rfl rfl) rfl
  · exact skips [] (by kernel_rfl) (fun _ h => by cases h)
  · intro xx ac1 wz hfr hsl hst
    exact hfin ac1 wz (hfr.size.trans hz) hfr.defers (fr_keep hfr [7] (by kernel_rfl)) (hsl 0 (by decide)) (Lib.hid hst)
set_option maxRecDepth 20000 in
theorem alikeC_r6 (room : Int) (a : Option Addr) (c : Nat) (la : Option Addr) (lc : Nat) (l : List PairV) (hl : l.length ≤ 1000000) (b2 : Nat) (a1_1 : Option Addr) (c1_1 : Nat) (a2_1 : Option Addr) (c2_1 : Nat) (i : Nat) (hi : i ≤ l.length) {wa wb : World} (H : Hid (Hp [] wa wb [rS a2_1 c2_1 1 (l.map keyRow), rS a1_1 c1_1 2 (l.map rowOf), rB b2 43 [.int .i64 room, .slice a l.length c], rS la lc 2 (l.map rowOf), rS a c 2 (l.map rowOf)])) (ac0 : Act) (hz : ac0.tmps.size = 73) (so1 : ac0.eval (.tmp 1) = .slice la l.length lc) (so7 : ac0.eval (.tmp 7) = .int .i64 i) {QR : Exit → Act → World → Prop} (hfin : ∀ (ac1 : Act) (wz : World), ac1.tmps.size = 73 → ac1.defers = ac0.defers → (∀ t, ([31, 32, 33, 34] : List Nat).contains t = false → ac1.eval (.tmp t) = ac0.eval (.tmp t)) → ac1.eval (.tmp 34) = .bool (decide (i < l.length)) →  Hid (Hp [] wa wz [rS a2_1 c2_1 1 (l.map keyRow), rS a1_1 c1_1 2 (l.map rowOf), rB b2 43 [.int .i64 room, .slice a l.length c], rS la lc 2 (l.map rowOf), rS a c 2 (l.map rowOf)]) → QR .normal ac1 wz) : (regAt Try.f42 6).wp Try.prog QR ac0 wb := by
  refine wp_region_sq (by kernel_rfl) 73 hz (by kernel_rfl) (fun (xx : Unit) jx => nth [.int .i64 i, .slice la l.length lc, .int .i64 l.length, .bool (decide (i < l.length))] jx) (fun (LL : Nat → Bool) (xx : Unit) ww => Hp [] wa ww [rS a2_1 c2_1 1 (l.map keyRow), rS a1_1 c1_1 2 (l.map rowOf), rB b2 43 [.int .i64 room, .slice a l.length c], rS la lc 2 (l.map rowOf), rS a c 2 (l.map rowOf)]) () H.out ?_ (steps_al ?_) ?_ ?_
  · exact fun _ _ _ _ _ h => h
  · refine al_cons ?_ (al_cons ?_ (al_cons ?_ (al_cons ?_ (al_nil))))
    · intro LL xx ac wc sg hst hwant QQ hgo
      exact op_val hwant hgo hst _ (exec_move rfl ((sg.free 7 (by kernel_rfl)).trans so7)) rfl
    · intro LL xx ac wc sg hst hwant QQ hgo
      exact op_val hwant hgo hst _ (exec_move rfl ((sg.free 1 (by kernel_rfl)).trans so1)) rfl
    · intro LL xx ac wc sg hst hwant QQ hgo
      have se32 : ac.eval (.tmp 32) = _ := (sg.slot 1 (sg.anc 1 rfl))
      have sg32 := gt_of se32
      (try simp only [nth] at se32 sg32)
      exact op_val hwant hgo hst _ (by simp only [execOp, nth]; go_simp <;> omega) rfl
    · intro LL xx ac wc sg hst hwant QQ hgo
      have se31 : ac.eval (.tmp 31) = _ := (sg.slot 0 (sg.anc 0 rfl))
      have sg31 := gt_of se31
      have se33 : ac.eval (.tmp 33) = _ := (sg.slot 2 (sg.anc 2 rfl))
      have sg33 := gt_of se33
      (try simp only [nth] at se31 sg31 se33 sg33)
      exact op_val hwant hgo hst _ (by simp only [execOp, nth]; go_simp <;> omega) rfl
  · exact skips [] (by kernel_rfl) (fun _ h => by cases h)
  · intro xx ac1 wz hfr hsl hst
    exact hfin ac1 wz (hfr.size.trans hz) hfr.defers (fr_keep hfr [31, 32, 33, 34] (by kernel_rfl)) (hsl 3 (by decide)) (Lib.hid hst)
set_option maxRecDepth 20000 in
theorem alikeC_r8 (room : Int) (a : Option Addr) (c : Nat) (lc : Nat) (l : List PairV) (hl : l.length ≤ 1000000) (b2 : Nat) (c1_1 : Nat) (c2_1 : Nat) (i : Nat) (hi : i ≤ l.length) (z1d : i < l.length) (y1 : Addr) (y2 : Addr) (y3 : Addr) (x : PairV) (HR : Hid ((l.map rowOf)[i]? = some [.string x.1, .int .i64 x.2])) (HK : Hid ((l.map keyRow)[i]? = some [.string x.1])) {wa wb : World} (H : Hid (Hp [] wa wb [rS (some y2) c2_1 1 (l.map keyRow), rS (some y1) c1_1 2 (l.map rowOf), rB b2 43 [.int .i64 room, .slice a l.length c], rS (some y3) lc 2 (l.map rowOf), rS a c 2 (l.map rowOf)])) (ac0 : Act) (hz : ac0.tmps.size = 73) (so1 : ac0.eval (.tmp 1) = .slice (some y3) l.length lc) (so5 : ac0.eval (.tmp 5) = .slice (some y1) l.length c1_1) (so6 : ac0.eval (.tmp 6) = .slice (some y2) l.length c2_1) (so7 : ac0.eval (.tmp 7) = .int .i64 i) {QR : Exit → Act → World → Prop} (hfin : ∀ (ac1 : Act) (wz : World), ac1.tmps.size = 73 → ac1.defers = ac0.defers → (∀ t, ([37, 38, 39, 40, 41, 42, 43, 44, 45, 46, 47, 48, 49, 50, 51, 52, 53, 54, 55, 56, 57, 58, 59, 60, 61, 62, 63, 64, 65, 66, 67, 68, 69, 70, 71, 72] : List Nat).contains t = false → ac1.eval (.tmp t) = ac0.eval (.tmp t)) → ac1.eval (.tmp 72) = .bool false →  Hid (Hp [] wa wz [rS (some y2) c2_1 1 (l.map keyRow), rS (some y1) c1_1 2 (l.map rowOf), rB b2 43 [.int .i64 room, .slice a l.length c], rS (some y3) lc 2 (l.map rowOf), rS a c 2 (l.map rowOf)]) → QR .normal ac1 wz) : (regAt Try.f42 8).wp Try.prog QR ac0 wb := by
  refine wp_region_st mixedP ⟨[0, 0, 1, 2, 3, 0, 0, 1, 2, 3, 4, 5, 6, 6, 7, 8, 9, 6, 6, 7, 8, 9, 10, 11, 12, 13, 13, 14, 15, 13, 13, 14, 15, 16, 17, 18], by kernel_rfl⟩ [[], [], [0, 1], [0, 1, 2], [0, 1, 2, 3], [], [], [5, 6], [5, 6, 7], [5, 6, 7, 8], [0, 1, 2, 3, 4, 5, 6, 7, 8, 9], [0, 1, 2, 3, 4, 5, 6, 7, 8, 9, 10], [0, 1, 2, 3, 4, 5, 6, 7, 8, 9, 10, 11], [0, 1, 2, 3, 4, 5, 6, 7, 8, 9, 10, 11], [0, 1, 2, 3, 4, 5, 6, 7, 8, 9, 10, 11, 12, 13], [0, 1, 2, 3, 4, 5, 6, 7, 8, 9, 10, 11, 12, 13, 14], [0, 1, 2, 3, 4, 5, 6, 7, 8, 9, 10, 11, 12, 13, 14, 15], [0, 1, 2, 3, 4, 5, 6, 7, 8, 9, 10, 11], [0, 1, 2, 3, 4, 5, 6, 7, 8, 9, 10, 11], [0, 1, 2, 3, 4, 5, 6, 7, 8, 9, 10, 11, 17, 18], [0, 1, 2, 3, 4, 5, 6, 7, 8, 9, 10, 11, 17, 18, 19], [0, 1, 2, 3, 4, 5, 6, 7, 8, 9, 10, 11, 17, 18, 19, 20], [0, 1, 2, 3, 4, 5, 6, 7, 8, 9, 10, 11, 12, 13, 14, 15, 16, 17, 18, 19, 20, 21], [0, 1, 2, 3, 4, 5, 6, 7, 8, 9, 10, 11, 12, 13, 14, 15, 16, 17, 18, 19, 20, 21, 22], [0, 1, 2, 3, 4, 5, 6, 7, 8, 9, 10, 11, 12, 13, 14, 15, 16, 17, 18, 19, 20, 21, 22, 23], [0, 1, 2, 3, 4, 5, 6, 7, 8, 9, 10, 11, 12, 13, 14, 15, 16, 17, 18, 19, 20, 21, 22, 23, 24], [0, 1, 2, 3, 4, 5, 6, 7, 8, 9, 10, 11, 12, 13, 14, 15, 16, 17, 18, 19, 20, 21, 22, 23, 24], [0, 1, 2, 3, 4, 5, 6, 7, 8, 9, 10, 11, 12, 13, 14, 15, 16, 17, 18, 19, 20, 21, 22, 23, 24, 25, 26], [0, 1, 2, 3, 4, 5, 6, 7, 8, 9, 10, 11, 12, 13, 14, 15, 16, 17, 18, 19, 20, 21, 22, 23, 24, 25, 26, 27], [0, 1, 2, 3, 4, 5, 6, 7, 8, 9, 10, 11, 12, 13, 14, 15, 16, 17, 18, 19, 20, 21, 22, 23, 24], [0, 1, 2, 3, 4, 5, 6, 7, 8, 9, 10, 11, 12, 13, 14, 15, 16, 17, 18, 19, 20, 21, 22, 23, 24], [0, 1, 2, 3, 4, 5, 6, 7, 8, 9, 10, 11, 12, 13, 14, 15, 16, 17, 18, 19, 20, 21, 22, 23, 24, 29, 30], [0, 1, 2, 3, 4, 5, 6, 7, 8, 9, 10, 11, 12, 13, 14, 15, 16, 17, 18, 19, 20, 21, 22, 23, 24, 29, 30, 31], [0, 1, 2, 3, 4, 5, 6, 7, 8, 9, 10, 11, 12, 13, 14, 15, 16, 17, 18, 19, 20, 21, 22, 23, 24, 29, 30, 31, 32], [0, 1, 2, 3, 4, 5, 6, 7, 8, 9, 10, 11, 12, 13, 14, 15, 16, 17, 18, 19, 20, 21, 22, 23, 24, 25, 26, 27, 28, 29, 30, 31, 32, 33], [0, 1, 2, 3, 4, 5, 6, 7, 8, 9, 10, 11, 12, 13, 14, 15, 16, 17, 18, 19, 20, 21, 22, 23, 24, 25, 26, 27, 28, 29, 30, 31, 32, 33, 34]] (by kernel_rfl) (by kernel_rfl) 73 hz (by kernel_rfl) (fun (xx : Unit) jx => nth [.slice (some y1) l.length c1_1, .int .i64 i, .pointer (some (y1.add (i * 2))), .pointer (some (y1.add (i * 2))), .string x.1, .slice (some y3) l.length lc, .int .i64 i, .pointer (some (y3.add (i * 2))), .pointer (some (y3.add (i * 2))), .string x.1, .bool false, .bool false, .slice (some y1) l.length c1_1, .int .i64 i, .pointer (some (y1.add (i * 2))), .pointer (some ⟨(y1.add (i * 2)).block, (y1.add (i * 2)).off + 1, none⟩), .int .i64 x.2, .slice (some y3) l.length lc, .int .i64 i, .pointer (some (y3.add (i * 2))), .pointer (some ⟨(y3.add (i * 2)).block, (y3.add (i * 2)).off + 1, none⟩), .int .i64 x.2, .bool false, .bool false, .bool false, .slice (some y2) l.length c2_1, .int .i64 i, .pointer (some (y2.add i)), .string x.1, .slice (some y3) l.length lc, .int .i64 i, .pointer (some (y3.add (i * 2))), .pointer (some (y3.add (i * 2))), .string x.1, .bool false, .bool false] jx) (fun (LL : Nat → Bool) (xx : Unit) ww => Hp [] wa ww [rS (some y2) c2_1 1 (l.map keyRow), rS (some y1) c1_1 2 (l.map rowOf), rB b2 43 [.int .i64 room, .slice a l.length c], rS (some y3) lc 2 (l.map rowOf), rS a c 2 (l.map rowOf)]) () H.out.drew ?_ (steps_al ?_) ?_ ?_
  · exact fun _ _ _ _ _ h => h
  · refine al_cons ?_ (al_cons ?_ (al_cons ?_ (al_cons ?_ (al_cons ?_ (al_cons ?_ (al_cons ?_ (al_cons ?_ (al_cons ?_ (al_cons ?_ (al_cons ?_ (al_cons ?_ (al_cons ?_ (al_cons ?_ (al_cons ?_ (al_cons ?_ (al_cons ?_ (al_cons ?_ (al_cons ?_ (al_cons ?_ (al_cons ?_ (al_cons ?_ (al_cons ?_ (al_cons ?_ (al_cons ?_ (al_cons ?_ (al_cons ?_ (al_cons ?_ (al_cons ?_ (al_cons ?_ (al_cons ?_ (al_cons ?_ (al_cons ?_ (al_cons ?_ (al_cons ?_ (al_cons ?_ (al_nil))))))))))))))))))))))))))))))))))))
    · intro LL xx ac wc sg hst hwant QQ hgo
      exact op_val hwant hgo hst _ (exec_move rfl ((sg.free 5 (by kernel_rfl)).trans so5)) rfl
    · intro LL xx ac wc sg hst hwant QQ hgo
      exact op_val hwant hgo hst _ (exec_move rfl ((sg.free 7 (by kernel_rfl)).trans so7)) rfl
    · intro LL xx ac wc sg hst hwant QQ hgo
      have se37 : ac.eval (.tmp 37) = _ := (sg.slot 0 (sg.anc 0 rfl))
      have sg37 := gt_of se37
      have se38 : ac.eval (.tmp 38) = _ := (sg.slot 1 (sg.anc 1 rfl))
      have sg38 := gt_of se38
      (try simp only [nth] at se37 sg37 se38 sg38)
      exact op_val hwant hgo hst _ (by simp only [execOp, nth]; go_simp <;> omega) rfl
    · intro LL xx ac wc sg hst hwant QQ hgo
      have se39 : ac.eval (.tmp 39) = _ := (sg.slot 2 (sg.anc 2 rfl))
      have sg39 := gt_of se39
      (try simp only [nth] at se39 sg39)
      exact op_val hwant hgo hst _ (by simp only [execOp, nth]; go_simp <;> omega) rfl
    · intro LL xx ac wc sg hst hwant QQ hgo
      have H := Lib.hid hst
      refine hpS_load1 0 tystring H (y := y1) rfl (sg.slot 3 (sg.anc 3 rfl)) hwant (by (repeat (first | exact List.Mem.head _ | apply List.Mem.tail))) HR.out (by rfl) (by simp [Addr.add]) ?_
      exact hgo _ () _ (fun _ _ => rfl) rfl hst
    · intro LL xx ac wc sg hst hwant QQ hgo
      exact op_val hwant hgo hst _ (exec_move rfl ((sg.free 1 (by kernel_rfl)).trans so1)) rfl
    · intro LL xx ac wc sg hst hwant QQ hgo
      exact op_val hwant hgo hst _ (exec_move rfl ((sg.free 7 (by kernel_rfl)).trans so7)) rfl
    · intro LL xx ac wc sg hst hwant QQ hgo
      have se42 : ac.eval (.tmp 42) = _ := (sg.slot 5 (sg.anc 5 rfl))
      have sg42 := gt_of se42
      have se43 : ac.eval (.tmp 43) = _ := (sg.slot 6 (sg.anc 6 rfl))
      have sg43 := gt_of se43
      (try simp only [nth] at se42 sg42 se43 sg43)
      exact op_val hwant hgo hst _ (by simp only [execOp, nth]; go_simp <;> omega) rfl
    · intro LL xx ac wc sg hst hwant QQ hgo
      have se44 : ac.eval (.tmp 44) = _ := (sg.slot 7 (sg.anc 7 rfl))
      have sg44 := gt_of se44
      (try simp only [nth] at se44 sg44)
      exact op_val hwant hgo hst _ (by simp only [execOp, nth]; go_simp <;> omega) rfl
    · intro LL xx ac wc sg hst hwant QQ hgo
      have H := Lib.hid hst
      refine hpS_load1 0 tystring H (y := y3) rfl (sg.slot 8 (sg.anc 8 rfl)) hwant (by (repeat (first | exact List.Mem.head _ | apply List.Mem.tail))) HR.out (by rfl) (by simp [Addr.add]) ?_
      exact hgo _ () _ (fun _ _ => rfl) rfl hst
    · intro LL xx ac wc sg hst hwant QQ hgo
      have se41 : ac.eval (.tmp 41) = _ := (sg.slot 4 (sg.anc 4 rfl))
      have sg41 := gt_of se41
      have se46 : ac.eval (.tmp 46) = _ := (sg.slot 9 (sg.anc 9 rfl))
      have sg46 := gt_of se46
      (try simp only [nth] at se41 sg41 se46 sg46)
      exact op_val hwant hgo hst _ (by simp only [execOp, nth]; go_simp <;> omega) rfl
    · intro LL xx ac wc sg hst hwant QQ hgo
      exact op_val hwant hgo hst _ (exec_move rfl (sg.slot 10 (sg.anc 10 rfl))) rfl
    · intro LL xx ac wc sg hst hwant QQ hgo
      exact op_val hwant hgo hst _ (exec_move rfl ((sg.free 5 (by kernel_rfl)).trans so5)) rfl
    · intro LL xx ac wc sg hst hwant QQ hgo
      exact op_val hwant hgo hst _ (exec_move rfl ((sg.free 7 (by kernel_rfl)).trans so7)) rfl
    · intro LL xx ac wc sg hst hwant QQ hgo
      have se49 : ac.eval (.tmp 49) = _ := (sg.slot 12 (sg.anc 12 rfl))
      have sg49 := gt_of se49
      have se50 : ac.eval (.tmp 50) = _ := (sg.slot 13 (sg.anc 13 rfl))
      have sg50 := gt_of se50
      (try simp only [nth] at se49 sg49 se50 sg50)
      exact op_val hwant hgo hst _ (by simp only [execOp, nth]; go_simp <;> omega) rfl
    · intro LL xx ac wc sg hst hwant QQ hgo
      have se51 : ac.eval (.tmp 51) = _ := (sg.slot 14 (sg.anc 14 rfl))
      have sg51 := gt_of se51
      (try simp only [nth] at se51 sg51)
      exact op_val hwant hgo hst _ (by simp only [execOp, nth]; go_simp <;> omega) rfl
    · intro LL xx ac wc sg hst hwant QQ hgo
      have H := Lib.hid hst
      refine hpS_load1 1 tyint H (y := y1) rfl (sg.slot 15 (sg.anc 15 rfl)) hwant (by (repeat (first | exact List.Mem.head _ | apply List.Mem.tail))) HR.out (by rfl) (by simp [Addr.add]) ?_
      exact hgo _ () _ (fun _ _ => rfl) rfl hst
    · intro LL xx ac wc sg hst hwant QQ hgo
      exact op_val hwant hgo hst _ (exec_move rfl ((sg.free 1 (by kernel_rfl)).trans so1)) rfl
    · intro LL xx ac wc sg hst hwant QQ hgo
      exact op_val hwant hgo hst _ (exec_move rfl ((sg.free 7 (by kernel_rfl)).trans so7)) rfl
    · intro LL xx ac wc sg hst hwant QQ hgo
      have se54 : ac.eval (.tmp 54) = _ := (sg.slot 17 (sg.anc 17 rfl))
      have sg54 := gt_of se54
      have se55 : ac.eval (.tmp 55) = _ := (sg.slot 18 (sg.anc 18 rfl))
      have sg55 := gt_of se55
      (try simp only [nth] at se54 sg54 se55 sg55)
      exact op_val hwant hgo hst _ (by simp only [execOp, nth]; go_simp <;> omega) rfl
    · intro LL xx ac wc sg hst hwant QQ hgo
      have se56 : ac.eval (.tmp 56) = _ := (sg.slot 19 (sg.anc 19 rfl))
      have sg56 := gt_of se56
      (try simp only [nth] at se56 sg56)
      exact op_val hwant hgo hst _ (by simp only [execOp, nth]; go_simp <;> omega) rfl
    · intro LL xx ac wc sg hst hwant QQ hgo
      have H := Lib.hid hst
      refine hpS_load1 1 tyint H (y := y3) rfl (sg.slot 20 (sg.anc 20 rfl)) hwant (by (repeat (first | exact List.Mem.head _ | apply List.Mem.tail))) HR.out (by rfl) (by simp [Addr.add]) ?_
      exact hgo _ () _ (fun _ _ => rfl) rfl hst
    · intro LL xx ac wc sg hst hwant QQ hgo
      have se53 : ac.eval (.tmp 53) = _ := (sg.slot 16 (sg.anc 16 rfl))
      have sg53 := gt_of se53
      have se58 : ac.eval (.tmp 58) = _ := (sg.slot 21 (sg.anc 21 rfl))
      have sg58 := gt_of se58
      (try simp only [nth] at se53 sg53 se58 sg58)
      exact op_val hwant hgo hst _ (by simp only [execOp, nth]; go_simp <;> omega) rfl
    · intro LL xx ac wc sg hst hwant QQ hgo
      exact op_val hwant hgo hst (.bool false) (exec_pick (B := false) (U := undef) (V := .bool false) rfl (sg.slot 11 (sg.anc 11 rfl)) (fun h => by cases h) (fun _ => (sg.slot 22 (sg.anc 22 rfl)))) rfl
    · intro LL xx ac wc sg hst hwant QQ hgo
      exact op_val hwant hgo hst _ (exec_move rfl (sg.slot 23 (sg.anc 23 rfl))) rfl
    · intro LL xx ac wc sg hst hwant QQ hgo
      exact op_val hwant hgo hst _ (exec_move rfl ((sg.free 6 (by kernel_rfl)).trans so6)) rfl
    · intro LL xx ac wc sg hst hwant QQ hgo
      exact op_val hwant hgo hst _ (exec_move rfl ((sg.free 7 (by kernel_rfl)).trans so7)) rfl
    · intro LL xx ac wc sg hst hwant QQ hgo
      have se62 : ac.eval (.tmp 62) = _ := (sg.slot 25 (sg.anc 25 rfl))
      have sg62 := gt_of se62
      have se63 : ac.eval (.tmp 63) = _ := (sg.slot 26 (sg.anc 26 rfl))
      have sg63 := gt_of se63
      (try simp only [nth] at se62 sg62 se63 sg63)
      exact op_val hwant hgo hst _ (by simp only [execOp, nth]; go_simp <;> omega) rfl
    · intro LL xx ac wc sg hst hwant QQ hgo
      have H := Lib.hid hst
      refine hpS_load1 0 tystring H (y := y2) rfl (sg.slot 27 (sg.anc 27 rfl)) hwant (by (repeat (first | exact List.Mem.head _ | apply List.Mem.tail))) HK.out (by rfl) (by simp [Addr.add]) ?_
      exact hgo _ () _ (fun _ _ => rfl) rfl hst
    · intro LL xx ac wc sg hst hwant QQ hgo
      exact op_val hwant hgo hst _ (exec_move rfl ((sg.free 1 (by kernel_rfl)).trans so1)) rfl
    · intro LL xx ac wc sg hst hwant QQ hgo
      exact op_val hwant hgo hst _ (exec_move rfl ((sg.free 7 (by kernel_rfl)).trans so7)) rfl
    · intro LL xx ac wc sg hst hwant QQ hgo
      have se66 : ac.eval (.tmp 66) = _ := (sg.slot 29 (sg.anc 29 rfl))
      have sg66 := gt_of se66
      have se67 : ac.eval (.tmp 67) = _ := (sg.slot 30 (sg.anc 30 rfl))
      have sg67 := gt_of se67
      (try simp only [nth] at se66 sg66 se67 sg67)
      exact op_val hwant hgo hst _ (by simp only [execOp, nth]; go_simp <;> omega) rfl
    · intro LL xx ac wc sg hst hwant QQ hgo
      have se68 : ac.eval (.tmp 68) = _ := (sg.slot 31 (sg.anc 31 rfl))
      have sg68 := gt_of se68
      (try simp only [nth] at se68 sg68)
      exact op_val hwant hgo hst _ (by simp only [execOp, nth]; go_simp <;> omega) rfl
    · intro LL xx ac wc sg hst hwant QQ hgo
      have H := Lib.hid hst
      refine hpS_load1 0 tystring H (y := y3) rfl (sg.slot 32 (sg.anc 32 rfl)) hwant (by (repeat (first | exact List.Mem.head _ | apply List.Mem.tail))) HR.out (by rfl) (by simp [Addr.add]) ?_
      exact hgo _ () _ (fun _ _ => rfl) rfl hst
    · intro LL xx ac wc sg hst hwant QQ hgo
      have se65 : ac.eval (.tmp 65) = _ := (sg.slot 28 (sg.anc 28 rfl))
      have sg65 := gt_of se65
      have se70 : ac.eval (.tmp 70) = _ := (sg.slot 33 (sg.anc 33 rfl))
      have sg70 := gt_of se70
      (try simp only [nth] at se65 sg65 se70 sg70)
      exact op_val hwant hgo hst _ (by simp only [execOp, nth]; go_simp <;> omega) rfl
    · intro LL xx ac wc sg hst hwant QQ hgo
      exact op_val hwant hgo hst (.bool false) (exec_pick (B := false) (U := undef) (V := .bool false) rfl (sg.slot 24 (sg.anc 24 rfl)) (fun h => by cases h) (fun _ => (sg.slot 34 (sg.anc 34 rfl)))) rfl
  · refine skips [12, 13, 14, 15, 16, 17, 18, 19, 20, 21, 22, 25, 26, 27, 28, 29, 30, 31, 32, 33, 34] (by kernel_rfl) ?_
    refine List.forall_mem_cons.2 ⟨?_, List.forall_mem_cons.2 ⟨?_, List.forall_mem_cons.2 ⟨?_, List.forall_mem_cons.2 ⟨?_, List.forall_mem_cons.2 ⟨?_, List.forall_mem_cons.2 ⟨?_, List.forall_mem_cons.2 ⟨?_, List.forall_mem_cons.2 ⟨?_, List.forall_mem_cons.2 ⟨?_, List.forall_mem_cons.2 ⟨?_, List.forall_mem_cons.2 ⟨?_, List.forall_mem_cons.2 ⟨?_, List.forall_mem_cons.2 ⟨?_, List.forall_mem_cons.2 ⟨?_, List.forall_mem_cons.2 ⟨?_, List.forall_mem_cons.2 ⟨?_, List.forall_mem_cons.2 ⟨?_, List.forall_mem_cons.2 ⟨?_, List.forall_mem_cons.2 ⟨?_, List.forall_mem_cons.2 ⟨?_, List.forall_mem_cons.2 ⟨?_, fun _ h => by cases h⟩⟩⟩⟩⟩⟩⟩⟩⟩⟩⟩⟩⟩⟩⟩⟩⟩⟩⟩⟩⟩
    · intro oo hop LL xx ac sg hwant
      cases Option.some.inj hop
      exact absurd ((want_f rfl rfl (sg.slot 11 (sg.anc 11 rfl))).symm.trans hwant) (by decide)
    · intro oo hop LL xx ac sg hwant
      cases Option.some.inj hop
      exact absurd ((want_f rfl rfl (sg.slot 11 (sg.anc 11 rfl))).symm.trans hwant) (by decide)
    · intro oo hop LL xx ac sg hwant
      cases Option.some.inj hop
      exact absurd ((want_f rfl rfl (sg.slot 11 (sg.anc 11 rfl))).symm.trans hwant) (by decide)
    · intro oo hop LL xx ac sg hwant
      cases Option.some.inj hop
      exact absurd ((want_f rfl rfl (sg.slot 11 (sg.anc 11 rfl))).symm.trans hwant) (by decide)
    · intro oo hop LL xx ac sg hwant
      cases Option.some.inj hop
      exact absurd ((want_f rfl rfl (sg.slot 11 (sg.anc 11 rfl))).symm.trans hwant) (by decide)
    · intro oo hop LL xx ac sg hwant
      cases Option.some.inj hop
      exact absurd ((want_f rfl rfl (sg.slot 11 (sg.anc 11 rfl))).symm.trans hwant) (by decide)
    · intro oo hop LL xx ac sg hwant
      cases Option.some.inj hop
      exact absurd ((want_f rfl rfl (sg.slot 11 (sg.anc 11 rfl))).symm.trans hwant) (by decide)
    · intro oo hop LL xx ac sg hwant
      cases Option.some.inj hop
      exact absurd ((want_f rfl rfl (sg.slot 11 (sg.anc 11 rfl))).symm.trans hwant) (by decide)
    · intro oo hop LL xx ac sg hwant
      cases Option.some.inj hop
      exact absurd ((want_f rfl rfl (sg.slot 11 (sg.anc 11 rfl))).symm.trans hwant) (by decide)
    · intro oo hop LL xx ac sg hwant
      cases Option.some.inj hop
      exact absurd ((want_f rfl rfl (sg.slot 11 (sg.anc 11 rfl))).symm.trans hwant) (by decide)
    · intro oo hop LL xx ac sg hwant
      cases Option.some.inj hop
      exact absurd ((want_f rfl rfl (sg.slot 11 (sg.anc 11 rfl))).symm.trans hwant) (by decide)
    · intro oo hop LL xx ac sg hwant
      cases Option.some.inj hop
      exact absurd ((want_f rfl rfl (sg.slot 24 (sg.anc 24 rfl))).symm.trans hwant) (by decide)
    · intro oo hop LL xx ac sg hwant
      cases Option.some.inj hop
      exact absurd ((want_f rfl rfl (sg.slot 24 (sg.anc 24 rfl))).symm.trans hwant) (by decide)
    · intro oo hop LL xx ac sg hwant
      cases Option.some.inj hop
      exact absurd ((want_f rfl rfl (sg.slot 24 (sg.anc 24 rfl))).symm.trans hwant) (by decide)
    · intro oo hop LL xx ac sg hwant
      cases Option.some.inj hop
      exact absurd ((want_f rfl rfl (sg.slot 24 (sg.anc 24 rfl))).symm.trans hwant) (by decide)
    · intro oo hop LL xx ac sg hwant
      cases Option.some.inj hop
      exact absurd ((want_f rfl rfl (sg.slot 24 (sg.anc 24 rfl))).symm.trans hwant) (by decide)
    · intro oo hop LL xx ac sg hwant
      cases Option.some.inj hop
      exact absurd ((want_f rfl rfl (sg.slot 24 (sg.anc 24 rfl))).symm.trans hwant) (by decide)
    · intro oo hop LL xx ac sg hwant
      cases Option.some.inj hop
      exact absurd ((want_f rfl rfl (sg.slot 24 (sg.anc 24 rfl))).symm.trans hwant) (by decide)
    · intro oo hop LL xx ac sg hwant
      cases Option.some.inj hop
      exact absurd ((want_f rfl rfl (sg.slot 24 (sg.anc 24 rfl))).symm.trans hwant) (by decide)
    · intro oo hop LL xx ac sg hwant
      cases Option.some.inj hop
      exact absurd ((want_f rfl rfl (sg.slot 24 (sg.anc 24 rfl))).symm.trans hwant) (by decide)
    · intro oo hop LL xx ac sg hwant
      cases Option.some.inj hop
      exact absurd ((want_f rfl rfl (sg.slot 24 (sg.anc 24 rfl))).symm.trans hwant) (by decide)
  · intro xx ac1 wz hfr hsl hst
    exact hfin ac1 wz (hfr.size.trans hz) hfr.defers (fr_keep hfr [37, 38, 39, 40, 41, 42, 43, 44, 45, 46, 47, 48, 49, 50, 51, 52, 53, 54, 55, 56, 57, 58, 59, 60, 61, 62, 63, 64, 65, 66, 67, 68, 69, 70, 71, 72] (by kernel_rfl)) (hsl 35 (by decide)) (Lib.hid hst)
set_option maxRecDepth 20000 in
theorem alikeC_r7 (room : Int) (a : Option Addr) (c : Nat) (lc : Nat) (l : List PairV) (hl : l.length ≤ 1000000) (b2 : Nat) (c1_1 : Nat) (c2_1 : Nat) (i : Nat) (hi : i ≤ l.length) (z1d : i < l.length) (y1 : Addr) (y2 : Addr) (y3 : Addr) {wa wb : World} (H : Hid (Hp [] wa wb [rS (some y2) c2_1 1 (l.map keyRow), rS (some y1) c1_1 2 (l.map rowOf), rB b2 43 [.int .i64 room, .slice a l.length c], rS (some y3) lc 2 (l.map rowOf), rS a c 2 (l.map rowOf)])) (ac0 : Act) (hz : ac0.tmps.size = 73) (so7 : ac0.eval (.tmp 7) = .int .i64 i) {QR : Exit → Act → World → Prop} (hfin : ∀ (ac1 : Act) (wz : World), ac1.tmps.size = 73 → ac1.defers = ac0.defers → (∀ t, ([7, 35, 36] : List Nat).contains t = false → ac1.eval (.tmp t) = ac0.eval (.tmp t)) → ac1.eval (.tmp 7) = .int .i64 (i + 1) →  Hid (Hp [] wa wz [rS (some y2) c2_1 1 (l.map keyRow), rS (some y1) c1_1 2 (l.map rowOf), rB b2 43 [.int .i64 room, .slice a l.length c], rS (some y3) lc 2 (l.map rowOf), rS a c 2 (l.map rowOf)]) → QR .normal ac1 wz) : (regAt Try.f42 7).wp Try.prog QR ac0 wb := by
  refine wp_region_sq (by kernel_rfl) 73 hz (by kernel_rfl) (fun (xx : Unit) jx => nth [.int .i64 i, .int .i64 (i + 1), .int .i64 (i + 1)] jx) (fun (LL : Nat → Bool) (xx : Unit) ww => Hp [] wa ww [rS (some y2) c2_1 1 (l.map keyRow), rS (some y1) c1_1 2 (l.map rowOf), rB b2 43 [.int .i64 room, .slice a l.length c], rS (some y3) lc 2 (l.map rowOf), rS a c 2 (l.map rowOf)]) () H.out ?_ (steps_al ?_) ?_ ?_
  · exact fun _ _ _ _ _ h => h
  · refine al_cons ?_ (al_cons ?_ (al_cons ?_ (al_nil)))
    · intro LL xx ac wc sg hst hwant QQ hgo
      exact op_val hwant hgo hst _ (exec_move rfl ((sg.yet 7 2 (sg.des 2 rfl) (by kernel_rfl)).trans so7)) rfl
    · intro LL xx ac wc sg hst hwant QQ hgo
      have se35 : ac.eval (.tmp 35) = _ := (sg.slot 0 (sg.anc 0 rfl))
      have sg35 := gt_of se35
      (try simp only [nth] at se35 sg35)
      have hnw : IntKind.i64.wrap (i + 1 : Int) = i + 1 := IntWalk.i64_in _ (by omega)
      exact op_val hwant hgo hst _ (by simp only [execOp, nth]; go_simp <;> omega) rfl
    · intro LL xx ac wc sg hst hwant QQ hgo
      exact op_val hwant hgo hst _ (exec_assign rfl (sg.slot 1 (sg.anc 1 rfl))) rfl
  · exact skips [] (by kernel_rfl) (fun _ h => by cases h)
  · intro xx ac1 wz hfr hsl hst
    exact hfin ac1 wz (hfr.size.trans hz) hfr.defers (fr_keep hfr [7, 35, 36] (by kernel_rfl)) (hsl 2 (by decide)) (Lib.hid hst)
set_option maxRecDepth 20000 in
theorem alikeC_r10 (room : Int) (a : Option Addr) (c : Nat) (la : Option Addr) (lc : Nat) (l : List PairV) (hl : l.length ≤ 1000000) (b2 : Nat) (a1_1 : Option Addr) (c1_1 : Nat) (a2_1 : Option Addr) (c2_1 : Nat) (i : Nat) (hi : i ≤ l.length) (z1d : ¬ (i < l.length)) {wa wb : World} (H : Hid (Hp [] wa wb [rS a2_1 c2_1 1 (l.map keyRow), rS a1_1 c1_1 2 (l.map rowOf), rB b2 43 [.int .i64 room, .slice a l.length c], rS la lc 2 (l.map rowOf), rS a c 2 (l.map rowOf)])) (ac0 : Act) (hz : ac0.tmps.size = 73)  {QR : Exit → Act → World → Prop} (hfin : ∀ (ac1 : Act) (wz : World), ac1.tmps.size = 73 → ac1.defers = ac0.defers → (∀ t, ([4] : List Nat).contains t = false → ac1.eval (.tmp t) = ac0.eval (.tmp t)) → ac1.eval (.tmp 4) = .bool true →  Hid (Hp [] wa wz [rS a2_1 c2_1 1 (l.map keyRow), rS a1_1 c1_1 2 (l.map rowOf), rB b2 43 [.int .i64 room, .slice a l.length c], rS la lc 2 (l.map rowOf), rS a c 2 (l.map rowOf)]) → QR .normal ac1 wz) : (regAt Try.f42 10).wp Try.prog QR ac0 wb := by
  refine wp_region_sq (by kernel_rfl) 73 hz (by kernel_rfl) (fun (xx : Unit) jx => nth [.bool true] jx) (fun (LL : Nat → Bool) (xx : Unit) ww => Hp [] wa ww [rS a2_1 c2_1 1 (l.map keyRow), rS a1_1 c1_1 2 (l.map rowOf), rB b2 43 [.int .i64 room, .slice a l.length c], rS la lc 2 (l.map rowOf), rS a c 2 (l.map rowOf)]) () H.out ?_ (steps_al ?_) ?_ ?_
  · exact fun _ _ _ _ _ h => h
  · refine al_cons ?_ (al_nil)
    · intro LL xx ac wc sg hst hwant QQ hgo
      exact op_val hwant hgo hst _ (exec_assign rfl rfl) rfl
  · exact skips [] (by kernel_rfl) (fun _ h => by cases h)
  · intro xx ac1 wz hfr hsl hst
    exact hfin ac1 wz (hfr.size.trans hz) hfr.defers (fr_keep hfr [4] (by kernel_rfl)) (hsl 0 (by decide)) (Lib.hid hst)
set_option maxRecDepth 20000 in
theorem alikeC (room : Int) (a : Option Addr) (c : Nat) (la : Option Addr) (lc : Nat) (l : List PairV) (w : World) (h : (rS a c 2 (l.map rowOf)).holds w) (h2 : (rS la lc 2 (l.map rowOf)).holds w) (hl : l.length ≤ 1000000) : Calls Try.prog 42 #[.agg #[.int .i64 room, .slice a l.length c], .slice la l.length lc] w fun e w' => e = .returned (.bool true) ∧ Off [] w w' := by
  have H := Lib.hid (Hp.start [] w)
  have H := hp_old H h (by decide)
  have H := hp_old H h2 (by decide)
  clear h h2
  refine calls_start Try.func42 rfl 73 rfl (by simp) (fun aa nn dd sl => ?_)
  have ss0 : aa.eval (.tmp 0) = .agg #[.int .i64 room, .slice a l.length c] := sl 0 (by simp)
  have ss1 : aa.eval (.tmp 1) = .slice la l.length lc := sl 1 (by simp)
  clear sl
  refine wp_seq_k fun KK1 hK1 => ?_
  refine alikeC_r0 room a c la lc l hl H aa nn ss0 ?_
  clear H nn
  intro b2 aa ww nn dd1 kp ss2 ss4 H
  replace ss0 := (kp 0 rfl).trans ss0
  replace ss1 := (kp 1 rfl).trans ss1
  replace dd := dd1.trans dd
  clear dd1 kp
  refine then_normal ?_
  refine hK1 _ _ ?_
  refine wp_seq_k fun KK2 hK2 => ?_
  refine alikeC_r1 room a c la lc l hl b2 H aa nn ss2 ?_
  clear H nn
  intro a1_1 c1_1 aa ww nn dd1 kp ss5 H
  replace ss0 := (kp 0 rfl).trans ss0
  replace ss1 := (kp 1 rfl).trans ss1
  replace ss2 := (kp 2 rfl).trans ss2
  replace ss4 := (kp 4 rfl).trans ss4
  replace dd := dd1.trans dd
  clear dd1 kp
  refine then_normal ?_
  refine hK2 _ _ ?_
  refine wp_seq_k fun KK3 hK3 => ?_
  refine alikeC_r2 room a c la lc l hl b2 a1_1 c1_1 H aa nn ss2 ?_
  clear H nn
  intro a2_1 c2_1 aa ww nn dd1 kp ss6 H
  replace ss0 := (kp 0 rfl).trans ss0
  replace ss1 := (kp 1 rfl).trans ss1
  replace ss2 := (kp 2 rfl).trans ss2
  replace ss4 := (kp 4 rfl).trans ss4
  replace ss5 := (kp 5 rfl).trans ss5
  replace dd := dd1.trans dd
  clear dd1 kp
  refine then_normal ?_
  refine hK3 _ _ ?_
  refine wp_seq_k fun KK4 hK4 => ?_
  refine wp_seq_k fun KK5 hK5 => ?_
  refine alikeC_r3 room a c la lc l hl b2 a1_1 c1_1 a2_1 c2_1 H aa nn ss1 ss2 ss5 ss6 ?_
  clear H nn
  intro aa ww nn dd1 kp ss30 H
  replace ss0 := (kp 0 rfl).trans ss0
  replace ss1 := (kp 1 rfl).trans ss1
  replace ss2 := (kp 2 rfl).trans ss2
  replace ss4 := (kp 4 rfl).trans ss4
  replace ss5 := (kp 5 rfl).trans ss5
  replace ss6 := (kp 6 rfl).trans ss6
  replace dd := dd1.trans dd
  clear dd1 kp
  refine then_normal ?_
  refine hK5 _ _ ?_
  refine wp_cond_false ss30 ?_
  refine wp_skip ?_
  refine then_normal ?_
  refine hK4 _ _ ?_
  refine wp_seq_k fun KK6 hK6 => ?_
  refine wp_seq_k fun KK7 hK7 => ?_
  refine alikeC_r5 room a c la lc l hl b2 a1_1 c1_1 a2_1 c2_1 H aa nn  ?_
  clear H nn
  intro aa ww nn dd1 kp ss7 H
  replace ss0 := (kp 0 rfl).trans ss0
  replace ss1 := (kp 1 rfl).trans ss1
  replace ss2 := (kp 2 rfl).trans ss2
  replace ss4 := (kp 4 rfl).trans ss4
  replace ss5 := (kp 5 rfl).trans ss5
  replace ss6 := (kp 6 rfl).trans ss6
  replace ss30 := (kp 30 rfl).trans ss30
  replace dd := dd1.trans dd
  clear dd1 kp
  refine then_normal ?_
  refine hK7 _ _ ?_
  refine wp_block ?_
  refine wp_loop (fun ab wv => ∃ i : Nat, i ≤ l.length ∧ ab.tmps.size = 73 ∧ ab.defers = [] ∧ ab.eval (.tmp 0) = .agg #[.int .i64 room, .slice a l.length c] ∧ ab.eval (.tmp 1) = .slice la l.length lc ∧ ab.eval (.tmp 2) = .pointer (some ⟨b2, 0, none⟩) ∧ ab.eval (.tmp 5) = .slice a1_1 l.length c1_1 ∧ ab.eval (.tmp 6) = .slice a2_1 l.length c2_1 ∧ ab.eval (.tmp 7) = .int .i64 i ∧ ab.eval (.tmp 30) = .bool false ∧ Hid (Hp [] w wv [rS a2_1 c2_1 1 (l.map keyRow), rS a1_1 c1_1 2 (l.map rowOf), rB b2 43 [.int .i64 room, .slice a l.length c], rS la lc 2 (l.map rowOf), rS a c 2 (l.map rowOf)])) (fun ab _ => l.length - (intOf (ab.eval (.tmp 7))).toNat) ⟨0, (Nat.zero_le _), nn, dd, ss0, ss1, ss2, ss5, ss6, ss7, ss30, H⟩ (fun aa wv hI => ?_)
  clear H nn dd ss0 ss1 ss2 ss4 ss5 ss6 ss7 ss30
  obtain ⟨i, hi, nn, dd, ss0, ss1, ss2, ss5, ss6, ss7, ss30, H⟩ := hI
  have mu1_7 := ss7
  refine wp_seq_k fun KK8 hK8 => ?_
  refine wp_seq_k fun KK9 hK9 => ?_
  refine alikeC_r6 room a c la lc l hl b2 a1_1 c1_1 a2_1 c2_1 i hi H aa nn ss1 ss7 ?_
  clear H nn
  intro aa ww nn dd1 kp ss34 H
  replace ss0 := (kp 0 rfl).trans ss0
  replace ss1 := (kp 1 rfl).trans ss1
  replace ss2 := (kp 2 rfl).trans ss2
  replace ss5 := (kp 5 rfl).trans ss5
  replace ss6 := (kp 6 rfl).trans ss6
  replace ss7 := (kp 7 rfl).trans ss7
  replace ss30 := (kp 30 rfl).trans ss30
  replace dd := dd1.trans dd
  clear dd1 kp
  refine then_normal ?_
  refine hK9 _ _ ?_
  refine wp_cond_split ss34 (fun z1 => ?_) (fun z1 => ?_)
  · skip
    have z1d : i < l.length := of_decide_eq_true z1
    obtain ⟨y1, rfl⟩ := some_of_row (hp_held H (show rS a1_1 c1_1 2 (l.map rowOf) ∈ _ by simp)) (i := i) (by simp; omega)
    obtain ⟨y2, rfl⟩ := some_of_row (hp_held H (show rS a2_1 c2_1 1 (l.map keyRow) ∈ _ by simp)) (i := i) (by simp; omega)
    obtain ⟨y3, rfl⟩ := some_of_row (hp_held H (show rS la lc 2 (l.map rowOf) ∈ _ by simp)) (i := i) (by simp; omega)
    obtain ⟨x, hx⟩ : ∃ x, l[i]? = some x := ⟨l[i], List.getElem?_eq_getElem (by omega)⟩
    have HR := Lib.hid (show (l.map rowOf)[i]? = some [.string x.1, .int .i64 x.2] by rw [List.getElem?_map, hx]; rfl)
    have HK := Lib.hid (show (l.map keyRow)[i]? = some [.string x.1] by rw [List.getElem?_map, hx]; rfl)
    clear hx
    refine wp_skip ?_
    refine then_normal ?_
    refine hK8 _ _ ?_
    refine wp_seq_k fun KK10 hK10 => ?_
    refine wp_block ?_
    refine wp_seq_k fun KK11 hK11 => ?_
    refine alikeC_r8 room a c lc l hl b2 c1_1 c2_1 i hi z1d y1 y2 y3 x HR HK H aa nn ss1 ss5 ss6 ss7 ?_
    clear H nn
    intro aa ww nn dd1 kp ss72 H
    replace ss0 := (kp 0 rfl).trans ss0
    replace ss1 := (kp 1 rfl).trans ss1
    replace ss2 := (kp 2 rfl).trans ss2
    replace ss5 := (kp 5 rfl).trans ss5
    replace ss6 := (kp 6 rfl).trans ss6
    replace ss7 := (kp 7 rfl).trans ss7
    replace ss30 := (kp 30 rfl).trans ss30
    replace ss34 := (kp 34 rfl).trans ss34
    replace dd := dd1.trans dd
    clear dd1 kp
    refine then_normal ?_
    refine hK11 _ _ ?_
    refine wp_cond_false ss72 ?_
    refine wp_skip ?_
    refine block_normal ?_
    refine then_normal ?_
    refine hK10 _ _ ?_
    refine alikeC_r7 room a c lc l hl b2 c1_1 c2_1 i hi z1d y1 y2 y3 H aa nn ss7 ?_
    clear H nn ss7
    intro aa ww nn dd1 kp ss7 H
    replace ss0 := (kp 0 rfl).trans ss0
    replace ss1 := (kp 1 rfl).trans ss1
    replace ss2 := (kp 2 rfl).trans ss2
    replace ss5 := (kp 5 rfl).trans ss5
    replace ss6 := (kp 6 rfl).trans ss6
    replace ss30 := (kp 30 rfl).trans ss30
    replace ss34 := (kp 34 rfl).trans ss34
    replace ss72 := (kp 72 rfl).trans ss72
    replace dd := dd1.trans dd
    clear dd1 kp
    refine then_normal ?_
    refine ⟨⟨i + 1, (by omega), nn, dd, ss0, ss1, ss2, ss5, ss6, ss7, ss30, (Lib.hid (H.out.sub (by repeat (first | exact List.Sublist.refl _ | apply List.Sublist.cons₂ | apply List.Sublist.cons))))⟩, ?_⟩
    simp only [mu1_7, ss7, intOf]
    omega
  · skip
    have z1d : ¬ (i < l.length) := of_decide_eq_false z1
    refine wp_exit ?_
    refine then_exit ?_
    refine then_exit ?_
    refine block_exit ?_
    refine then_normal ?_
    refine hK6 _ _ ?_
    refine wp_seq_k fun KK12 hK12 => ?_
    refine alikeC_r10 room a c la lc l hl b2 a1_1 c1_1 a2_1 c2_1 i hi z1d H aa nn  ?_
    clear H nn
    intro aa ww nn dd1 kp ss4 H
    replace ss0 := (kp 0 rfl).trans ss0
    replace ss1 := (kp 1 rfl).trans ss1
    replace ss2 := (kp 2 rfl).trans ss2
    replace ss5 := (kp 5 rfl).trans ss5
    replace ss6 := (kp 6 rfl).trans ss6
    replace ss7 := (kp 7 rfl).trans ss7
    replace ss30 := (kp 30 rfl).trans ss30
    replace ss34 := (kp 34 rfl).trans ss34
    replace dd := dd1.trans dd
    clear dd1 kp
    refine then_normal ?_
    refine hK12 _ _ ?_
    refine wp_ret ?_
    exact ret1 rfl dd ss4 ⟨rfl, H.out.off⟩
end Go.Proofs.Ytfhhfmkfkoemjaa.Si6
