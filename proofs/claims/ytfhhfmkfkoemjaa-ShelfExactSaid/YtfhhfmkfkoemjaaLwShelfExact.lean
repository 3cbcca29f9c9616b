/- Every room and row of deeds: the walk. -/
import Derived.Test.YtfhhfmkfkoemjaaProg
import Derived.Below
import Derived.WalkKit
import Derived.KernelRfl
import Derived.RowKit3
import Derived.Deep.LoopGhost
import Derived.Deep.QuietTactic
import Derived.BigQuiet
import Derived.WideLaws
import Derived.Deep.DeepCutAuto
import Derived.Deep.CutBlock
import Derived.Lib.Hide
import Derived.Laws.BitsLemmas
import Derived.Laws.Bits64
import Derived.Laws.BitsAllLaws
import Derived.IntWalk
import Derived.Outline
import Derived.WalkSpells
import Derived.Test.YtfhhfmkfkoemjaaMem
import Derived.Test.YtfhhfmkfkoemjaaLwShelfExactb
namespace Go.Proofs.Ytfhhfmkfkoemjaa.Si6
open Go.RowKit Go.Proofs.Ytfhhfmkfkoemjaa.Mem Go.Proofs.Ytfhhfmkfkoemjaa.Reg
set_option linter.unusedVariables false
set_option linter.unusedSimpArgs false

set_option maxRecDepth 20000 in
theorem exact6_w_r30x2 (n : Int) (rc : Nat) (acts : List ActV) (b5 : Nat) (i : Nat) (a : Option Addr) (cc : Nat) (la : Option Addr) (lc : Nat) (l : List PairV) (hi : i ≤ acts.length) (hi2 : i ≤ 100) (hll : l.length ≤ i) (z1ld : i < acts.length) (z1rd : (i : Int) < 100) (y : Addr) (x : ActV) (b9 : Nat) (z2d : ¬ (10 < (x.key.size : Int))) (a29_3 : Option Addr) (c29_3 : Nat) {wa wb : World} (H : Hid (Hp [] wa wb [rS a29_3 c29_3 2 ((l.filter (keepN x.key)).map rowOf), rB b9 67 [.int .i64 x.kind, .string x.key, .int .i64 x.val], rS la lc 2 (l.map rowOf), rB b5 43 [.int .i64 (kR n), .slice a29_3 ((l.filter (keepN x.key)).length) c29_3], rS a cc 2 (l.map rowOf), rS (some y) rc 3 (acts.map actRow)])) (ac0 : Act) (hz : ac0.tmps.size = 143) (so7 : ac0.eval (.tmp 7) = .slice la l.length lc) (so9 : ac0.eval (.tmp 9) = .pointer (some ⟨b9, 0, none⟩)) {QR : Exit → Act → World → Prop} (hfin : ∀ (a30_3 : Option Addr) (c30_3 : Nat) (ac1 : Act) (wz : World), ac1.tmps.size = 143 → ac1.defers = ac0.defers → (∀ t, ([7, 108, 109, 110, 111] : List Nat).contains t = false → ac1.eval (.tmp t) = ac0.eval (.tmp t)) → ac1.eval (.tmp 7) = .slice a30_3 ((l.filter (keepN x.key)).length) c30_3 →  Hid (Hp [] wa wz [rS a30_3 c30_3 2 ((l.filter (keepN x.key)).map rowOf), rS a29_3 c29_3 2 ((l.filter (keepN x.key)).map rowOf), rB b9 67 [.int .i64 x.kind, .string x.key, .int .i64 x.val], rS la lc 2 (l.map rowOf), rB b5 43 [.int .i64 (kR n), .slice a29_3 ((l.filter (keepN x.key)).length) c29_3], rS a cc 2 (l.map rowOf), rS (some y) rc 3 (acts.map actRow)]) → QR .normal ac1 wz) : (regAt Try.f8 30).wp Try.prog QR ac0 wb := by
  refine wp_region_sq (by kernel_rfl) 143 hz (by kernel_rfl) (fun (xx : Option Addr × Nat) jx => match xx with | (a30_3, c30_3) => nth [.slice la l.length lc, .pointer (some ⟨b9, 1, none⟩), .string x.key, .slice a30_3 ((l.filter (keepN x.key)).length) c30_3, .slice a30_3 ((l.filter (keepN x.key)).length) c30_3] jx) (fun (LL : Nat → Bool) (xx : Option Addr × Nat) ww => match xx with | (a30_3, c30_3) => Hp [] wa ww (bif LL 3 then [rS a30_3 c30_3 2 ((l.filter (keepN x.key)).map rowOf), rS a29_3 c29_3 2 ((l.filter (keepN x.key)).map rowOf), rB b9 67 [.int .i64 x.kind, .string x.key, .int .i64 x.val], rS la lc 2 (l.map rowOf), rB b5 43 [.int .i64 (kR n), .slice a29_3 ((l.filter (keepN x.key)).length) c29_3], rS a cc 2 (l.map rowOf), rS (some y) rc 3 (acts.map actRow)] else [rS a29_3 c29_3 2 ((l.filter (keepN x.key)).map rowOf), rB b9 67 [.int .i64 x.kind, .string x.key, .int .i64 x.val], rS la lc 2 (l.map rowOf), rB b5 43 [.int .i64 (kR n), .slice a29_3 ((l.filter (keepN x.key)).length) c29_3], rS a cc 2 (l.map rowOf), rS (some y) rc 3 (acts.map actRow)])) (default, default) H.out ?_ (steps_al ?_) ?_ ?_
  · intro L1 L2 xx ww hL sg
    have lh3 := hL 3 (by decide)
    simp only [lh3] at sg
    exact sg
  · refine al_cons ?_ (al_cons ?_ (al_cons ?_ (al_cons ?_ (al_cons ?_ (al_nil)))))
    · intro LL xx ac wc sg hst hwant QQ hgo
      obtain ⟨a30_3, c30_3⟩ := xx
      exact op_val hwant hgo hst _ (exec_move rfl ((sg.yet 7 4 (sg.des 4 rfl) (by kernel_rfl)).trans so7)) rfl
    · intro LL xx ac wc sg hst hwant QQ hgo
      obtain ⟨a30_3, c30_3⟩ := xx
      have se9 : ac.eval (.tmp 9) = _ := ((sg.free 9 (by kernel_rfl)).trans so9)
      have sg9 := gt_of se9
      exact op_val hwant hgo hst _ (by simp only [execOp, nth]; go_simp <;> omega) rfl
    · intro LL xx ac wc sg hst hwant QQ hgo
      obtain ⟨a30_3, c30_3⟩ := xx
      have H := Lib.hid hst
      simp only [sg.des 3 rfl, cond_true, cond_false] at H
      refine hpA_load1 tystring H rfl (sg.slot 1 (sg.anc 1 rfl)) hwant (by (repeat (first | exact List.Mem.head _ | apply List.Mem.tail))) (by rfl) ?_
      exact hgo _ (a30_3, c30_3) _ (fun _ _ => rfl) rfl hst
    · intro LL xx ac wc sg hst hwant QQ hgo
      obtain ⟨_, _⟩ := xx
      have se108 : ac.eval (.tmp 108) = _ := (sg.slot 0 (sg.anc 0 rfl))
      have sg108 := gt_of se108
      have se110 : ac.eval (.tmp 110) = _ := (sg.slot 2 (sg.anc 2 rfl))
      have sg110 := gt_of se110
      (try simp only [nth] at se108 sg108 se110 sg110)
      have H := Lib.hid hst
      simp only [sg.self, cond_true, cond_false] at H
      refine op_call hwant hgo 39 _ (by simp only [execOp]; go_simp) (withoutRS la lc l x.key wc (hp_held H (show rS la lc 2 (l.map rowOf) ∈ _ by (repeat (first | exact List.Mem.head _ | apply List.Mem.tail)))) (by omega)) ?_
      rintro er wd ⟨a30_3, c30_3, rfl, hgv⟩
      have H2 := hp_got H hgv.2.2 hgv.1 (by decide) hgv.2.1 (by simp)
      exact ⟨_, (a30_3, c30_3), rfl, (sg.agree (x' := (a30_3, c30_3)) (n := 5) rfl (by (iterate 5 (refine ix_cons (by first | exact fun _ => rfl | exact no sg.self | exact no (sg.des _ rfl)) ?_)); exact ix_nil)), rfl, (by simp only [(show upd LL 3 3 = true from rfl), cond_true, cond_false]; exact H2.out)⟩
    · intro LL xx ac wc sg hst hwant QQ hgo
      obtain ⟨a30_3, c30_3⟩ := xx
      exact op_val hwant hgo hst _ (exec_assign rfl (sg.slot 3 (sg.anc 3 rfl))) rfl
  · exact skips [] (by kernel_rfl) (fun _ h => by cases h)
  · intro xx ac1 wz hfr hsl hst
    obtain ⟨a30_3, c30_3⟩ := xx
    exact hfin a30_3 c30_3 ac1 wz (hfr.size.trans hz) hfr.defers (fr_keep hfr [7, 108, 109, 110, 111] (by kernel_rfl)) (hsl 4 (by decide)) (Lib.hid hst)
set_option maxRecDepth 20000 in
theorem exact6_w_r35x12 (n : Int) (rc : Nat) (acts : List ActV) (b5 : Nat) (i : Nat) (a : Option Addr) (cc : Nat) (la : Option Addr) (lc : Nat) (l : List PairV) (hi : i ≤ acts.length) (hi2 : i ≤ 100) (hll : l.length ≤ i) (z1ld : i < acts.length) (z1rd : (i : Int) < 100) (y : Addr) (x : ActV) (b9 : Nat) (z2d : ¬ (10 < (x.key.size : Int))) (a29_3 : Option Addr) (c29_3 : Nat) (a30_3 : Option Addr) (c30_3 : Nat) {wa wb : World} (H : Hid (Hp [] wa wb [rS a30_3 c30_3 2 ((l.filter (keepN x.key)).map rowOf), rS a29_3 c29_3 2 ((l.filter (keepN x.key)).map rowOf), rB b9 67 [.int .i64 x.kind, .string x.key, .int .i64 x.val], rS la lc 2 (l.map rowOf), rB b5 43 [.int .i64 (kR n), .slice a29_3 ((l.filter (keepN x.key)).length) c29_3], rS a cc 2 (l.map rowOf), rS (some y) rc 3 (acts.map actRow)])) (ac0 : Act) (hz : ac0.tmps.size = 143) (so5 : ac0.eval (.tmp 5) = .pointer (some ⟨b5, 0, none⟩)) (so6 : ac0.eval (.tmp 6) = .int .i64 (kR n)) (so7 : ac0.eval (.tmp 7) = .slice a30_3 ((l.filter (keepN x.key)).length) c30_3) {QR : Exit → Act → World → Prop} (hfin : ∀ (ac1 : Act) (wz : World), ac1.tmps.size = 143 → ac1.defers = ac0.defers → (∀ t, ([128, 129, 130, 131, 132, 133, 134, 135, 136, 137] : List Nat).contains t = false → ac1.eval (.tmp t) = ac0.eval (.tmp t)) → ac1.eval (.tmp 137) = .bool false →  Hid (Hp [] wa wz [rS a30_3 c30_3 2 ((l.filter (keepN x.key)).map rowOf), rS a29_3 c29_3 2 ((l.filter (keepN x.key)).map rowOf), rB b9 67 [.int .i64 x.kind, .string x.key, .int .i64 x.val], rS la lc 2 (l.map rowOf), rB b5 43 [.int .i64 (kR n), .slice a29_3 ((l.filter (keepN x.key)).length) c29_3], rS a cc 2 (l.map rowOf), rS (some y) rc 3 (acts.map actRow)]) → QR .normal ac1 wz) : (regAt Try.f8 35).wp Try.prog QR ac0 wb := by
  refine wp_region_sq (by kernel_rfl) 143 hz (by kernel_rfl) (fun (xx : Unit) jx => nth [.agg #[.int .i64 (kR n), .slice a29_3 ((l.filter (keepN x.key)).length) c29_3], .slice a30_3 ((l.filter (keepN x.key)).length) c30_3, .bool true, .bool false, .bool false, .agg #[.int .i64 (kR n), .slice a29_3 ((l.filter (keepN x.key)).length) c29_3], .int .i64 (kR n), .int .i64 (kR n), .bool false, .bool false] jx) (fun (LL : Nat → Bool) (xx : Unit) ww => Hp [] wa ww [rS a30_3 c30_3 2 ((l.filter (keepN x.key)).map rowOf), rS a29_3 c29_3 2 ((l.filter (keepN x.key)).map rowOf), rB b9 67 [.int .i64 x.kind, .string x.key, .int .i64 x.val], rS la lc 2 (l.map rowOf), rB b5 43 [.int .i64 (kR n), .slice a29_3 ((l.filter (keepN x.key)).length) c29_3], rS a cc 2 (l.map rowOf), rS (some y) rc 3 (acts.map actRow)]) () H.out ?_ (steps_al ?_) ?_ ?_
  · exact fun _ _ _ _ _ h => h
  · refine al_cons ?_ (al_cons ?_ (al_cons ?_ (al_cons ?_ (al_cons ?_ (al_cons ?_ (al_cons ?_ (al_cons ?_ (al_cons ?_ (al_cons ?_ (al_nil))))))))))
    · intro LL xx ac wc sg hst hwant QQ hgo
      have H := Lib.hid hst
      refine hpA_load tyshelf_Shelf_string__int_ H rfl ((sg.free 5 (by kernel_rfl)).trans so5) hwant (by (repeat (first | exact List.Mem.head _ | apply List.Mem.tail))) (by rfl) rfl ?_
      exact hgo _ () _ (fun _ _ => rfl) rfl hst
    · intro LL xx ac wc sg hst hwant QQ hgo
      exact op_val hwant hgo hst _ (exec_move rfl ((sg.free 7 (by kernel_rfl)).trans so7)) rfl
    · intro LL xx ac wc sg hst hwant QQ hgo
      have se128 : ac.eval (.tmp 128) = _ := (sg.slot 0 (sg.anc 0 rfl))
      have sg128 := gt_of se128
      have se129 : ac.eval (.tmp 129) = _ := (sg.slot 1 (sg.anc 1 rfl))
      have sg129 := gt_of se129
      (try simp only [nth] at se128 sg128 se129 sg129)
      have H := Lib.hid hst
      refine op_call hwant hgo 42 _ (by simp only [execOp]; go_simp) (alikeC (kR n) a29_3 c29_3 a30_3 c30_3 (l.filter (keepN x.key)) wc (hp_held H (show rS a29_3 c29_3 2 ((l.filter (keepN x.key)).map rowOf) ∈ _ by (repeat (first | exact List.Mem.head _ | apply List.Mem.tail)))) (hp_held H (show rS a30_3 c30_3 2 ((l.filter (keepN x.key)).map rowOf) ∈ _ by (repeat (first | exact List.Mem.head _ | apply List.Mem.tail)))) (Nat.le_trans (List.length_filter_le _ _) (by omega))) ?_
      rintro er wd ⟨rfl, hof⟩
      exact ⟨_, (), rfl, fun _ _ => rfl, rfl, Hp.quiet hst hof⟩
    · intro LL xx ac wc sg hst hwant QQ hgo
      have se130 : ac.eval (.tmp 130) = _ := (sg.slot 2 (sg.anc 2 rfl))
      have sg130 := gt_of se130
      (try simp only [nth] at se130 sg130)
      exact op_val hwant hgo hst _ (by simp only [execOp, nth]; go_simp <;> omega) rfl
    · intro LL xx ac wc sg hst hwant QQ hgo
      exact op_val hwant hgo hst _ (exec_move rfl (sg.slot 3 (sg.anc 3 rfl))) rfl
    · intro LL xx ac wc sg hst hwant QQ hgo
      have H := Lib.hid hst
      refine hpA_load tyshelf_Shelf_string__int_ H rfl ((sg.free 5 (by kernel_rfl)).trans so5) hwant (by (repeat (first | exact List.Mem.head _ | apply List.Mem.tail))) (by rfl) rfl ?_
      exact hgo _ () _ (fun _ _ => rfl) rfl hst
    · intro LL xx ac wc sg hst hwant QQ hgo
      have se133 : ac.eval (.tmp 133) = _ := (sg.slot 5 (sg.anc 5 rfl))
      have sg133 := gt_of se133
      (try simp only [nth] at se133 sg133)
      refine op_call hwant hgo 43 _ (by simp only [execOp]; go_simp) (roomC (kR n) (.slice a29_3 ((l.filter (keepN x.key)).length) c29_3) wc) ?_
      rintro er wd ⟨rfl, hof⟩
      exact ⟨_, (), rfl, fun _ _ => rfl, rfl, Hp.quiet hst hof⟩
    · intro LL xx ac wc sg hst hwant QQ hgo
      exact op_val hwant hgo hst _ (exec_move rfl ((sg.free 6 (by kernel_rfl)).trans so6)) rfl
    · intro LL xx ac wc sg hst hwant QQ hgo
      have se134 : ac.eval (.tmp 134) = _ := (sg.slot 6 (sg.anc 6 rfl))
      have sg134 := gt_of se134
      have se135 : ac.eval (.tmp 135) = _ := (sg.slot 7 (sg.anc 7 rfl))
      have sg135 := gt_of se135
      (try simp only [nth] at se134 sg134 se135 sg135)
      exact op_val hwant hgo hst _ (by simp only [execOp, nth]; go_simp <;> omega) rfl
    · intro LL xx ac wc sg hst hwant QQ hgo
      exact op_val hwant hgo hst (.bool false) (exec_pick (B := false) (U := undef) (V := .bool false) rfl (sg.slot 4 (sg.anc 4 rfl)) (fun h => by cases h) (fun _ => (sg.slot 8 (sg.anc 8 rfl)))) rfl
  · refine skips [5, 6, 7, 8] (by kernel_rfl) ?_
    refine List.forall_mem_cons.2 ⟨?_, List.forall_mem_cons.2 ⟨?_, List.forall_mem_cons.2 ⟨?_, List.forall_mem_cons.2 ⟨?_, fun _ h => by cases h⟩⟩⟩⟩
    · intro oo hop LL xx ac sg hwant
      cases Option.some.inj hop
      exact absurd ((want_f rfl rfl (sg.slot 4 (sg.anc 4 rfl))).symm.trans hwant) (by decide)
    · intro oo hop LL xx ac sg hwant
      cases Option.some.inj hop
      exact absurd ((want_f rfl rfl (sg.slot 4 (sg.anc 4 rfl))).symm.trans hwant) (by decide)
    · intro oo hop LL xx ac sg hwant
      cases Option.some.inj hop
      exact absurd ((want_f rfl rfl (sg.slot 4 (sg.anc 4 rfl))).symm.trans hwant) (by decide)
    · intro oo hop LL xx ac sg hwant
      cases Option.some.inj hop
      exact absurd ((want_f rfl rfl (sg.slot 4 (sg.anc 4 rfl))).symm.trans hwant) (by decide)
  · intro xx ac1 wz hfr hsl hst
    exact hfin ac1 wz (hfr.size.trans hz) hfr.defers (fr_keep hfr [128, 129, 130, 131, 132, 133, 134, 135, 136, 137] (by kernel_rfl)) (hsl 9 (by decide)) (Lib.hid hst)
set_option maxRecDepth 20000 in
theorem exact6_w_r10x12 (n : Int) (rc : Nat) (acts : List ActV) (b5 : Nat) (i : Nat) (a : Option Addr) (cc : Nat) (la : Option Addr) (lc : Nat) (l : List PairV) (hi : i ≤ acts.length) (hi2 : i ≤ 100) (hll : l.length ≤ i) (z1ld : i < acts.length) (z1rd : (i : Int) < 100) (y : Addr) (x : ActV) (b9 : Nat) (z2d : ¬ (10 < (x.key.size : Int))) (a29_3 : Option Addr) (c29_3 : Nat) (a30_3 : Option Addr) (c30_3 : Nat) {wa wb : World} (H : Hid (Hp [] wa wb [rS a30_3 c30_3 2 ((l.filter (keepN x.key)).map rowOf), rS a29_3 c29_3 2 ((l.filter (keepN x.key)).map rowOf), rB b9 67 [.int .i64 x.kind, .string x.key, .int .i64 x.val], rS la lc 2 (l.map rowOf), rB b5 43 [.int .i64 (kR n), .slice a29_3 ((l.filter (keepN x.key)).length) c29_3], rS a cc 2 (l.map rowOf), rS (some y) rc 3 (acts.map actRow)])) (ac0 : Act) (hz : ac0.tmps.size = 143) (so8 : ac0.eval (.tmp 8) = .int .i64 i) {QR : Exit → Act → World → Prop} (hfin : ∀ (ac1 : Act) (wz : World), ac1.tmps.size = 143 → ac1.defers = ac0.defers → (∀ t, ([8, 40, 41] : List Nat).contains t = false → ac1.eval (.tmp t) = ac0.eval (.tmp t)) → ac1.eval (.tmp 8) = .int .i64 (i + 1) →  Hid (Hp [] wa wz [rS a30_3 c30_3 2 ((l.filter (keepN x.key)).map rowOf), rS a29_3 c29_3 2 ((l.filter (keepN x.key)).map rowOf), rB b9 67 [.int .i64 x.kind, .string x.key, .int .i64 x.val], rS la lc 2 (l.map rowOf), rB b5 43 [.int .i64 (kR n), .slice a29_3 ((l.filter (keepN x.key)).length) c29_3], rS a cc 2 (l.map rowOf), rS (some y) rc 3 (acts.map actRow)]) → QR .normal ac1 wz) : (regAt Try.f8 10).wp Try.prog QR ac0 wb := by
  refine wp_region_sq (by kernel_rfl) 143 hz (by kernel_rfl) (fun (xx : Unit) jx => nth [.int .i64 i, .int .i64 (i + 1), .int .i64 (i + 1)] jx) (fun (LL : Nat → Bool) (xx : Unit) ww => Hp [] wa ww [rS a30_3 c30_3 2 ((l.filter (keepN x.key)).map rowOf), rS a29_3 c29_3 2 ((l.filter (keepN x.key)).map rowOf), rB b9 67 [.int .i64 x.kind, .string x.key, .int .i64 x.val], rS la lc 2 (l.map rowOf), rB b5 43 [.int .i64 (kR n), .slice a29_3 ((l.filter (keepN x.key)).length) c29_3], rS a cc 2 (l.map rowOf), rS (some y) rc 3 (acts.map actRow)]) () H.out ?_ (steps_al ?_) ?_ ?_
  · exact fun _ _ _ _ _ h => h
  · refine al_cons ?_ (al_cons ?_ (al_cons ?_ (al_nil)))
    · intro LL xx ac wc sg hst hwant QQ hgo
      exact op_val hwant hgo hst _ (exec_move rfl ((sg.yet 8 2 (sg.des 2 rfl) (by kernel_rfl)).trans so8)) rfl
    · intro LL xx ac wc sg hst hwant QQ hgo
      have se40 : ac.eval (.tmp 40) = _ := (sg.slot 0 (sg.anc 0 rfl))
      have sg40 := gt_of se40
      (try simp only [nth] at se40 sg40)
      have hnw : IntKind.i64.wrap (i + 1 : Int) = i + 1 := IntWalk.i64_in _ (by omega)
      exact op_val hwant hgo hst _ (by simp only [execOp, nth]; go_simp <;> omega) rfl
    · intro LL xx ac wc sg hst hwant QQ hgo
      exact op_val hwant hgo hst _ (exec_assign rfl (sg.slot 1 (sg.anc 1 rfl))) rfl
  · exact skips [] (by kernel_rfl) (fun _ h => by cases h)
  · intro xx ac1 wz hfr hsl hst
    exact hfin ac1 wz (hfr.size.trans hz) hfr.defers (fr_keep hfr [8, 40, 41] (by kernel_rfl)) (hsl 2 (by decide)) (Lib.hid hst)
set_option maxRecDepth 20000 in
theorem exact6_w_r31x2 (n : Int) (rc : Nat) (acts : List ActV) (b5 : Nat) (i : Nat) (a : Option Addr) (cc : Nat) (la : Option Addr) (lc : Nat) (l : List PairV) (hi : i ≤ acts.length) (hi2 : i ≤ 100) (hll : l.length ≤ i) (z1ld : i < acts.length) (z1rd : (i : Int) < 100) (y : Addr) (x : ActV) (b9 : Nat) (z2d : ¬ (10 < (x.key.size : Int))) {wa wb : World} (H : Hid (Hp [] wa wb [rB b9 67 [.int .i64 x.kind, .string x.key, .int .i64 x.val], rS la lc 2 (l.map rowOf), rB b5 43 [.int .i64 (kR n), .slice a l.length cc], rS a cc 2 (l.map rowOf), rS (some y) rc 3 (acts.map actRow)])) (ac0 : Act) (hz : ac0.tmps.size = 143) (so51 : ac0.eval (.tmp 51) = .int .i64 x.kind) {QR : Exit → Act → World → Prop} (hfin : ∀ (ac1 : Act) (wz : World), ac1.tmps.size = 143 → ac1.defers = ac0.defers → (∀ t, ([112, 113] : List Nat).contains t = false → ac1.eval (.tmp t) = ac0.eval (.tmp t)) → ac1.eval (.tmp 112) = .bool (x.kind == 5) →  Hid (Hp [] wa wz [rB b9 67 [.int .i64 x.kind, .string x.key, .int .i64 x.val], rS la lc 2 (l.map rowOf), rB b5 43 [.int .i64 (kR n), .slice a l.length cc], rS a cc 2 (l.map rowOf), rS (some y) rc 3 (acts.map actRow)]) → QR .normal ac1 wz) : (regAt Try.f8 31).wp Try.prog QR ac0 wb := by
  refine wp_region_sq (by kernel_rfl) 143 hz (by kernel_rfl) (fun (xx : Unit) jx => nth [.bool (x.kind == 5), .bool (x.kind == 5)] jx) (fun (LL : Nat → Bool) (xx : Unit) ww => Hp [] wa ww [rB b9 67 [.int .i64 x.kind, .string x.key, .int .i64 x.val], rS la lc 2 (l.map rowOf), rB b5 43 [.int .i64 (kR n), .slice a l.length cc], rS a cc 2 (l.map rowOf), rS (some y) rc 3 (acts.map actRow)]) () H.out ?_ (steps_al ?_) ?_ ?_
  · exact fun _ _ _ _ _ h => h
  · refine al_cons ?_ (al_cons ?_ (al_nil))
    · intro LL xx ac wc sg hst hwant QQ hgo
      have se51 : ac.eval (.tmp 51) = _ := ((sg.free 51 (by kernel_rfl)).trans so51)
      have sg51 := gt_of se51
      exact op_val hwant hgo hst _ (by simp only [execOp, nth]; go_simp <;> omega) rfl
    · intro LL xx ac wc sg hst hwant QQ hgo
      exact op_val hwant hgo hst _ (exec_assign rfl (sg.slot 0 (sg.anc 0 rfl))) rfl
  · exact skips [] (by kernel_rfl) (fun _ h => by cases h)
  · intro xx ac1 wz hfr hsl hst
    exact hfin ac1 wz (hfr.size.trans hz) hfr.defers (fr_keep hfr [112, 113] (by kernel_rfl)) (hsl 1 (by decide)) (Lib.hid hst)
set_option maxRecDepth 20000 in
theorem exact6_w_r32x2 (n : Int) (rc : Nat) (acts : List ActV) (b5 : Nat) (i : Nat) (a : Option Addr) (cc : Nat) (la : Option Addr) (lc : Nat) (l : List PairV) (hi : i ≤ acts.length) (hi2 : i ≤ 100) (hll : l.length ≤ i) (z1ld : i < acts.length) (z1rd : (i : Int) < 100) (y : Addr) (x : ActV) (b9 : Nat) (z2d : ¬ (10 < (x.key.size : Int))) (m : Nat) (hm1 : m < 3) (hm : IntKind.i64.wrap ((IntKind.u64.wrap x.val).tmod 3) = (m : Int)) {wa wb : World} (H : Hid (Hp [] wa wb [rB b9 67 [.int .i64 x.kind, .string x.key, .int .i64 x.val], rS la lc 2 (l.map rowOf), rB b5 43 [.int .i64 (kR n), .slice a l.length cc], rS a cc 2 (l.map rowOf), rS (some y) rc 3 (acts.map actRow)])) (ac0 : Act) (hz : ac0.tmps.size = 143) (so9 : ac0.eval (.tmp 9) = .pointer (some ⟨b9, 0, none⟩)) {QR : Exit → Act → World → Prop} (hfin : ∀ (ac1 : Act) (wz : World), ac1.tmps.size = 143 → ac1.defers = ac0.defers → (∀ t, ([14, 114, 115, 116, 117, 118, 119] : List Nat).contains t = false → ac1.eval (.tmp t) = ac0.eval (.tmp t)) → ac1.eval (.tmp 14) = .int .i64 (2 + m) →  Hid (Hp [] wa wz [rB b9 67 [.int .i64 x.kind, .string x.key, .int .i64 x.val], rS la lc 2 (l.map rowOf), rB b5 43 [.int .i64 (kR n), .slice a l.length cc], rS a cc 2 (l.map rowOf), rS (some y) rc 3 (acts.map actRow)]) → QR .normal ac1 wz) : (regAt Try.f8 32).wp Try.prog QR ac0 wb := by
  refine wp_region_sq (by kernel_rfl) 143 hz (by kernel_rfl) (fun (xx : Unit) jx => nth [.pointer (some ⟨b9, 2, none⟩), .int .i64 x.val, .int .u64 (IntKind.u64.wrap x.val), .int .u64 ((IntKind.u64.wrap x.val).tmod 3), .int .i64 m, .int .i64 (2 + m), .int .i64 (2 + m)] jx) (fun (LL : Nat → Bool) (xx : Unit) ww => Hp [] wa ww [rB b9 67 [.int .i64 x.kind, .string x.key, .int .i64 x.val], rS la lc 2 (l.map rowOf), rB b5 43 [.int .i64 (kR n), .slice a l.length cc], rS a cc 2 (l.map rowOf), rS (some y) rc 3 (acts.map actRow)]) () H.out ?_ (steps_al ?_) ?_ ?_
  · exact fun _ _ _ _ _ h => h
  · refine al_cons ?_ (al_cons ?_ (al_cons ?_ (al_cons ?_ (al_cons ?_ (al_cons ?_ (al_cons ?_ (al_nil)))))))
    · intro LL xx ac wc sg hst hwant QQ hgo
      have se9 : ac.eval (.tmp 9) = _ := ((sg.free 9 (by kernel_rfl)).trans so9)
      have sg9 := gt_of se9
      exact op_val hwant hgo hst _ (by simp only [execOp, nth]; go_simp <;> omega) rfl
    · intro LL xx ac wc sg hst hwant QQ hgo
      have H := Lib.hid hst
      refine hpA_load1 tyint H rfl (sg.slot 0 (sg.anc 0 rfl)) hwant (by (repeat (first | exact List.Mem.head _ | apply List.Mem.tail))) (by rfl) ?_
      exact hgo _ () _ (fun _ _ => rfl) rfl hst
    · intro LL xx ac wc sg hst hwant QQ hgo
      have se115 : ac.eval (.tmp 115) = _ := (sg.slot 1 (sg.anc 1 rfl))
      have sg115 := gt_of se115
      (try simp only [nth] at se115 sg115)
      exact op_val hwant hgo hst _ (by simp only [execOp, nth]; go_simp <;> omega) rfl
    · intro LL xx ac wc sg hst hwant QQ hgo
      have se116 : ac.eval (.tmp 116) = _ := (sg.slot 2 (sg.anc 2 rfl))
      have sg116 := gt_of se116
      (try simp only [nth] at se116 sg116)
      exact op_val hwant hgo hst _ (by simp only [execOp, nth]; go_simp <;> omega) rfl
    · intro LL xx ac wc sg hst hwant QQ hgo
      have se117 : ac.eval (.tmp 117) = _ := (sg.slot 3 (sg.anc 3 rfl))
      have sg117 := gt_of se117
      (try simp only [nth] at se117 sg117)
      exact op_val hwant hgo hst _ (by simp only [execOp, nth]; go_simp <;> omega) rfl
    · intro LL xx ac wc sg hst hwant QQ hgo
      have se118 : ac.eval (.tmp 118) = _ := (sg.slot 4 (sg.anc 4 rfl))
      have sg118 := gt_of se118
      (try simp only [nth] at se118 sg118)
      have hnw : IntKind.i64.wrap (2 + m : Int) = 2 + m := IntWalk.i64_in _ (by omega)
      exact op_val hwant hgo hst _ (by simp only [execOp, nth]; go_simp <;> omega) rfl
    · intro LL xx ac wc sg hst hwant QQ hgo
      exact op_val hwant hgo hst _ (exec_assign rfl (sg.slot 5 (sg.anc 5 rfl))) rfl
  · exact skips [] (by kernel_rfl) (fun _ h => by cases h)
  · intro xx ac1 wz hfr hsl hst
    exact hfin ac1 wz (hfr.size.trans hz) hfr.defers (fr_keep hfr [14, 114, 115, 116, 117, 118, 119] (by kernel_rfl)) (hsl 6 (by decide)) (Lib.hid hst)
set_option maxRecDepth 20000 in
theorem exact6_w_r33x2 (n : Int) (rc : Nat) (acts : List ActV) (b5 : Nat) (i : Nat) (a : Option Addr) (cc : Nat) (la : Option Addr) (lc : Nat) (l : List PairV) (hi : i ≤ acts.length) (hi2 : i ≤ 100) (hll : l.length ≤ i) (z1ld : i < acts.length) (z1rd : (i : Int) < 100) (y : Addr) (x : ActV) (b9 : Nat) (z2d : ¬ (10 < (x.key.size : Int))) (m : Nat) (hm1 : m < 3) (hm : IntKind.i64.wrap ((IntKind.u64.wrap x.val).tmod 3) = (m : Int)) {wa wb : World} (H : Hid (Hp [] wa wb [rB b9 67 [.int .i64 x.kind, .string x.key, .int .i64 x.val], rS la lc 2 (l.map rowOf), rB b5 43 [.int .i64 (kR n), .slice a l.length cc], rS a cc 2 (l.map rowOf), rS (some y) rc 3 (acts.map actRow)])) (ac0 : Act) (hz : ac0.tmps.size = 143) (so5 : ac0.eval (.tmp 5) = .pointer (some ⟨b5, 0, none⟩)) (so14 : ac0.eval (.tmp 14) = .int .i64 (2 + m)) {QR : Exit → Act → World → Prop} (hfin : ∀ (a33_4 : Option Addr) (c33_4 : Nat) (ac1 : Act) (wz : World), ac1.tmps.size = 143 → ac1.defers = ac0.defers → (∀ t, ([120, 121, 122, 123, 124] : List Nat).contains t = false → ac1.eval (.tmp t) = ac0.eval (.tmp t)) →  Hid (Hp [] wa wz [rS a33_4 c33_4 2 ((l.filter (keptV (2 + m))).map rowOf), rB b9 67 [.int .i64 x.kind, .string x.key, .int .i64 x.val], rS la lc 2 (l.map rowOf), rB b5 43 [.int .i64 (kR n), .slice a33_4 ((l.filter (keptV (2 + m))).length) c33_4], rS a cc 2 (l.map rowOf), rS (some y) rc 3 (acts.map actRow)]) → QR .normal ac1 wz) : (regAt Try.f8 33).wp Try.prog QR ac0 wb := by
  refine wp_region_sq (by kernel_rfl) 143 hz (by kernel_rfl) (fun (xx : Option Addr × Nat) jx => match xx with | (a33_4, c33_4) => nth [.agg #[.int .i64 (kR n), .slice a l.length cc], .int .i64 (2 + m), .agg #[.int .i64 (2 + m)], .func (.func 33) #[.agg #[.int .i64 (2 + m)]] #[], .agg #[.int .i64 (kR n), .slice a33_4 ((l.filter (keptV (2 + m))).length) c33_4], undef] jx) (fun (LL : Nat → Bool) (xx : Option Addr × Nat) ww => match xx with | (a33_4, c33_4) => Hp [] wa ww (bif LL 5 then [rS a33_4 c33_4 2 ((l.filter (keptV (2 + m))).map rowOf), rB b9 67 [.int .i64 x.kind, .string x.key, .int .i64 x.val], rS la lc 2 (l.map rowOf), rB b5 43 [.int .i64 (kR n), .slice a33_4 ((l.filter (keptV (2 + m))).length) c33_4], rS a cc 2 (l.map rowOf), rS (some y) rc 3 (acts.map actRow)] else (bif LL 4 then [rS a33_4 c33_4 2 ((l.filter (keptV (2 + m))).map rowOf), rB b9 67 [.int .i64 x.kind, .string x.key, .int .i64 x.val], rS la lc 2 (l.map rowOf), rB b5 43 [.int .i64 (kR n), .slice a l.length cc], rS a cc 2 (l.map rowOf), rS (some y) rc 3 (acts.map actRow)] else [rB b9 67 [.int .i64 x.kind, .string x.key, .int .i64 x.val], rS la lc 2 (l.map rowOf), rB b5 43 [.int .i64 (kR n), .slice a l.length cc], rS a cc 2 (l.map rowOf), rS (some y) rc 3 (acts.map actRow)]))) (default, default) H.out ?_ (steps_al ?_) ?_ ?_
  · intro L1 L2 xx ww hL sg
    have lh4 := hL 4 (by decide)
    have lh5 := hL 5 (by decide)
    simp only [lh4, lh5] at sg
    exact sg
  · refine al_cons ?_ (al_cons ?_ (al_cons ?_ (al_cons ?_ (al_cons ?_ (al_cons ?_ (al_nil))))))
    · intro LL xx ac wc sg hst hwant QQ hgo
      obtain ⟨a33_4, c33_4⟩ := xx
      have H := Lib.hid hst
      simp only [sg.des 4 rfl, sg.des 5 rfl, cond_true, cond_false] at H
      refine hpA_load tyshelf_Shelf_string__int_ H rfl ((sg.free 5 (by kernel_rfl)).trans so5) hwant (by (repeat (first | exact List.Mem.head _ | apply List.Mem.tail))) (by rfl) rfl ?_
      exact hgo _ (a33_4, c33_4) _ (fun _ _ => rfl) rfl hst
    · intro LL xx ac wc sg hst hwant QQ hgo
      obtain ⟨a33_4, c33_4⟩ := xx
      exact op_val hwant hgo hst _ (exec_move rfl ((sg.free 14 (by kernel_rfl)).trans so14)) rfl
    · intro LL xx ac wc sg hst hwant QQ hgo
      obtain ⟨a33_4, c33_4⟩ := xx
      have se121 : ac.eval (.tmp 121) = _ := (sg.slot 1 (sg.anc 1 rfl))
      have sg121 := gt_of se121
      (try simp only [nth] at se121 sg121)
      exact op_val hwant hgo hst _ (by simp only [execOp, nth]; go_simp <;> omega) rfl
    · intro LL xx ac wc sg hst hwant QQ hgo
      obtain ⟨a33_4, c33_4⟩ := xx
      have se122 : ac.eval (.tmp 122) = _ := (sg.slot 2 (sg.anc 2 rfl))
      have sg122 := gt_of se122
      (try simp only [nth] at se122 sg122)
      exact op_val hwant hgo hst _ (by simp only [execOp, nth]; go_simp <;> omega) rfl
    · intro LL xx ac wc sg hst hwant QQ hgo
      obtain ⟨_, _⟩ := xx
      have se120 : ac.eval (.tmp 120) = _ := (sg.slot 0 (sg.anc 0 rfl))
      have sg120 := gt_of se120
      have se123 : ac.eval (.tmp 123) = _ := (sg.slot 3 (sg.anc 3 rfl))
      have sg123 := gt_of se123
      (try simp only [nth] at se120 sg120 se123 sg123)
      have H := Lib.hid hst
      simp only [sg.self, sg.des 5 rfl, cond_true, cond_false] at H
      refine op_call hwant hgo 32 _ (by simp only [execOp]; go_simp) (sKeep (kR n) (2 + m) (by omega) a cc l wc (hp_held H (show rS a cc 2 (l.map rowOf) ∈ _ by (repeat (first | exact List.Mem.head _ | apply List.Mem.tail)))) (by omega)) ?_
      rintro er wd ⟨a33_4, c33_4, rfl, hgv⟩
      have H2 := hp_got H hgv.2.2 hgv.1 (by decide) hgv.2.1 (by simp)
      exact ⟨_, (a33_4, c33_4), rfl, (sg.agree (x' := (a33_4, c33_4)) (n := 6) rfl (by (iterate 6 (refine ix_cons (by first | exact fun _ => rfl | exact no sg.self | exact no (sg.des _ rfl)) ?_)); exact ix_nil)), rfl, (by simp only [(show upd LL 4 4 = true from rfl), (show upd LL 4 5 = LL 5 from rfl), sg.des 5 rfl, cond_true, cond_false]; exact H2.out)⟩
    · intro LL xx ac wc sg hst hwant QQ hgo
      obtain ⟨a33_4, c33_4⟩ := xx
      have H := Lib.hid hst
      simp only [sg.anc 4 rfl, sg.self, cond_true, cond_false] at H
      refine hpA_store tyshelf_Shelf_string__int_ H rfl rfl ((sg.free 5 (by kernel_rfl)).trans so5) (sg.slot 4 (sg.anc 4 rfl)) rfl (by repeat (first | apply Put.head | apply Put.tail)) (by simp [List.length_cons]) (by simp [List.length_cons, Value.oneCell']) (by first | rfl | (simp only [spl]; rfl)) rfl ?_
      intro wd H2
      exact hgo _ (a33_4, c33_4) _ (sg.agree (x' := (a33_4, c33_4)) (n := 6) rfl (by (iterate 6 (refine ix_cons (by first | exact fun _ => rfl | exact no sg.self | exact no (sg.des _ rfl)) ?_)); exact ix_nil)) rfl (by simp only [(show upd LL 5 4 = LL 4 from rfl), sg.anc 4 rfl, (show upd LL 5 5 = true from rfl), cond_true, cond_false]; exact H2.out)
  · exact skips [] (by kernel_rfl) (fun _ h => by cases h)
  · intro xx ac1 wz hfr hsl hst
    obtain ⟨a33_4, c33_4⟩ := xx
    exact hfin a33_4 c33_4 ac1 wz (hfr.size.trans hz) hfr.defers (fr_keep hfr [120, 121, 122, 123, 124] (by kernel_rfl)) (Lib.hid hst)
set_option maxRecDepth 20000 in
theorem exact6_w_r34x2 (n : Int) (rc : Nat) (acts : List ActV) (b5 : Nat) (i : Nat) (a : Option Addr) (cc : Nat) (la : Option Addr) (lc : Nat) (l : List PairV) (hi : i ≤ acts.length) (hi2 : i ≤ 100) (hll : l.length ≤ i) (z1ld : i < acts.length) (z1rd : (i : Int) < 100) (y : Addr) (x : ActV) (b9 : Nat) (z2d : ¬ (10 < (x.key.size : Int))) (m : Nat) (hm1 : m < 3) (hm : IntKind.i64.wrap ((IntKind.u64.wrap x.val).tmod 3) = (m : Int)) (a33_4 : Option Addr) (c33_4 : Nat) {wa wb : World} (H : Hid (Hp [] wa wb [rS a33_4 c33_4 2 ((l.filter (keptV (2 + m))).map rowOf), rB b9 67 [.int .i64 x.kind, .string x.key, .int .i64 x.val], rS la lc 2 (l.map rowOf), rB b5 43 [.int .i64 (kR n), .slice a33_4 ((l.filter (keptV (2 + m))).length) c33_4], rS a cc 2 (l.map rowOf), rS (some y) rc 3 (acts.map actRow)])) (ac0 : Act) (hz : ac0.tmps.size = 143) (so7 : ac0.eval (.tmp 7) = .slice la l.length lc) (so14 : ac0.eval (.tmp 14) = .int .i64 (2 + m)) {QR : Exit → Act → World → Prop} (hfin : ∀ (a34_2 : Option Addr) (c34_2 : Nat) (ac1 : Act) (wz : World), ac1.tmps.size = 143 → ac1.defers = ac0.defers → (∀ t, ([7, 125, 126, 127] : List Nat).contains t = false → ac1.eval (.tmp t) = ac0.eval (.tmp t)) → ac1.eval (.tmp 7) = .slice a34_2 ((l.filter (keptV (2 + m))).length) c34_2 →  Hid (Hp [] wa wz [rS a34_2 c34_2 2 ((l.filter (keptV (2 + m))).map rowOf), rS a33_4 c33_4 2 ((l.filter (keptV (2 + m))).map rowOf), rB b9 67 [.int .i64 x.kind, .string x.key, .int .i64 x.val], rS la lc 2 (l.map rowOf), rB b5 43 [.int .i64 (kR n), .slice a33_4 ((l.filter (keptV (2 + m))).length) c33_4], rS a cc 2 (l.map rowOf), rS (some y) rc 3 (acts.map actRow)]) → QR .normal ac1 wz) : (regAt Try.f8 34).wp Try.prog QR ac0 wb := by
  refine wp_region_sq (by kernel_rfl) 143 hz (by kernel_rfl) (fun (xx : Option Addr × Nat) jx => match xx with | (a34_2, c34_2) => nth [.slice la l.length lc, .int .i64 (2 + m), .slice a34_2 ((l.filter (keptV (2 + m))).length) c34_2, .slice a34_2 ((l.filter (keptV (2 + m))).length) c34_2] jx) (fun (LL : Nat → Bool) (xx : Option Addr × Nat) ww => match xx with | (a34_2, c34_2) => Hp [] wa ww (bif LL 2 then [rS a34_2 c34_2 2 ((l.filter (keptV (2 + m))).map rowOf), rS a33_4 c33_4 2 ((l.filter (keptV (2 + m))).map rowOf), rB b9 67 [.int .i64 x.kind, .string x.key, .int .i64 x.val], rS la lc 2 (l.map rowOf), rB b5 43 [.int .i64 (kR n), .slice a33_4 ((l.filter (keptV (2 + m))).length) c33_4], rS a cc 2 (l.map rowOf), rS (some y) rc 3 (acts.map actRow)] else [rS a33_4 c33_4 2 ((l.filter (keptV (2 + m))).map rowOf), rB b9 67 [.int .i64 x.kind, .string x.key, .int .i64 x.val], rS la lc 2 (l.map rowOf), rB b5 43 [.int .i64 (kR n), .slice a33_4 ((l.filter (keptV (2 + m))).length) c33_4], rS a cc 2 (l.map rowOf), rS (some y) rc 3 (acts.map actRow)])) (default, default) H.out ?_ (steps_al ?_) ?_ ?_
  · intro L1 L2 xx ww hL sg
    have lh2 := hL 2 (by decide)
    simp only [lh2] at sg
    exact sg
  · refine al_cons ?_ (al_cons ?_ (al_cons ?_ (al_cons ?_ (al_nil))))
    · intro LL xx ac wc sg hst hwant QQ hgo
      obtain ⟨a34_2, c34_2⟩ := xx
      exact op_val hwant hgo hst _ (exec_move rfl ((sg.yet 7 3 (sg.des 3 rfl) (by kernel_rfl)).trans so7)) rfl
    · intro LL xx ac wc sg hst hwant QQ hgo
      obtain ⟨a34_2, c34_2⟩ := xx
      exact op_val hwant hgo hst _ (exec_move rfl ((sg.free 14 (by kernel_rfl)).trans so14)) rfl
    · intro LL xx ac wc sg hst hwant QQ hgo
      obtain ⟨_, _⟩ := xx
      have se125 : ac.eval (.tmp 125) = _ := (sg.slot 0 (sg.anc 0 rfl))
      have sg125 := gt_of se125
      have se126 : ac.eval (.tmp 126) = _ := (sg.slot 1 (sg.anc 1 rfl))
      have sg126 := gt_of se126
      (try simp only [nth] at se125 sg125 se126 sg126)
      have H := Lib.hid hst
      simp only [sg.self, cond_true, cond_false] at H
      refine op_call hwant hgo 40 _ (by simp only [execOp]; go_simp) (keepRS la lc l (2 + m) wc (hp_held H (show rS la lc 2 (l.map rowOf) ∈ _ by (repeat (first | exact List.Mem.head _ | apply List.Mem.tail)))) (by omega) (by omega)) ?_
      rintro er wd ⟨a34_2, c34_2, rfl, hgv⟩
      have H2 := hp_got H hgv.2.2 hgv.1 (by decide) hgv.2.1 (by simp)
      exact ⟨_, (a34_2, c34_2), rfl, (sg.agree (x' := (a34_2, c34_2)) (n := 4) rfl (by (iterate 4 (refine ix_cons (by first | exact fun _ => rfl | exact no sg.self | exact no (sg.des _ rfl)) ?_)); exact ix_nil)), rfl, (by simp only [(show upd LL 2 2 = true from rfl), cond_true, cond_false]; exact H2.out)⟩
    · intro LL xx ac wc sg hst hwant QQ hgo
      obtain ⟨a34_2, c34_2⟩ := xx
      exact op_val hwant hgo hst _ (exec_assign rfl (sg.slot 2 (sg.anc 2 rfl))) rfl
  · exact skips [] (by kernel_rfl) (fun _ h => by cases h)
  · intro xx ac1 wz hfr hsl hst
    obtain ⟨a34_2, c34_2⟩ := xx
    exact hfin a34_2 c34_2 ac1 wz (hfr.size.trans hz) hfr.defers (fr_keep hfr [7, 125, 126, 127] (by kernel_rfl)) (hsl 3 (by decide)) (Lib.hid hst)
set_option maxRecDepth 20000 in
theorem exact6_w_r35x13 (n : Int) (rc : Nat) (acts : List ActV) (b5 : Nat) (i : Nat) (a : Option Addr) (cc : Nat) (la : Option Addr) (lc : Nat) (l : List PairV) (hi : i ≤ acts.length) (hi2 : i ≤ 100) (hll : l.length ≤ i) (z1ld : i < acts.length) (z1rd : (i : Int) < 100) (y : Addr) (x : ActV) (b9 : Nat) (z2d : ¬ (10 < (x.key.size : Int))) (m : Nat) (hm1 : m < 3) (hm : IntKind.i64.wrap ((IntKind.u64.wrap x.val).tmod 3) = (m : Int)) (a33_4 : Option Addr) (c33_4 : Nat) (a34_2 : Option Addr) (c34_2 : Nat) {wa wb : World} (H : Hid (Hp [] wa wb [rS a34_2 c34_2 2 ((l.filter (keptV (2 + m))).map rowOf), rS a33_4 c33_4 2 ((l.filter (keptV (2 + m))).map rowOf), rB b9 67 [.int .i64 x.kind, .string x.key, .int .i64 x.val], rS la lc 2 (l.map rowOf), rB b5 43 [.int .i64 (kR n), .slice a33_4 ((l.filter (keptV (2 + m))).length) c33_4], rS a cc 2 (l.map rowOf), rS (some y) rc 3 (acts.map actRow)])) (ac0 : Act) (hz : ac0.tmps.size = 143) (so5 : ac0.eval (.tmp 5) = .pointer (some ⟨b5, 0, none⟩)) (so6 : ac0.eval (.tmp 6) = .int .i64 (kR n)) (so7 : ac0.eval (.tmp 7) = .slice a34_2 ((l.filter (keptV (2 + m))).length) c34_2) {QR : Exit → Act → World → Prop} (hfin : ∀ (ac1 : Act) (wz : World), ac1.tmps.size = 143 → ac1.defers = ac0.defers → (∀ t, ([128, 129, 130, 131, 132, 133, 134, 135, 136, 137] : List Nat).contains t = false → ac1.eval (.tmp t) = ac0.eval (.tmp t)) → ac1.eval (.tmp 137) = .bool false →  Hid (Hp [] wa wz [rS a34_2 c34_2 2 ((l.filter (keptV (2 + m))).map rowOf), rS a33_4 c33_4 2 ((l.filter (keptV (2 + m))).map rowOf), rB b9 67 [.int .i64 x.kind, .string x.key, .int .i64 x.val], rS la lc 2 (l.map rowOf), rB b5 43 [.int .i64 (kR n), .slice a33_4 ((l.filter (keptV (2 + m))).length) c33_4], rS a cc 2 (l.map rowOf), rS (some y) rc 3 (acts.map actRow)]) → QR .normal ac1 wz) : (regAt Try.f8 35).wp Try.prog QR ac0 wb := by
  refine wp_region_sq (by kernel_rfl) 143 hz (by kernel_rfl) (fun (xx : Unit) jx => nth [.agg #[.int .i64 (kR n), .slice a33_4 ((l.filter (keptV (2 + m))).length) c33_4], .slice a34_2 ((l.filter (keptV (2 + m))).length) c34_2, .bool true, .bool false, .bool false, .agg #[.int .i64 (kR n), .slice a33_4 ((l.filter (keptV (2 + m))).length) c33_4], .int .i64 (kR n), .int .i64 (kR n), .bool false, .bool false] jx) (fun (LL : Nat → Bool) (xx : Unit) ww => Hp [] wa ww [rS a34_2 c34_2 2 ((l.filter (keptV (2 + m))).map rowOf), rS a33_4 c33_4 2 ((l.filter (keptV (2 + m))).map rowOf), rB b9 67 [.int .i64 x.kind, .string x.key, .int .i64 x.val], rS la lc 2 (l.map rowOf), rB b5 43 [.int .i64 (kR n), .slice a33_4 ((l.filter (keptV (2 + m))).length) c33_4], rS a cc 2 (l.map rowOf), rS (some y) rc 3 (acts.map actRow)]) () H.out ?_ (steps_al ?_) ?_ ?_
  · exact fun _ _ _ _ _ h => h
  · refine al_cons ?_ (al_cons ?_ (al_cons ?_ (al_cons ?_ (al_cons ?_ (al_cons ?_ (al_cons ?_ (al_cons ?_ (al_cons ?_ (al_cons ?_ (al_nil))))))))))
    · intro LL xx ac wc sg hst hwant QQ hgo
      have H := Lib.hid hst
      refine hpA_load tyshelf_Shelf_string__int_ H rfl ((sg.free 5 (by kernel_rfl)).trans so5) hwant (by (repeat (first | exact List.Mem.head _ | apply List.Mem.tail))) (by rfl) rfl ?_
      exact hgo _ () _ (fun _ _ => rfl) rfl hst
    · intro LL xx ac wc sg hst hwant QQ hgo
      exact op_val hwant hgo hst _ (exec_move rfl ((sg.free 7 (by kernel_rfl)).trans so7)) rfl
    · intro LL xx ac wc sg hst hwant QQ hgo
      have se128 : ac.eval (.tmp 128) = _ := (sg.slot 0 (sg.anc 0 rfl))
      have sg128 := gt_of se128
      have se129 : ac.eval (.tmp 129) = _ := (sg.slot 1 (sg.anc 1 rfl))
      have sg129 := gt_of se129
      (try simp only [nth] at se128 sg128 se129 sg129)
      have H := Lib.hid hst
      refine op_call hwant hgo 42 _ (by simp only [execOp]; go_simp) (alikeC (kR n) a33_4 c33_4 a34_2 c34_2 (l.filter (keptV (2 + m))) wc (hp_held H (show rS a33_4 c33_4 2 ((l.filter (keptV (2 + m))).map rowOf) ∈ _ by (repeat (first | exact List.Mem.head _ | apply List.Mem.tail)))) (hp_held H (show rS a34_2 c34_2 2 ((l.filter (keptV (2 + m))).map rowOf) ∈ _ by (repeat (first | exact List.Mem.head _ | apply List.Mem.tail)))) (Nat.le_trans (List.length_filter_le _ _) (by omega))) ?_
      rintro er wd ⟨rfl, hof⟩
      exact ⟨_, (), rfl, fun _ _ => rfl, rfl, Hp.quiet hst hof⟩
    · intro LL xx ac wc sg hst hwant QQ hgo
      have se130 : ac.eval (.tmp 130) = _ := (sg.slot 2 (sg.anc 2 rfl))
      have sg130 := gt_of se130
      (try simp only [nth] at se130 sg130)
      exact op_val hwant hgo hst _ (by simp only [execOp, nth]; go_simp <;> omega) rfl
    · intro LL xx ac wc sg hst hwant QQ hgo
      exact op_val hwant hgo hst _ (exec_move rfl (sg.slot 3 (sg.anc 3 rfl))) rfl
    · intro LL xx ac wc sg hst hwant QQ hgo
      have H := Lib.hid hst
      refine hpA_load tyshelf_Shelf_string__int_ H rfl ((sg.free 5 (by kernel_rfl)).trans so5) hwant (by (repeat (first | exact List.Mem.head _ | apply List.Mem.tail))) (by rfl) rfl ?_
      exact hgo _ () _ (fun _ _ => rfl) rfl hst
    · intro LL xx ac wc sg hst hwant QQ hgo
      have se133 : ac.eval (.tmp 133) = _ := (sg.slot 5 (sg.anc 5 rfl))
      have sg133 := gt_of se133
      (try simp only [nth] at se133 sg133)
      refine op_call hwant hgo 43 _ (by simp only [execOp]; go_simp) (roomC (kR n) (.slice a33_4 ((l.filter (keptV (2 + m))).length) c33_4) wc) ?_
      rintro er wd ⟨rfl, hof⟩
      exact ⟨_, (), rfl, fun _ _ => rfl, rfl, Hp.quiet hst hof⟩
    · intro LL xx ac wc sg hst hwant QQ hgo
      exact op_val hwant hgo hst _ (exec_move rfl ((sg.free 6 (by kernel_rfl)).trans so6)) rfl
    · intro LL xx ac wc sg hst hwant QQ hgo
      have se134 : ac.eval (.tmp 134) = _ := (sg.slot 6 (sg.anc 6 rfl))
      have sg134 := gt_of se134
      have se135 : ac.eval (.tmp 135) = _ := (sg.slot 7 (sg.anc 7 rfl))
      have sg135 := gt_of se135
      (try simp only [nth] at se134 sg134 se135 sg135)
      exact op_val hwant hgo hst _ (by simp only [execOp, nth]; go_simp <;> omega) rfl
    · intro LL xx ac wc sg hst hwant QQ hgo
      exact op_val hwant hgo hst (.bool false) (exec_pick (B := false) (U := undef) (V := .bool false) rfl (sg.slot 4 (sg.anc 4 rfl)) (fun h => by cases h) (fun _ => (sg.slot 8 (sg.anc 8 rfl)))) rfl
  · refine skips [5, 6, 7, 8] (by kernel_rfl) ?_
    refine List.forall_mem_cons.2 ⟨?_, List.forall_mem_cons.2 ⟨?_, List.forall_mem_cons.2 ⟨?_, List.forall_mem_cons.2 ⟨?_, fun _ h => by cases h⟩⟩⟩⟩
    · intro oo hop LL xx ac sg hwant
      cases Option.some.inj hop
      exact absurd ((want_f rfl rfl (sg.slot 4 (sg.anc 4 rfl))).symm.trans hwant) (by decide)
    · intro oo hop LL xx ac sg hwant
      cases Option.some.inj hop
      exact absurd ((want_f rfl rfl (sg.slot 4 (sg.anc 4 rfl))).symm.trans hwant) (by decide)
    · intro oo hop LL xx ac sg hwant
      cases Option.some.inj hop
      exact absurd ((want_f rfl rfl (sg.slot 4 (sg.anc 4 rfl))).symm.trans hwant) (by decide)
    · intro oo hop LL xx ac sg hwant
      cases Option.some.inj hop
      exact absurd ((want_f rfl rfl (sg.slot 4 (sg.anc 4 rfl))).symm.trans hwant) (by decide)
  · intro xx ac1 wz hfr hsl hst
    exact hfin ac1 wz (hfr.size.trans hz) hfr.defers (fr_keep hfr [128, 129, 130, 131, 132, 133, 134, 135, 136, 137] (by kernel_rfl)) (hsl 9 (by decide)) (Lib.hid hst)
set_option maxRecDepth 20000 in
theorem exact6_w_r10x13 (n : Int) (rc : Nat) (acts : List ActV) (b5 : Nat) (i : Nat) (a : Option Addr) (cc : Nat) (la : Option Addr) (lc : Nat) (l : List PairV) (hi : i ≤ acts.length) (hi2 : i ≤ 100) (hll : l.length ≤ i) (z1ld : i < acts.length) (z1rd : (i : Int) < 100) (y : Addr) (x : ActV) (b9 : Nat) (z2d : ¬ (10 < (x.key.size : Int))) (m : Nat) (hm1 : m < 3) (hm : IntKind.i64.wrap ((IntKind.u64.wrap x.val).tmod 3) = (m : Int)) (a33_4 : Option Addr) (c33_4 : Nat) (a34_2 : Option Addr) (c34_2 : Nat) {wa wb : World} (H : Hid (Hp [] wa wb [rS a34_2 c34_2 2 ((l.filter (keptV (2 + m))).map rowOf), rS a33_4 c33_4 2 ((l.filter (keptV (2 + m))).map rowOf), rB b9 67 [.int .i64 x.kind, .string x.key, .int .i64 x.val], rS la lc 2 (l.map rowOf), rB b5 43 [.int .i64 (kR n), .slice a33_4 ((l.filter (keptV (2 + m))).length) c33_4], rS a cc 2 (l.map rowOf), rS (some y) rc 3 (acts.map actRow)])) (ac0 : Act) (hz : ac0.tmps.size = 143) (so8 : ac0.eval (.tmp 8) = .int .i64 i) {QR : Exit → Act → World → Prop} (hfin : ∀ (ac1 : Act) (wz : World), ac1.tmps.size = 143 → ac1.defers = ac0.defers → (∀ t, ([8, 40, 41] : List Nat).contains t = false → ac1.eval (.tmp t) = ac0.eval (.tmp t)) → ac1.eval (.tmp 8) = .int .i64 (i + 1) →  Hid (Hp [] wa wz [rS a34_2 c34_2 2 ((l.filter (keptV (2 + m))).map rowOf), rS a33_4 c33_4 2 ((l.filter (keptV (2 + m))).map rowOf), rB b9 67 [.int .i64 x.kind, .string x.key, .int .i64 x.val], rS la lc 2 (l.map rowOf), rB b5 43 [.int .i64 (kR n), .slice a33_4 ((l.filter (keptV (2 + m))).length) c33_4], rS a cc 2 (l.map rowOf), rS (some y) rc 3 (acts.map actRow)]) → QR .normal ac1 wz) : (regAt Try.f8 10).wp Try.prog QR ac0 wb := by
  refine wp_region_sq (by kernel_rfl) 143 hz (by kernel_rfl) (fun (xx : Unit) jx => nth [.int .i64 i, .int .i64 (i + 1), .int .i64 (i + 1)] jx) (fun (LL : Nat → Bool) (xx : Unit) ww => Hp [] wa ww [rS a34_2 c34_2 2 ((l.filter (keptV (2 + m))).map rowOf), rS a33_4 c33_4 2 ((l.filter (keptV (2 + m))).map rowOf), rB b9 67 [.int .i64 x.kind, .string x.key, .int .i64 x.val], rS la lc 2 (l.map rowOf), rB b5 43 [.int .i64 (kR n), .slice a33_4 ((l.filter (keptV (2 + m))).length) c33_4], rS a cc 2 (l.map rowOf), rS (some y) rc 3 (acts.map actRow)]) () H.out ?_ (steps_al ?_) ?_ ?_
  · exact fun _ _ _ _ _ h => h
  · refine al_cons ?_ (al_cons ?_ (al_cons ?_ (al_nil)))
    · intro LL xx ac wc sg hst hwant QQ hgo
      exact op_val hwant hgo hst _ (exec_move rfl ((sg.yet 8 2 (sg.des 2 rfl) (by kernel_rfl)).trans so8)) rfl
    · intro LL xx ac wc sg hst hwant QQ hgo
      have se40 : ac.eval (.tmp 40) = _ := (sg.slot 0 (sg.anc 0 rfl))
      have sg40 := gt_of se40
      (try simp only [nth] at se40 sg40)
      have hnw : IntKind.i64.wrap (i + 1 : Int) = i + 1 := IntWalk.i64_in _ (by omega)
      exact op_val hwant hgo hst _ (by simp only [execOp, nth]; go_simp <;> omega) rfl
    · intro LL xx ac wc sg hst hwant QQ hgo
      exact op_val hwant hgo hst _ (exec_assign rfl (sg.slot 1 (sg.anc 1 rfl))) rfl
  · exact skips [] (by kernel_rfl) (fun _ h => by cases h)
  · intro xx ac1 wz hfr hsl hst
    exact hfin ac1 wz (hfr.size.trans hz) hfr.defers (fr_keep hfr [8, 40, 41] (by kernel_rfl)) (hsl 2 (by decide)) (Lib.hid hst)
set_option maxRecDepth 20000 in
theorem exact6_w_r15x2 (n : Int) (rc : Nat) (acts : List ActV) (b5 : Nat) (i : Nat) (a : Option Addr) (cc : Nat) (la : Option Addr) (lc : Nat) (l : List PairV) (hi : i ≤ acts.length) (hi2 : i ≤ 100) (hll : l.length ≤ i) (hs : Hid (Sorted l)) (z1ld : i < acts.length) (z1rd : (i : Int) < 100) (y : Addr) (x : ActV) (b9 : Nat) (z2d : ¬ (10 < (x.key.size : Int))) {wa wb : World} (H : Hid (Hp [] wa wb [rB b9 67 [.int .i64 x.kind, .string x.key, .int .i64 x.val], rS la lc 2 (l.map rowOf), rB b5 43 [.int .i64 (kR n), .slice a l.length cc], rS a cc 2 (l.map rowOf), rS (some y) rc 3 (acts.map actRow)])) (ac0 : Act) (hz : ac0.tmps.size = 143) (so5 : ac0.eval (.tmp 5) = .pointer (some ⟨b5, 0, none⟩)) (so9 : ac0.eval (.tmp 9) = .pointer (some ⟨b9, 0, none⟩)) {QR : Exit → Act → World → Prop} (hfin : ∀ (ac1 : Act) (wz : World), ac1.tmps.size = 143 → ac1.defers = ac0.defers → (∀ t, ([15, 16, 52, 53, 54, 55, 56, 57, 58] : List Nat).contains t = false → ac1.eval (.tmp t) = ac0.eval (.tmp t)) → ac1.eval (.tmp 15) = .int .i64 ((getR x.key l).1) → ac1.eval (.tmp 16) = .bool ((getR x.key l).2) →  Hid (Hp [] wa wz [rB b9 67 [.int .i64 x.kind, .string x.key, .int .i64 x.val], rS la lc 2 (l.map rowOf), rB b5 43 [.int .i64 (kR n), .slice a l.length cc], rS a cc 2 (l.map rowOf), rS (some y) rc 3 (acts.map actRow)]) → QR .normal ac1 wz) : (regAt Try.f8 15).wp Try.prog QR ac0 wb := by
  refine wp_region_sq (by kernel_rfl) 143 hz (by kernel_rfl) (fun (xx : Unit) jx => nth [.agg #[.int .i64 (kR n), .slice a l.length cc], .pointer (some ⟨b9, 1, none⟩), .string x.key, .tuple #[.int .i64 ((getR x.key l).1), .bool ((getR x.key l).2)], .tuple #[.int .i64 ((getR x.key l).1), .bool ((getR x.key l).2)], .int .i64 ((getR x.key l).1), .bool ((getR x.key l).2), .int .i64 ((getR x.key l).1), .bool ((getR x.key l).2)] jx) (fun (LL : Nat → Bool) (xx : Unit) ww => Hp [] wa ww [rB b9 67 [.int .i64 x.kind, .string x.key, .int .i64 x.val], rS la lc 2 (l.map rowOf), rB b5 43 [.int .i64 (kR n), .slice a l.length cc], rS a cc 2 (l.map rowOf), rS (some y) rc 3 (acts.map actRow)]) () H.out ?_ (steps_al ?_) ?_ ?_
  · exact fun _ _ _ _ _ h => h
  · refine al_cons ?_ (al_cons ?_ (al_cons ?_ (al_cons ?_ (al_cons ?_ (al_cons ?_ (al_cons ?_ (al_cons ?_ (al_cons ?_ (al_nil)))))))))
    · intro LL xx ac wc sg hst hwant QQ hgo
      have H := Lib.hid hst
      refine hpA_load tyshelf_Shelf_string__int_ H rfl ((sg.free 5 (by kernel_rfl)).trans so5) hwant (by (repeat (first | exact List.Mem.head _ | apply List.Mem.tail))) (by rfl) rfl ?_
      exact hgo _ () _ (fun _ _ => rfl) rfl hst
    · intro LL xx ac wc sg hst hwant QQ hgo
      have se9 : ac.eval (.tmp 9) = _ := ((sg.free 9 (by kernel_rfl)).trans so9)
      have sg9 := gt_of se9
      exact op_val hwant hgo hst _ (by simp only [execOp, nth]; go_simp <;> omega) rfl
    · intro LL xx ac wc sg hst hwant QQ hgo
      have H := Lib.hid hst
      refine hpA_load1 tystring H rfl (sg.slot 1 (sg.anc 1 rfl)) hwant (by (repeat (first | exact List.Mem.head _ | apply List.Mem.tail))) (by rfl) ?_
      exact hgo _ () _ (fun _ _ => rfl) rfl hst
    · intro LL xx ac wc sg hst hwant QQ hgo
      have se53 : ac.eval (.tmp 53) = _ := (sg.slot 0 (sg.anc 0 rfl))
      have sg53 := gt_of se53
      have se55 : ac.eval (.tmp 55) = _ := (sg.slot 2 (sg.anc 2 rfl))
      have sg55 := gt_of se55
      (try simp only [nth] at se53 sg53 se55 sg55)
      have H := Lib.hid hst
      refine op_call hwant hgo 29 _ (by simp only [execOp]; go_simp) (sGet (kR n) a cc l x.key wc (hp_held H (show rS a cc 2 (l.map rowOf) ∈ _ by (repeat (first | exact List.Mem.head _ | apply List.Mem.tail)))) hs.out (by omega)) ?_
      rintro er wd ⟨rfl, hof⟩
      exact ⟨_, (), rfl, fun _ _ => rfl, rfl, Hp.quiet hst hof⟩
    · intro LL xx ac wc sg hst hwant QQ hgo
      exact op_val hwant hgo hst _ (exec_move rfl (sg.slot 3 (sg.anc 3 rfl))) rfl
    · intro LL xx ac wc sg hst hwant QQ hgo
      have se52 : ac.eval (.tmp 52) = _ := (sg.slot 4 (sg.anc 4 rfl))
      have sg52 := gt_of se52
      (try simp only [nth] at se52 sg52)
      exact op_val hwant hgo hst _ (by simp only [execOp, nth]; go_simp <;> omega) rfl
    · intro LL xx ac wc sg hst hwant QQ hgo
      have se52 : ac.eval (.tmp 52) = _ := (sg.slot 4 (sg.anc 4 rfl))
      have sg52 := gt_of se52
      (try simp only [nth] at se52 sg52)
      exact op_val hwant hgo hst _ (by simp only [execOp, nth]; go_simp <;> omega) rfl
    · intro LL xx ac wc sg hst hwant QQ hgo
      exact op_val hwant hgo hst _ (exec_assign rfl (sg.slot 5 (sg.anc 5 rfl))) rfl
    · intro LL xx ac wc sg hst hwant QQ hgo
      exact op_val hwant hgo hst _ (exec_assign rfl (sg.slot 6 (sg.anc 6 rfl))) rfl
  · exact skips [] (by kernel_rfl) (fun _ h => by cases h)
  · intro xx ac1 wz hfr hsl hst
    exact hfin ac1 wz (hfr.size.trans hz) hfr.defers (fr_keep hfr [15, 16, 52, 53, 54, 55, 56, 57, 58] (by kernel_rfl)) (hsl 7 (by decide)) (hsl 8 (by decide)) (Lib.hid hst)
set_option maxRecDepth 20000 in
theorem exact6_w_r16x2 (n : Int) (rc : Nat) (acts : List ActV) (b5 : Nat) (i : Nat) (a : Option Addr) (cc : Nat) (la : Option Addr) (lc : Nat) (l : List PairV) (hi : i ≤ acts.length) (hi2 : i ≤ 100) (hll : l.length ≤ i) (z1ld : i < acts.length) (z1rd : (i : Int) < 100) (y : Addr) (x : ActV) (b9 : Nat) (z2d : ¬ (10 < (x.key.size : Int))) {wa wb : World} (H : Hid (Hp [] wa wb [rB b9 67 [.int .i64 x.kind, .string x.key, .int .i64 x.val], rS la lc 2 (l.map rowOf), rB b5 43 [.int .i64 (kR n), .slice a l.length cc], rS a cc 2 (l.map rowOf), rS (some y) rc 3 (acts.map actRow)])) (ac0 : Act) (hz : ac0.tmps.size = 143) (so7 : ac0.eval (.tmp 7) = .slice la l.length lc) (so9 : ac0.eval (.tmp 9) = .pointer (some ⟨b9, 0, none⟩)) {QR : Exit → Act → World → Prop} (hfin : ∀ (ac1 : Act) (wz : World), ac1.tmps.size = 143 → ac1.defers = ac0.defers → (∀ t, ([17, 18, 59, 60, 61, 62, 63, 64, 65] : List Nat).contains t = false → ac1.eval (.tmp t) = ac0.eval (.tmp t)) → ac1.eval (.tmp 17) = .int .i64 ((getR x.key l).1) → ac1.eval (.tmp 18) = .bool ((getR x.key l).2) →  Hid (Hp [] wa wz [rB b9 67 [.int .i64 x.kind, .string x.key, .int .i64 x.val], rS la lc 2 (l.map rowOf), rB b5 43 [.int .i64 (kR n), .slice a l.length cc], rS a cc 2 (l.map rowOf), rS (some y) rc 3 (acts.map actRow)]) → QR .normal ac1 wz) : (regAt Try.f8 16).wp Try.prog QR ac0 wb := by
  refine wp_region_sq (by kernel_rfl) 143 hz (by kernel_rfl) (fun (xx : Unit) jx => nth [.slice la l.length lc, .pointer (some ⟨b9, 1, none⟩), .string x.key, .tuple #[.int .i64 ((getR x.key l).1), .bool ((getR x.key l).2)], .tuple #[.int .i64 ((getR x.key l).1), .bool ((getR x.key l).2)], .int .i64 ((getR x.key l).1), .bool ((getR x.key l).2), .int .i64 ((getR x.key l).1), .bool ((getR x.key l).2)] jx) (fun (LL : Nat → Bool) (xx : Unit) ww => Hp [] wa ww [rB b9 67 [.int .i64 x.kind, .string x.key, .int .i64 x.val], rS la lc 2 (l.map rowOf), rB b5 43 [.int .i64 (kR n), .slice a l.length cc], rS a cc 2 (l.map rowOf), rS (some y) rc 3 (acts.map actRow)]) () H.out ?_ (steps_al ?_) ?_ ?_
  · exact fun _ _ _ _ _ h => h
  · refine al_cons ?_ (al_cons ?_ (al_cons ?_ (al_cons ?_ (al_cons ?_ (al_cons ?_ (al_cons ?_ (al_cons ?_ (al_cons ?_ (al_nil)))))))))
    · intro LL xx ac wc sg hst hwant QQ hgo
      exact op_val hwant hgo hst _ (exec_move rfl ((sg.free 7 (by kernel_rfl)).trans so7)) rfl
    · intro LL xx ac wc sg hst hwant QQ hgo
      have se9 : ac.eval (.tmp 9) = _ := ((sg.free 9 (by kernel_rfl)).trans so9)
      have sg9 := gt_of se9
      exact op_val hwant hgo hst _ (by simp only [execOp, nth]; go_simp <;> omega) rfl
    · intro LL xx ac wc sg hst hwant QQ hgo
      have H := Lib.hid hst
      refine hpA_load1 tystring H rfl (sg.slot 1 (sg.anc 1 rfl)) hwant (by (repeat (first | exact List.Mem.head _ | apply List.Mem.tail))) (by rfl) ?_
      exact hgo _ () _ (fun _ _ => rfl) rfl hst
    · intro LL xx ac wc sg hst hwant QQ hgo
      have se60 : ac.eval (.tmp 60) = _ := (sg.slot 0 (sg.anc 0 rfl))
      have sg60 := gt_of se60
      have se62 : ac.eval (.tmp 62) = _ := (sg.slot 2 (sg.anc 2 rfl))
      have sg62 := gt_of se62
      (try simp only [nth] at se60 sg60 se62 sg62)
      have H := Lib.hid hst
      refine op_call hwant hgo 41 _ (by simp only [execOp]; go_simp) (getRC la lc l x.key wc (hp_held H (show rS la lc 2 (l.map rowOf) ∈ _ by (repeat (first | exact List.Mem.head _ | apply List.Mem.tail)))) (by omega)) ?_
      rintro er wd ⟨rfl, hof⟩
      exact ⟨_, (), rfl, fun _ _ => rfl, rfl, Hp.quiet hst hof⟩
    · intro LL xx ac wc sg hst hwant QQ hgo
      exact op_val hwant hgo hst _ (exec_move rfl (sg.slot 3 (sg.anc 3 rfl))) rfl
    · intro LL xx ac wc sg hst hwant QQ hgo
      have se59 : ac.eval (.tmp 59) = _ := (sg.slot 4 (sg.anc 4 rfl))
      have sg59 := gt_of se59
      (try simp only [nth] at se59 sg59)
      exact op_val hwant hgo hst _ (by simp only [execOp, nth]; go_simp <;> omega) rfl
    · intro LL xx ac wc sg hst hwant QQ hgo
      have se59 : ac.eval (.tmp 59) = _ := (sg.slot 4 (sg.anc 4 rfl))
      have sg59 := gt_of se59
      (try simp only [nth] at se59 sg59)
      exact op_val hwant hgo hst _ (by simp only [execOp, nth]; go_simp <;> omega) rfl
    · intro LL xx ac wc sg hst hwant QQ hgo
      exact op_val hwant hgo hst _ (exec_assign rfl (sg.slot 5 (sg.anc 5 rfl))) rfl
    · intro LL xx ac wc sg hst hwant QQ hgo
      exact op_val hwant hgo hst _ (exec_assign rfl (sg.slot 6 (sg.anc 6 rfl))) rfl
  · exact skips [] (by kernel_rfl) (fun _ h => by cases h)
  · intro xx ac1 wz hfr hsl hst
    exact hfin ac1 wz (hfr.size.trans hz) hfr.defers (fr_keep hfr [17, 18, 59, 60, 61, 62, 63, 64, 65] (by kernel_rfl)) (hsl 7 (by decide)) (hsl 8 (by decide)) (Lib.hid hst)
set_option maxRecDepth 20000 in
theorem exact6_w_r17x2 (n : Int) (rc : Nat) (acts : List ActV) (b5 : Nat) (i : Nat) (a : Option Addr) (cc : Nat) (la : Option Addr) (lc : Nat) (l : List PairV) (hi : i ≤ acts.length) (hi2 : i ≤ 100) (hll : l.length ≤ i) (z1ld : i < acts.length) (z1rd : (i : Int) < 100) (y : Addr) (x : ActV) (b9 : Nat) (z2d : ¬ (10 < (x.key.size : Int))) {wa wb : World} (H : Hid (Hp [] wa wb [rB b9 67 [.int .i64 x.kind, .string x.key, .int .i64 x.val], rS la lc 2 (l.map rowOf), rB b5 43 [.int .i64 (kR n), .slice a l.length cc], rS a cc 2 (l.map rowOf), rS (some y) rc 3 (acts.map actRow)])) (ac0 : Act) (hz : ac0.tmps.size = 143) (so15 : ac0.eval (.tmp 15) = .int .i64 ((getR x.key l).1)) (so16 : ac0.eval (.tmp 16) = .bool ((getR x.key l).2)) (so17 : ac0.eval (.tmp 17) = .int .i64 ((getR x.key l).1)) (so18 : ac0.eval (.tmp 18) = .bool ((getR x.key l).2)) {QR : Exit → Act → World → Prop} (hfin : ∀ (ac1 : Act) (wz : World), ac1.tmps.size = 143 → ac1.defers = ac0.defers → (∀ t, ([66, 67, 68, 69, 70, 71, 72, 73] : List Nat).contains t = false → ac1.eval (.tmp t) = ac0.eval (.tmp t)) → ac1.eval (.tmp 73) = .bool false →  Hid (Hp [] wa wz [rB b9 67 [.int .i64 x.kind, .string x.key, .int .i64 x.val], rS la lc 2 (l.map rowOf), rB b5 43 [.int .i64 (kR n), .slice a l.length cc], rS a cc 2 (l.map rowOf), rS (some y) rc 3 (acts.map actRow)]) → QR .normal ac1 wz) : (regAt Try.f8 17).wp Try.prog QR ac0 wb := by
  refine wp_region_sq (by kernel_rfl) 143 hz (by kernel_rfl) (fun (xx : Unit) jx => nth [.int .i64 ((getR x.key l).1), .int .i64 ((getR x.key l).1), .bool false, .bool false, .bool ((getR x.key l).2), .bool ((getR x.key l).2), .bool false, .bool false] jx) (fun (LL : Nat → Bool) (xx : Unit) ww => Hp [] wa ww [rB b9 67 [.int .i64 x.kind, .string x.key, .int .i64 x.val], rS la lc 2 (l.map rowOf), rB b5 43 [.int .i64 (kR n), .slice a l.length cc], rS a cc 2 (l.map rowOf), rS (some y) rc 3 (acts.map actRow)]) () H.out ?_ (steps_al ?_) ?_ ?_
  · exact fun _ _ _ _ _ h => h
  · refine al_cons ?_ (al_cons ?_ (al_cons ?_ (al_cons ?_ (al_cons ?_ (al_cons ?_ (al_cons ?_ (al_cons ?_ (al_nil))))))))
    · intro LL xx ac wc sg hst hwant QQ hgo
      exact op_val hwant hgo hst _ (exec_move rfl ((sg.free 15 (by kernel_rfl)).trans so15)) rfl
    · intro LL xx ac wc sg hst hwant QQ hgo
      exact op_val hwant hgo hst _ (exec_move rfl ((sg.free 17 (by kernel_rfl)).trans so17)) rfl
    · intro LL xx ac wc sg hst hwant QQ hgo
      have se66 : ac.eval (.tmp 66) = _ := (sg.slot 0 (sg.anc 0 rfl))
      have sg66 := gt_of se66
      have se67 : ac.eval (.tmp 67) = _ := (sg.slot 1 (sg.anc 1 rfl))
      have sg67 := gt_of se67
      (try simp only [nth] at se66 sg66 se67 sg67)
      exact op_val hwant hgo hst _ (by simp only [execOp, nth]; go_simp <;> omega) rfl
    · intro LL xx ac wc sg hst hwant QQ hgo
      exact op_val hwant hgo hst _ (exec_move rfl (sg.slot 2 (sg.anc 2 rfl))) rfl
    · intro LL xx ac wc sg hst hwant QQ hgo
      exact op_val hwant hgo hst _ (exec_move rfl ((sg.free 16 (by kernel_rfl)).trans so16)) rfl
    · intro LL xx ac wc sg hst hwant QQ hgo
      exact op_val hwant hgo hst _ (exec_move rfl ((sg.free 18 (by kernel_rfl)).trans so18)) rfl
    · intro LL xx ac wc sg hst hwant QQ hgo
      have se70 : ac.eval (.tmp 70) = _ := (sg.slot 4 (sg.anc 4 rfl))
      have sg70 := gt_of se70
      have se71 : ac.eval (.tmp 71) = _ := (sg.slot 5 (sg.anc 5 rfl))
      have sg71 := gt_of se71
      (try simp only [nth] at se70 sg70 se71 sg71)
      exact op_val hwant hgo hst _ (by simp only [execOp, nth]; go_simp <;> omega) rfl
    · intro LL xx ac wc sg hst hwant QQ hgo
      exact op_val hwant hgo hst (.bool false) (exec_pick (B := false) (U := undef) (V := .bool false) rfl (sg.slot 3 (sg.anc 3 rfl)) (fun h => by cases h) (fun _ => (sg.slot 6 (sg.anc 6 rfl)))) rfl
  · refine skips [4, 5, 6] (by kernel_rfl) ?_
    refine List.forall_mem_cons.2 ⟨?_, List.forall_mem_cons.2 ⟨?_, List.forall_mem_cons.2 ⟨?_, fun _ h => by cases h⟩⟩⟩
    · intro oo hop LL xx ac sg hwant
      cases Option.some.inj hop
      exact absurd ((want_f rfl rfl (sg.slot 3 (sg.anc 3 rfl))).symm.trans hwant) (by decide)
    · intro oo hop LL xx ac sg hwant
      cases Option.some.inj hop
      exact absurd ((want_f rfl rfl (sg.slot 3 (sg.anc 3 rfl))).symm.trans hwant) (by decide)
    · intro oo hop LL xx ac sg hwant
      cases Option.some.inj hop
      exact absurd ((want_f rfl rfl (sg.slot 3 (sg.anc 3 rfl))).symm.trans hwant) (by decide)
  · intro xx ac1 wz hfr hsl hst
    exact hfin ac1 wz (hfr.size.trans hz) hfr.defers (fr_keep hfr [66, 67, 68, 69, 70, 71, 72, 73] (by kernel_rfl)) (hsl 7 (by decide)) (Lib.hid hst)
set_option maxRecDepth 20000 in
theorem exact6_w_r35x14 (n : Int) (rc : Nat) (acts : List ActV) (b5 : Nat) (i : Nat) (a : Option Addr) (cc : Nat) (la : Option Addr) (lc : Nat) (l : List PairV) (hi : i ≤ acts.length) (hi2 : i ≤ 100) (hll : l.length ≤ i) (z1ld : i < acts.length) (z1rd : (i : Int) < 100) (y : Addr) (x : ActV) (b9 : Nat) (z2d : ¬ (10 < (x.key.size : Int))) {wa wb : World} (H : Hid (Hp [] wa wb [rB b9 67 [.int .i64 x.kind, .string x.key, .int .i64 x.val], rS la lc 2 (l.map rowOf), rB b5 43 [.int .i64 (kR n), .slice a l.length cc], rS a cc 2 (l.map rowOf), rS (some y) rc 3 (acts.map actRow)])) (ac0 : Act) (hz : ac0.tmps.size = 143) (so5 : ac0.eval (.tmp 5) = .pointer (some ⟨b5, 0, none⟩)) (so6 : ac0.eval (.tmp 6) = .int .i64 (kR n)) (so7 : ac0.eval (.tmp 7) = .slice la l.length lc) {QR : Exit → Act → World → Prop} (hfin : ∀ (ac1 : Act) (wz : World), ac1.tmps.size = 143 → ac1.defers = ac0.defers → (∀ t, ([128, 129, 130, 131, 132, 133, 134, 135, 136, 137] : List Nat).contains t = false → ac1.eval (.tmp t) = ac0.eval (.tmp t)) → ac1.eval (.tmp 137) = .bool false →  Hid (Hp [] wa wz [rB b9 67 [.int .i64 x.kind, .string x.key, .int .i64 x.val], rS la lc 2 (l.map rowOf), rB b5 43 [.int .i64 (kR n), .slice a l.length cc], rS a cc 2 (l.map rowOf), rS (some y) rc 3 (acts.map actRow)]) → QR .normal ac1 wz) : (regAt Try.f8 35).wp Try.prog QR ac0 wb := by
  refine wp_region_sq (by kernel_rfl) 143 hz (by kernel_rfl) (fun (xx : Unit) jx => nth [.agg #[.int .i64 (kR n), .slice a l.length cc], .slice la l.length lc, .bool true, .bool false, .bool false, .agg #[.int .i64 (kR n), .slice a l.length cc], .int .i64 (kR n), .int .i64 (kR n), .bool false, .bool false] jx) (fun (LL : Nat → Bool) (xx : Unit) ww => Hp [] wa ww [rB b9 67 [.int .i64 x.kind, .string x.key, .int .i64 x.val], rS la lc 2 (l.map rowOf), rB b5 43 [.int .i64 (kR n), .slice a l.length cc], rS a cc 2 (l.map rowOf), rS (some y) rc 3 (acts.map actRow)]) () H.out ?_ (steps_al ?_) ?_ ?_
  · exact fun _ _ _ _ _ h => h
  · refine al_cons ?_ (al_cons ?_ (al_cons ?_ (al_cons ?_ (al_cons ?_ (al_cons ?_ (al_cons ?_ (al_cons ?_ (al_cons ?_ (al_cons ?_ (al_nil))))))))))
    · intro LL xx ac wc sg hst hwant QQ hgo
      have H := Lib.hid hst
      refine hpA_load tyshelf_Shelf_string__int_ H rfl ((sg.free 5 (by kernel_rfl)).trans so5) hwant (by (repeat (first | exact List.Mem.head _ | apply List.Mem.tail))) (by rfl) rfl ?_
      exact hgo _ () _ (fun _ _ => rfl) rfl hst
    · intro LL xx ac wc sg hst hwant QQ hgo
      exact op_val hwant hgo hst _ (exec_move rfl ((sg.free 7 (by kernel_rfl)).trans so7)) rfl
    · intro LL xx ac wc sg hst hwant QQ hgo
      have se128 : ac.eval (.tmp 128) = _ := (sg.slot 0 (sg.anc 0 rfl))
      have sg128 := gt_of se128
      have se129 : ac.eval (.tmp 129) = _ := (sg.slot 1 (sg.anc 1 rfl))
      have sg129 := gt_of se129
      (try simp only [nth] at se128 sg128 se129 sg129)
      have H := Lib.hid hst
      refine op_call hwant hgo 42 _ (by simp only [execOp]; go_simp) (alikeC (kR n) a cc la lc l wc (hp_held H (show rS a cc 2 (l.map rowOf) ∈ _ by (repeat (first | exact List.Mem.head _ | apply List.Mem.tail)))) (hp_held H (show rS la lc 2 (l.map rowOf) ∈ _ by (repeat (first | exact List.Mem.head _ | apply List.Mem.tail)))) (by omega)) ?_
      rintro er wd ⟨rfl, hof⟩
      exact ⟨_, (), rfl, fun _ _ => rfl, rfl, Hp.quiet hst hof⟩
    · intro LL xx ac wc sg hst hwant QQ hgo
      have se130 : ac.eval (.tmp 130) = _ := (sg.slot 2 (sg.anc 2 rfl))
      have sg130 := gt_of se130
      (try simp only [nth] at se130 sg130)
      exact op_val hwant hgo hst _ (by simp only [execOp, nth]; go_simp <;> omega) rfl
    · intro LL xx ac wc sg hst hwant QQ hgo
      exact op_val hwant hgo hst _ (exec_move rfl (sg.slot 3 (sg.anc 3 rfl))) rfl
    · intro LL xx ac wc sg hst hwant QQ hgo
      have H := Lib.hid hst
      refine hpA_load tyshelf_Shelf_string__int_ H rfl ((sg.free 5 (by kernel_rfl)).trans so5) hwant (by (repeat (first | exact List.Mem.head _ | apply List.Mem.tail))) (by rfl) rfl ?_
      exact hgo _ () _ (fun _ _ => rfl) rfl hst
    · intro LL xx ac wc sg hst hwant QQ hgo
      have se133 : ac.eval (.tmp 133) = _ := (sg.slot 5 (sg.anc 5 rfl))
      have sg133 := gt_of se133
      (try simp only [nth] at se133 sg133)
      refine op_call hwant hgo 43 _ (by simp only [execOp]; go_simp) (roomC (kR n) (.slice a l.length cc) wc) ?_
      rintro er wd ⟨rfl, hof⟩
      exact ⟨_, (), rfl, fun _ _ => rfl, rfl, Hp.quiet hst hof⟩
    · intro LL xx ac wc sg hst hwant QQ hgo
      exact op_val hwant hgo hst _ (exec_move rfl ((sg.free 6 (by kernel_rfl)).trans so6)) rfl
    · intro LL xx ac wc sg hst hwant QQ hgo
      have se134 : ac.eval (.tmp 134) = _ := (sg.slot 6 (sg.anc 6 rfl))
      have sg134 := gt_of se134
      have se135 : ac.eval (.tmp 135) = _ := (sg.slot 7 (sg.anc 7 rfl))
      have sg135 := gt_of se135
      (try simp only [nth] at se134 sg134 se135 sg135)
      exact op_val hwant hgo hst _ (by simp only [execOp, nth]; go_simp <;> omega) rfl
    · intro LL xx ac wc sg hst hwant QQ hgo
      exact op_val hwant hgo hst (.bool false) (exec_pick (B := false) (U := undef) (V := .bool false) rfl (sg.slot 4 (sg.anc 4 rfl)) (fun h => by cases h) (fun _ => (sg.slot 8 (sg.anc 8 rfl)))) rfl
  · refine skips [5, 6, 7, 8] (by kernel_rfl) ?_
    refine List.forall_mem_cons.2 ⟨?_, List.forall_mem_cons.2 ⟨?_, List.forall_mem_cons.2 ⟨?_, List.forall_mem_cons.2 ⟨?_, fun _ h => by cases h⟩⟩⟩⟩
    · intro oo hop LL xx ac sg hwant
      cases Option.some.inj hop
      exact absurd ((want_f rfl rfl (sg.slot 4 (sg.anc 4 rfl))).symm.trans hwant) (by decide)
    · intro oo hop LL xx ac sg hwant
      cases Option.some.inj hop
      exact absurd ((want_f rfl rfl (sg.slot 4 (sg.anc 4 rfl))).symm.trans hwant) (by decide)
    · intro oo hop LL xx ac sg hwant
      cases Option.some.inj hop
      exact absurd ((want_f rfl rfl (sg.slot 4 (sg.anc 4 rfl))).symm.trans hwant) (by decide)
    · intro oo hop LL xx ac sg hwant
      cases Option.some.inj hop
      exact absurd ((want_f rfl rfl (sg.slot 4 (sg.anc 4 rfl))).symm.trans hwant) (by decide)
  · intro xx ac1 wz hfr hsl hst
    exact hfin ac1 wz (hfr.size.trans hz) hfr.defers (fr_keep hfr [128, 129, 130, 131, 132, 133, 134, 135, 136, 137] (by kernel_rfl)) (hsl 9 (by decide)) (Lib.hid hst)
set_option maxRecDepth 20000 in
theorem exact6_w_r10x14 (n : Int) (rc : Nat) (acts : List ActV) (b5 : Nat) (i : Nat) (a : Option Addr) (cc : Nat) (la : Option Addr) (lc : Nat) (l : List PairV) (hi : i ≤ acts.length) (hi2 : i ≤ 100) (hll : l.length ≤ i) (z1ld : i < acts.length) (z1rd : (i : Int) < 100) (y : Addr) (x : ActV) (b9 : Nat) (z2d : ¬ (10 < (x.key.size : Int))) {wa wb : World} (H : Hid (Hp [] wa wb [rB b9 67 [.int .i64 x.kind, .string x.key, .int .i64 x.val], rS la lc 2 (l.map rowOf), rB b5 43 [.int .i64 (kR n), .slice a l.length cc], rS a cc 2 (l.map rowOf), rS (some y) rc 3 (acts.map actRow)])) (ac0 : Act) (hz : ac0.tmps.size = 143) (so8 : ac0.eval (.tmp 8) = .int .i64 i) {QR : Exit → Act → World → Prop} (hfin : ∀ (ac1 : Act) (wz : World), ac1.tmps.size = 143 → ac1.defers = ac0.defers → (∀ t, ([8, 40, 41] : List Nat).contains t = false → ac1.eval (.tmp t) = ac0.eval (.tmp t)) → ac1.eval (.tmp 8) = .int .i64 (i + 1) →  Hid (Hp [] wa wz [rB b9 67 [.int .i64 x.kind, .string x.key, .int .i64 x.val], rS la lc 2 (l.map rowOf), rB b5 43 [.int .i64 (kR n), .slice a l.length cc], rS a cc 2 (l.map rowOf), rS (some y) rc 3 (acts.map actRow)]) → QR .normal ac1 wz) : (regAt Try.f8 10).wp Try.prog QR ac0 wb := by
  refine wp_region_sq (by kernel_rfl) 143 hz (by kernel_rfl) (fun (xx : Unit) jx => nth [.int .i64 i, .int .i64 (i + 1), .int .i64 (i + 1)] jx) (fun (LL : Nat → Bool) (xx : Unit) ww => Hp [] wa ww [rB b9 67 [.int .i64 x.kind, .string x.key, .int .i64 x.val], rS la lc 2 (l.map rowOf), rB b5 43 [.int .i64 (kR n), .slice a l.length cc], rS a cc 2 (l.map rowOf), rS (some y) rc 3 (acts.map actRow)]) () H.out ?_ (steps_al ?_) ?_ ?_
  · exact fun _ _ _ _ _ h => h
  · refine al_cons ?_ (al_cons ?_ (al_cons ?_ (al_nil)))
    · intro LL xx ac wc sg hst hwant QQ hgo
      exact op_val hwant hgo hst _ (exec_move rfl ((sg.yet 8 2 (sg.des 2 rfl) (by kernel_rfl)).trans so8)) rfl
    · intro LL xx ac wc sg hst hwant QQ hgo
      have se40 : ac.eval (.tmp 40) = _ := (sg.slot 0 (sg.anc 0 rfl))
      have sg40 := gt_of se40
      (try simp only [nth] at se40 sg40)
      have hnw : IntKind.i64.wrap (i + 1 : Int) = i + 1 := IntWalk.i64_in _ (by omega)
      exact op_val hwant hgo hst _ (by simp only [execOp, nth]; go_simp <;> omega) rfl
    · intro LL xx ac wc sg hst hwant QQ hgo
      exact op_val hwant hgo hst _ (exec_assign rfl (sg.slot 1 (sg.anc 1 rfl))) rfl
  · exact skips [] (by kernel_rfl) (fun _ h => by cases h)
  · intro xx ac1 wz hfr hsl hst
    exact hfin ac1 wz (hfr.size.trans hz) hfr.defers (fr_keep hfr [8, 40, 41] (by kernel_rfl)) (hsl 2 (by decide)) (Lib.hid hst)
set_option maxRecDepth 20000 in
theorem exact6_w_r37 (n : Int) (ra : Option Addr) (rc : Nat) (acts : List ActV) (b5 : Nat) (i : Nat) (a : Option Addr) (cc : Nat) (la : Option Addr) (lc : Nat) (l : List PairV) (hi : i ≤ acts.length) (hi2 : i ≤ 100) (hll : l.length ≤ i) {wa wb : World} (H : Hid (Hp [] wa wb [rS la lc 2 (l.map rowOf), rB b5 43 [.int .i64 (kR n), .slice a l.length cc], rS a cc 2 (l.map rowOf), rS ra rc 3 (acts.map actRow)])) (ac0 : Act) (hz : ac0.tmps.size = 143)  {QR : Exit → Act → World → Prop} (hfin : ∀ (ac1 : Act) (wz : World), ac1.tmps.size = 143 → ac1.defers = ac0.defers → (∀ t, ([19] : List Nat).contains t = false → ac1.eval (.tmp t) = ac0.eval (.tmp t)) → ac1.eval (.tmp 19) = .nilFunc →  Hid (Hp [] wa wz [rS la lc 2 (l.map rowOf), rB b5 43 [.int .i64 (kR n), .slice a l.length cc], rS a cc 2 (l.map rowOf), rS ra rc 3 (acts.map actRow)]) → QR .normal ac1 wz) : (regAt Try.f8 37).wp Try.prog QR ac0 wb := by
  refine wp_region_sq (by kernel_rfl) 143 hz (by kernel_rfl) (fun (xx : Unit) jx => nth [.nilFunc] jx) (fun (LL : Nat → Bool) (xx : Unit) ww => Hp [] wa ww [rS la lc 2 (l.map rowOf), rB b5 43 [.int .i64 (kR n), .slice a l.length cc], rS a cc 2 (l.map rowOf), rS ra rc 3 (acts.map actRow)]) () H.out ?_ (steps_al ?_) ?_ ?_
  · exact fun _ _ _ _ _ h => h
  · refine al_cons ?_ (al_nil)
    · intro LL xx ac wc sg hst hwant QQ hgo
      exact op_val hwant hgo hst _ (exec_assign rfl rfl) rfl
  · exact skips [] (by kernel_rfl) (fun _ h => by cases h)
  · intro xx ac1 wz hfr hsl hst
    exact hfin ac1 wz (hfr.size.trans hz) hfr.defers (fr_keep hfr [19] (by kernel_rfl)) (hsl 0 (by decide)) (Lib.hid hst)
set_option maxRecDepth 20000 in
theorem exact6_w_r38 (n : Int) (ra : Option Addr) (rc : Nat) (acts : List ActV) (b5 : Nat) (i : Nat) (a : Option Addr) (cc : Nat) (la : Option Addr) (lc : Nat) (l : List PairV) (hi : i ≤ acts.length) (hi2 : i ≤ 100) (hll : l.length ≤ i) {wa wb : World} (H : Hid (Hp [] wa wb [rS la lc 2 (l.map rowOf), rB b5 43 [.int .i64 (kR n), .slice a l.length cc], rS a cc 2 (l.map rowOf), rS ra rc 3 (acts.map actRow)])) (ac0 : Act) (hz : ac0.tmps.size = 143) (so5 : ac0.eval (.tmp 5) = .pointer (some ⟨b5, 0, none⟩)) (so19 : ac0.eval (.tmp 19) = .nilFunc) {QR : Exit → Act → World → Prop} (hfin : ∀ (ac1 : Act) (wz : World), ac1.tmps.size = 143 → ac1.defers = ac0.defers → (∀ t, ([4, 138, 139, 140, 141, 142] : List Nat).contains t = false → ac1.eval (.tmp t) = ac0.eval (.tmp t)) → ac1.eval (.tmp 4) = .bool true →  Hid (Hp [] wa wz [rS la lc 2 (l.map rowOf), rB b5 43 [.int .i64 (kR n), .slice a l.length cc], rS a cc 2 (l.map rowOf), rS ra rc 3 (acts.map actRow)]) → QR .normal ac1 wz) : (regAt Try.f8 38).wp Try.prog QR ac0 wb := by
  refine wp_region_st mixedP ⟨[0, 0, 1, 0, 2, 3], by kernel_rfl⟩ [[], [], [0, 1], [], [0, 1, 2, 3], [0, 1, 2, 3, 4]] (by kernel_rfl) (by kernel_rfl) 143 hz (by kernel_rfl) (fun (xx : Unit) jx => nth [.agg #[.int .i64 (kR n), .slice a l.length cc], .nilFunc, .agg #[.int .i64 (kR n), .slice a l.length cc], .agg #[.int .i64 (kR n), .slice a l.length cc], .bool true, .bool true] jx) (fun (LL : Nat → Bool) (xx : Unit) ww => Hp [] wa ww [rS la lc 2 (l.map rowOf), rB b5 43 [.int .i64 (kR n), .slice a l.length cc], rS a cc 2 (l.map rowOf), rS ra rc 3 (acts.map actRow)]) () H.out.drew ?_ (steps_al ?_) ?_ ?_
  · exact fun _ _ _ _ _ h => h
  · refine al_cons ?_ (al_cons ?_ (al_cons ?_ (al_cons ?_ (al_cons ?_ (al_cons ?_ (al_nil))))))
    · intro LL xx ac wc sg hst hwant QQ hgo
      have H := Lib.hid hst
      refine hpA_load tyshelf_Shelf_string__int_ H rfl ((sg.free 5 (by kernel_rfl)).trans so5) hwant (by (repeat (first | exact List.Mem.head _ | apply List.Mem.tail))) (by rfl) rfl ?_
      exact hgo _ () _ (fun _ _ => rfl) rfl hst
    · intro LL xx ac wc sg hst hwant QQ hgo
      exact op_val hwant hgo hst _ (exec_move rfl ((sg.free 19 (by kernel_rfl)).trans so19)) rfl
    · intro LL xx ac wc sg hst hwant QQ hgo
      have se138 : ac.eval (.tmp 138) = _ := (sg.slot 0 (sg.anc 0 rfl))
      have sg138 := gt_of se138
      have se139 : ac.eval (.tmp 139) = _ := (sg.slot 1 (sg.anc 1 rfl))
      have sg139 := gt_of se139
      (try simp only [nth] at se138 sg138 se139 sg139)
      have H := Lib.hid hst
      refine op_call hwant hgo 32 _ (by simp only [execOp]; go_simp) (keepNil (kR n) a cc l wc (hp_held H (show rS a cc 2 (l.map rowOf) ∈ _ by (repeat (first | exact List.Mem.head _ | apply List.Mem.tail))))) ?_
      rintro er wd ⟨rfl, hof⟩
      exact ⟨_, (), rfl, fun _ _ => rfl, rfl, Hp.quiet hst hof⟩
    · intro LL xx ac wc sg hst hwant QQ hgo
      have H := Lib.hid hst
      refine hpA_load tyshelf_Shelf_string__int_ H rfl ((sg.free 5 (by kernel_rfl)).trans so5) hwant (by (repeat (first | exact List.Mem.head _ | apply List.Mem.tail))) (by rfl) rfl ?_
      exact hgo _ () _ (fun _ _ => rfl) rfl hst
    · intro LL xx ac wc sg hst hwant QQ hgo
      have se140 : ac.eval (.tmp 140) = _ := (sg.slot 2 (sg.anc 2 rfl))
      have sg140 := gt_of se140
      have se141 : ac.eval (.tmp 141) = _ := (sg.slot 3 (sg.anc 3 rfl))
      have sg141 := gt_of se141
      (try simp only [nth] at se140 sg140 se141 sg141)
      have H := Lib.hid hst
      refine op_call hwant hgo 30 #[.agg #[.int .i64 (kR n), .slice a l.length cc], .agg #[.int .i64 (kR n), .slice a l.length cc]] (by simp only [execOp]; go_simp) (by have h := equalC (kR n) (kR n) a a cc cc l l wc (hp_held H (show rS a cc 2 (l.map rowOf) ∈ _ by (repeat (first | exact List.Mem.head _ | apply List.Mem.tail)))) (hp_held H (show rS a cc 2 (l.map rowOf) ∈ _ by (repeat (first | exact List.Mem.head _ | apply List.Mem.tail)))) (by omega) (by omega); simpa using h) ?_
      rintro er wd ⟨rfl, hof⟩
      exact ⟨_, (), rfl, fun _ _ => rfl, rfl, Hp.quiet hst hof⟩
    · intro LL xx ac wc sg hst hwant QQ hgo
      exact op_val hwant hgo hst _ (exec_assign rfl (sg.slot 4 (sg.anc 4 rfl))) rfl
  · exact skips [] (by kernel_rfl) (fun _ h => by cases h)
  · intro xx ac1 wz hfr hsl hst
    exact hfin ac1 wz (hfr.size.trans hz) hfr.defers (fr_keep hfr [4, 138, 139, 140, 141, 142] (by kernel_rfl)) (hsl 5 (by decide)) (Lib.hid hst)
set_option maxRecDepth 20000 in
theorem exact6_w_r6 (n : Int) (ra : Option Addr) (rc : Nat) (acts : List ActV) (b5 : Nat) {wa wb : World} (H : Hid (Hp [] wa wb [rB b5 43 [.int .i64 (kR n), .slice none 0 0], rS none 0 2 (([] : List PairV).map rowOf), rS ra rc 3 (acts.map actRow)])) (ac0 : Act) (hz : ac0.tmps.size = 143)  {QR : Exit → Act → World → Prop} (hfin : ∀ (ac1 : Act) (wz : World), ac1.tmps.size = 143 → ac1.defers = ac0.defers → (∀ t, ([6] : List Nat).contains t = false → ac1.eval (.tmp t) = ac0.eval (.tmp t)) → ac1.eval (.tmp 6) = .int .i64 0 →  Hid (Hp [] wa wz [rB b5 43 [.int .i64 (kR n), .slice none 0 0], rS none 0 2 (([] : List PairV).map rowOf), rS ra rc 3 (acts.map actRow)]) → QR .normal ac1 wz) : (regAt Try.f8 6).wp Try.prog QR ac0 wb := by
  refine wp_region_sq (by kernel_rfl) 143 hz (by kernel_rfl) (fun (xx : Unit) jx => nth [.int .i64 0] jx) (fun (LL : Nat → Bool) (xx : Unit) ww => Hp [] wa ww [rB b5 43 [.int .i64 (kR n), .slice none 0 0], rS none 0 2 (([] : List PairV).map rowOf), rS ra rc 3 (acts.map actRow)]) () H.out ?_ (steps_al ?_) ?_ ?_
  · exact fun _ _ _ _ _ h => h
  · refine al_cons ?_ (al_nil)
    · intro LL xx ac wc sg hst hwant QQ hgo
      exact op_val hwant hgo hst _ (exec_assign rfl rfl) rfl
  · exact skips [] (by kernel_rfl) (fun _ h => by cases h)
  · intro xx ac1 wz hfr hsl hst
    exact hfin ac1 wz (hfr.size.trans hz) hfr.defers (fr_keep hfr [6] (by kernel_rfl)) (hsl 0 (by decide)) (Lib.hid hst)
set_option maxHeartbeats 16000000 in
set_option maxRecDepth 20000 in
theorem exact6_w (n : Int) (ra : Option Addr) (rc : Nat) (acts : List ActV) (w : World) (h1 : (rS ra rc 3 (acts.map actRow)).holds w) : Calls Try.prog 8 #[.int .i64 n, .slice ra acts.length rc] w fun e w' => e = .returned (.bool true) ∧ Off [] w w' := by
  have H := Lib.hid (Hp.start [] w)
  have H := hp_old H h1 (by decide)
  clear h1
  have H := hp_none H 2 (by decide)
  replace H : Hid (Hp [] w w [rS none 0 2 (([] : List PairV).map rowOf), rS ra rc 3 (acts.map actRow)]) := H
  refine calls_start Try.func8 rfl 143 rfl (by simp) (fun aa nn dd sl => ?_)
  have ss0 : aa.eval (.tmp 0) = .int .i64 n := sl 0 (by simp)
  have ss1 : aa.eval (.tmp 1) = .slice ra acts.length rc := sl 1 (by simp)
  clear sl
  refine wp_seq_k fun KK1 hK1 => ?_
  refine exact6_w_r0 ra rc acts H aa nn  ?_
  clear H nn
  intro aa ww nn dd1 kp ss4 H
  replace ss0 := (kp 0 rfl).trans ss0
  replace ss1 := (kp 1 rfl).trans ss1
  replace dd := dd1.trans dd
  clear dd1 kp
  refine then_normal ?_
  refine hK1 _ _ ?_
  refine wp_seq_k fun KK2 hK2 => ?_
  refine wp_seq_k fun KK3 hK3 => ?_
  refine exact6_w_r1 ra rc acts H aa nn  ?_
  clear H nn
  intro aa ww nn dd1 kp ss21 H
  replace ss0 := (kp 0 rfl).trans ss0
  replace ss1 := (kp 1 rfl).trans ss1
  replace ss4 := (kp 4 rfl).trans ss4
  replace dd := dd1.trans dd
  clear dd1 kp
  refine then_normal ?_
  refine hK3 _ _ ?_
  refine wp_cond_false ss21 ?_
  refine wp_skip ?_
  refine then_normal ?_
  refine hK2 _ _ ?_
  refine wp_seq_k fun KK4 hK4 => ?_
  refine exact6_w_r3 n ra rc acts H aa nn ss0 ?_
  clear H nn
  intro b5 aa ww nn dd1 kp ss5 H
  replace ss0 := (kp 0 rfl).trans ss0
  replace ss1 := (kp 1 rfl).trans ss1
  replace ss4 := (kp 4 rfl).trans ss4
  replace ss21 := (kp 21 rfl).trans ss21
  replace dd := dd1.trans dd
  clear dd1 kp
  refine then_normal ?_
  refine hK4 _ _ ?_
  refine wp_seq_k fun KK5 hK5 => ?_
  refine exact6_w_r4 n ra rc acts b5 H aa nn ss0 ?_
  clear H nn
  intro aa ww nn dd1 kp ss6 H
  replace ss0 := (kp 0 rfl).trans ss0
  replace ss1 := (kp 1 rfl).trans ss1
  replace ss4 := (kp 4 rfl).trans ss4
  replace ss5 := (kp 5 rfl).trans ss5
  replace ss21 := (kp 21 rfl).trans ss21
  replace dd := dd1.trans dd
  clear dd1 kp
  refine then_normal ?_
  refine hK5 _ _ ?_
  refine wp_seq_k fun KK6 hK6 => ?_
  refine wp_seq_k fun KK7 hK7 => ?_
  refine exact6_w_r5 n ra rc acts b5 H aa nn ss0 ?_
  clear H nn
  intro aa ww nn dd1 kp ss30 H
  replace ss0 := (kp 0 rfl).trans ss0
  replace ss1 := (kp 1 rfl).trans ss1
  replace ss4 := (kp 4 rfl).trans ss4
  replace ss5 := (kp 5 rfl).trans ss5
  replace ss6 := (kp 6 rfl).trans ss6
  replace ss21 := (kp 21 rfl).trans ss21
  replace dd := dd1.trans dd
  clear dd1 kp
  refine then_normal ?_
  refine hK7 _ _ ?_
  have hjn1 : ∀ (aa : Act) (ww : World), aa.tmps.size = 143 → aa.defers = [] → aa.eval (.tmp 0) = .int .i64 n → aa.eval (.tmp 1) = .slice ra acts.length rc → aa.eval (.tmp 4) = .bool false → aa.eval (.tmp 5) = .pointer (some ⟨b5, 0, none⟩) → aa.eval (.tmp 6) = .int .i64 (kR n) → aa.eval (.tmp 21) = .bool false → aa.eval (.tmp 30) = .bool ((decide (n < 1)) || (decide (65536 < n))) → Hid (Hp [] w ww [rB b5 43 [.int .i64 (kR n), .slice none 0 0], rS none 0 2 (([] : List PairV).map rowOf), rS ra rc 3 (acts.map actRow)]) → KK6 aa ww := by
    clear H nn dd ss0 ss1 ss4 ss5 ss6 ss21 ss30
    intro aa ww nn dd ss0 ss1 ss4 ss5 ss6 ss21 ss30 H
    refine hK6 _ _ ?_
    refine wp_seq_k fun KK8 hK8 => ?_
    refine exact6_w_r7 n ra rc acts b5 H aa nn  ?_
    clear H nn
    intro b31 aa ww nn dd1 kp ss7 H
    replace ss0 := (kp 0 rfl).trans ss0
    replace ss1 := (kp 1 rfl).trans ss1
    replace ss4 := (kp 4 rfl).trans ss4
    replace ss5 := (kp 5 rfl).trans ss5
    replace ss6 := (kp 6 rfl).trans ss6
    replace ss21 := (kp 21 rfl).trans ss21
    replace ss30 := (kp 30 rfl).trans ss30
    replace dd := dd1.trans dd
    clear dd1 kp
    refine then_normal ?_
    refine hK8 _ _ ?_
    refine wp_seq_k fun KK9 hK9 => ?_
    refine wp_seq_k fun KK10 hK10 => ?_
    refine exact6_w_r8 n ra rc acts b5 b31 H aa nn  ?_
    clear H nn
    intro aa ww nn dd1 kp ss8 H
    replace ss0 := (kp 0 rfl).trans ss0
    replace ss1 := (kp 1 rfl).trans ss1
    replace ss4 := (kp 4 rfl).trans ss4
    replace ss5 := (kp 5 rfl).trans ss5
    replace ss6 := (kp 6 rfl).trans ss6
    replace ss7 := (kp 7 rfl).trans ss7
    replace ss21 := (kp 21 rfl).trans ss21
    replace ss30 := (kp 30 rfl).trans ss30
    replace dd := dd1.trans dd
    clear dd1 kp
    refine then_normal ?_
    refine hK10 _ _ ?_
    refine wp_block ?_
    replace H := hp_read H 0 rfl
    refine wp_loop (fun ab wv => ∃ i : Nat, ∃ a : Option Addr, ∃ cc : Nat, ∃ la : Option Addr, ∃ lc : Nat, ∃ l : List PairV, i ≤ acts.length ∧ i ≤ 100 ∧ l.length ≤ i ∧ Hid (Sorted l) ∧ Hid (((l.length : Nat) : Int) ≤ kR n) ∧ ab.tmps.size = 143 ∧ ab.defers = [] ∧ ab.eval (.tmp 0) = .int .i64 n ∧ ab.eval (.tmp 1) = .slice ra acts.length rc ∧ ab.eval (.tmp 5) = .pointer (some ⟨b5, 0, none⟩) ∧ ab.eval (.tmp 6) = .int .i64 (kR n) ∧ ab.eval (.tmp 7) = .slice la l.length lc ∧ ab.eval (.tmp 8) = .int .i64 i ∧ ab.eval (.tmp 21) = .bool false ∧ ab.eval (.tmp 30) = .bool ((decide (n < 1)) || (decide (65536 < n))) ∧ Hid (Hp [] w wv [rS la lc 2 (l.map rowOf), rB b5 43 [.int .i64 (kR n), .slice a l.length cc], rS a cc 2 (l.map rowOf), rS ra rc 3 (acts.map actRow)])) (fun ab _ => 100 - (intOf (ab.eval (.tmp 8))).toNat) ⟨0, none, 0, (some ⟨b31, 0, none⟩), 0, [], (Nat.zero_le _), (by omega), (Nat.le_refl _), (Lib.hid List.Pairwise.nil), (Lib.hid (kR_pos n)), nn, dd, ss0, ss1, ss5, ss6, ss7, ss8, ss21, ss30, H⟩ (fun aa wv hI => ?_)
    clear H nn dd ss0 ss1 ss4 ss5 ss6 ss7 ss8 ss21 ss30
    obtain ⟨i, a, cc, la, lc, l, hi, hi2, hll, hs, hrm, nn, dd, ss0, ss1, ss5, ss6, ss7, ss8, ss21, ss30, H⟩ := hI
    have mu1_8 := ss8
    refine wp_seq_k fun KK11 hK11 => ?_
    refine wp_seq_k fun KK12 hK12 => ?_
    refine exact6_w_r9 n ra rc acts b5 i a cc la lc l hi hi2 hll H aa nn ss1 ss8 ?_
    clear H nn
    intro aa ww nn dd1 kp ss39 H
    replace ss0 := (kp 0 rfl).trans ss0
    replace ss1 := (kp 1 rfl).trans ss1
    replace ss5 := (kp 5 rfl).trans ss5
    replace ss6 := (kp 6 rfl).trans ss6
    replace ss7 := (kp 7 rfl).trans ss7
    replace ss8 := (kp 8 rfl).trans ss8
    replace ss21 := (kp 21 rfl).trans ss21
    replace ss30 := (kp 30 rfl).trans ss30
    replace dd := dd1.trans dd
    clear dd1 kp
    refine then_normal ?_
    refine hK12 _ _ ?_
    refine wp_cond_split ss39 (fun z1 => ?_) (fun z1 => ?_)
    · skip
      have z1l : (decide (i < acts.length)) = true := bl z1
      have z1ld : i < acts.length := of_decide_eq_true z1l
      have z1r : (decide ((i : Int) < 100)) = true := br z1
      have z1rd : (i : Int) < 100 := of_decide_eq_true z1r
      obtain ⟨y, rfl⟩ := some_of_row (hp_held H (show rS ra rc 3 (acts.map actRow) ∈ _ by simp)) (i := i) (by simp; omega)
      obtain ⟨x, hx⟩ : ∃ x, acts[i]? = some x := ⟨acts[i], List.getElem?_eq_getElem (by omega)⟩
      have HRx := Lib.hid (show (acts.map actRow)[i]? = some [.int .i64 x.kind, .string x.key, .int .i64 x.val] by rw [List.getElem?_map, hx]; rfl)
      have HXx := Lib.hid hx
      clear hx
      refine wp_skip ?_
      refine then_normal ?_
      refine hK11 _ _ ?_
      refine wp_seq_k fun KK13 hK13 => ?_
      refine wp_block ?_
      refine wp_seq_k fun KK14 hK14 => ?_
      refine exact6_w_r11 n rc acts b5 i a cc la lc l hi hi2 hll z1ld z1rd y x HRx H aa nn ss1 ss8 ?_
      clear H nn
      intro b9 aa ww nn dd1 kp ss9 H
      replace ss0 := (kp 0 rfl).trans ss0
      replace ss1 := (kp 1 rfl).trans ss1
      replace ss5 := (kp 5 rfl).trans ss5
      replace ss6 := (kp 6 rfl).trans ss6
      replace ss7 := (kp 7 rfl).trans ss7
      replace ss8 := (kp 8 rfl).trans ss8
      replace ss21 := (kp 21 rfl).trans ss21
      replace ss30 := (kp 30 rfl).trans ss30
      replace ss39 := (kp 39 rfl).trans ss39
      replace dd := dd1.trans dd
      clear dd1 kp
      refine then_normal ?_
      refine hK14 _ _ ?_
      refine wp_seq_k fun KK15 hK15 => ?_
      refine wp_seq_k fun KK16 hK16 => ?_
      refine exact6_w_r12 n rc acts b5 i a cc la lc l hi hi2 hll z1ld z1rd y x b9 H aa nn ss9 ?_
      clear H nn
      intro aa ww nn dd1 kp ss49 H
      replace ss0 := (kp 0 rfl).trans ss0
      replace ss1 := (kp 1 rfl).trans ss1
      replace ss5 := (kp 5 rfl).trans ss5
      replace ss6 := (kp 6 rfl).trans ss6
      replace ss7 := (kp 7 rfl).trans ss7
      replace ss8 := (kp 8 rfl).trans ss8
      replace ss9 := (kp 9 rfl).trans ss9
      replace ss21 := (kp 21 rfl).trans ss21
      replace ss30 := (kp 30 rfl).trans ss30
      replace ss39 := (kp 39 rfl).trans ss39
      replace dd := dd1.trans dd
      clear dd1 kp
      refine then_normal ?_
      refine hK16 _ _ ?_
      refine wp_cond_split ss49 (fun z2 => ?_) (fun z2 => ?_)
      · skip
        have z2d : 10 < (x.key.size : Int) := of_decide_eq_true z2
        refine wp_seq_k fun KK17 hK17 => ?_
        refine exact6_w_r13 n rc acts b5 i a cc la lc l hi hi2 hll z1ld z1rd y x b9 z2d H aa nn  ?_
        clear H nn
        intro aa ww nn dd1 kp ss4 H
        replace ss0 := (kp 0 rfl).trans ss0
        replace ss1 := (kp 1 rfl).trans ss1
        replace ss5 := (kp 5 rfl).trans ss5
        replace ss6 := (kp 6 rfl).trans ss6
        replace ss7 := (kp 7 rfl).trans ss7
        replace ss8 := (kp 8 rfl).trans ss8
        replace ss9 := (kp 9 rfl).trans ss9
        replace ss21 := (kp 21 rfl).trans ss21
        replace ss30 := (kp 30 rfl).trans ss30
        replace ss39 := (kp 39 rfl).trans ss39
        replace ss49 := (kp 49 rfl).trans ss49
        replace dd := dd1.trans dd
        clear dd1 kp
        refine then_normal ?_
        refine hK17 _ _ ?_
        refine wp_ret ?_
        refine then_ret ?_
        refine block_ret ?_
        refine then_ret ?_
        refine then_ret ?_
        refine block_ret ?_
        refine then_ret ?_
        exact ret1 rfl dd ss4 ⟨rfl, H.out.off⟩
      · skip
        have z2d : ¬ (10 < (x.key.size : Int)) := of_decide_eq_false z2
        refine wp_skip ?_
        refine then_normal ?_
        refine hK15 _ _ ?_
        refine wp_seq_k fun KK18 hK18 => ?_
        refine wp_seq_k fun KK19 hK19 => ?_
        refine exact6_w_r14 n rc acts b5 i a cc la lc l hi hi2 hll z1ld z1rd y x b9 z2d H aa nn ss9 ?_
        clear H nn
        intro aa ww nn dd1 kp ss51 H
        replace ss0 := (kp 0 rfl).trans ss0
        replace ss1 := (kp 1 rfl).trans ss1
        replace ss5 := (kp 5 rfl).trans ss5
        replace ss6 := (kp 6 rfl).trans ss6
        replace ss7 := (kp 7 rfl).trans ss7
        replace ss8 := (kp 8 rfl).trans ss8
        replace ss9 := (kp 9 rfl).trans ss9
        replace ss21 := (kp 21 rfl).trans ss21
        replace ss30 := (kp 30 rfl).trans ss30
        replace ss39 := (kp 39 rfl).trans ss39
        replace ss49 := (kp 49 rfl).trans ss49
        replace dd := dd1.trans dd
        clear dd1 kp
        refine then_normal ?_
        refine hK19 _ _ ?_
        refine wp_block ?_
        refine wp_seq_k fun KK20 hK20 => ?_
        refine wp_seq_k fun KK21 hK21 => ?_
        refine exact6_w_r19 n rc acts b5 i a cc la lc l hi hi2 hll z1ld z1rd y x b9 z2d H aa nn ss51 ?_
        clear H nn
        intro aa ww nn dd1 kp ss74 H
        replace ss0 := (kp 0 rfl).trans ss0
        replace ss1 := (kp 1 rfl).trans ss1
        replace ss5 := (kp 5 rfl).trans ss5
        replace ss6 := (kp 6 rfl).trans ss6
        replace ss7 := (kp 7 rfl).trans ss7
        replace ss8 := (kp 8 rfl).trans ss8
        replace ss9 := (kp 9 rfl).trans ss9
        replace ss21 := (kp 21 rfl).trans ss21
        replace ss30 := (kp 30 rfl).trans ss30
        replace ss39 := (kp 39 rfl).trans ss39
        replace ss49 := (kp 49 rfl).trans ss49
        replace ss51 := (kp 51 rfl).trans ss51
        replace dd := dd1.trans dd
        clear dd1 kp
        refine then_normal ?_
        refine hK21 _ _ ?_
        refine wp_cond_split ss74 (fun z3 => ?_) (fun z3 => ?_)
        · skip
          have z3o : (x.kind != 1) = false := eqq_t z3
          refine wp_skip ?_
          refine then_normal ?_
          refine hK20 _ _ ?_
          refine wp_cond_split ss74 (fun z4 => ?_) (fun z4 => ?_)
          · skip
            refine wp_seq_k fun KK22 hK22 => ?_
            rcases Bool.eq_false_or_eq_true (((!(getR x.key l).2) && (decide (kR n ≤ (l.length : Int))))) with y5 | y5
            · skip
              refine exact6_w_r22 n rc acts b5 i a cc la lc l hi hi2 hll hs hrm z1ld z1rd y x b9 z2d y5 H aa nn ss5 ss9 ?_
              clear H nn
              intro a22_5 c22_5 b10 aa ww nn dd1 kp ss10 ss11 H
              replace ss0 := (kp 0 rfl).trans ss0
              replace ss1 := (kp 1 rfl).trans ss1
              replace ss5 := (kp 5 rfl).trans ss5
              replace ss6 := (kp 6 rfl).trans ss6
              replace ss7 := (kp 7 rfl).trans ss7
              replace ss8 := (kp 8 rfl).trans ss8
              replace ss9 := (kp 9 rfl).trans ss9
              replace ss21 := (kp 21 rfl).trans ss21
              replace ss30 := (kp 30 rfl).trans ss30
              replace ss39 := (kp 39 rfl).trans ss39
              replace ss49 := (kp 49 rfl).trans ss49
              replace ss51 := (kp 51 rfl).trans ss51
              replace ss74 := (kp 74 rfl).trans ss74
              replace dd := dd1.trans dd
              clear dd1 kp
              refine then_normal ?_
              refine hK22 _ _ ?_
              refine wp_seq_k fun KK23 hK23 => ?_
              refine exact6_w_r23 n rc acts b5 i a cc la lc l hi hi2 hll z1ld z1rd y x b9 z2d y5 a22_5 c22_5 b10 H aa nn ss6 ss7 ss9 ?_
              clear H nn
              intro aa ww nn dd1 kp ss12 ss13 H
              replace ss0 := (kp 0 rfl).trans ss0
              replace ss1 := (kp 1 rfl).trans ss1
              replace ss5 := (kp 5 rfl).trans ss5
              replace ss6 := (kp 6 rfl).trans ss6
              replace ss7 := (kp 7 rfl).trans ss7
              replace ss8 := (kp 8 rfl).trans ss8
              replace ss9 := (kp 9 rfl).trans ss9
              replace ss10 := (kp 10 rfl).trans ss10
              replace ss11 := (kp 11 rfl).trans ss11
              replace ss21 := (kp 21 rfl).trans ss21
              replace ss30 := (kp 30 rfl).trans ss30
              replace ss39 := (kp 39 rfl).trans ss39
              replace ss49 := (kp 49 rfl).trans ss49
              replace ss51 := (kp 51 rfl).trans ss51
              replace ss74 := (kp 74 rfl).trans ss74
              replace dd := dd1.trans dd
              clear dd1 kp
              refine then_normal ?_
              refine hK23 _ _ ?_
              refine wp_seq_k fun KK24 hK24 => ?_
              refine wp_seq_k fun KK25 hK25 => ?_
              refine exact6_w_r24 n rc acts b5 i a cc la lc l hi hi2 hll z1ld z1rd y x b9 z2d a22_5 c22_5 b10 H aa nn ss11 ss13 ?_
              clear H nn
              intro aa ww nn dd1 kp ss99 H
              replace ss0 := (kp 0 rfl).trans ss0
              replace ss1 := (kp 1 rfl).trans ss1
              replace ss5 := (kp 5 rfl).trans ss5
              replace ss6 := (kp 6 rfl).trans ss6
              replace ss7 := (kp 7 rfl).trans ss7
              replace ss8 := (kp 8 rfl).trans ss8
              replace ss9 := (kp 9 rfl).trans ss9
              replace ss10 := (kp 10 rfl).trans ss10
              replace ss11 := (kp 11 rfl).trans ss11
              replace ss12 := (kp 12 rfl).trans ss12
              replace ss13 := (kp 13 rfl).trans ss13
              replace ss21 := (kp 21 rfl).trans ss21
              replace ss30 := (kp 30 rfl).trans ss30
              replace ss39 := (kp 39 rfl).trans ss39
              replace ss49 := (kp 49 rfl).trans ss49
              replace ss51 := (kp 51 rfl).trans ss51
              replace ss74 := (kp 74 rfl).trans ss74
              replace dd := dd1.trans dd
              clear dd1 kp
              refine then_normal ?_
              refine hK25 _ _ ?_
              refine wp_cond_false ss99 ?_
              refine wp_skip ?_
              refine then_normal ?_
              refine hK24 _ _ ?_
              refine wp_seq_k fun KK26 hK26 => ?_
              refine exact6_w_r26 n rc acts b5 i a cc la lc l hi hi2 hll z1ld z1rd y x b9 z2d a22_5 c22_5 b10 H aa nn ss5 ss10 ?_
              clear H nn
              intro aa ww nn dd1 kp H
              replace ss0 := (kp 0 rfl).trans ss0
              replace ss1 := (kp 1 rfl).trans ss1
              replace ss5 := (kp 5 rfl).trans ss5
              replace ss6 := (kp 6 rfl).trans ss6
              replace ss7 := (kp 7 rfl).trans ss7
              replace ss8 := (kp 8 rfl).trans ss8
              replace ss9 := (kp 9 rfl).trans ss9
              replace ss10 := (kp 10 rfl).trans ss10
              replace ss11 := (kp 11 rfl).trans ss11
              replace ss12 := (kp 12 rfl).trans ss12
              replace ss13 := (kp 13 rfl).trans ss13
              replace ss21 := (kp 21 rfl).trans ss21
              replace ss30 := (kp 30 rfl).trans ss30
              replace ss39 := (kp 39 rfl).trans ss39
              replace ss49 := (kp 49 rfl).trans ss49
              replace ss51 := (kp 51 rfl).trans ss51
              replace ss74 := (kp 74 rfl).trans ss74
              replace ss99 := (kp 99 rfl).trans ss99
              replace dd := dd1.trans dd
              clear dd1 kp
              refine then_normal ?_
              refine hK26 _ _ ?_
              refine exact6_w_r27 n rc acts b5 i a cc la lc l hi hi2 hll z1ld z1rd y x b9 z2d a22_5 c22_5 b10 H aa nn ss12 ?_
              clear H nn ss7
              intro aa ww nn dd1 kp ss7 H
              replace ss0 := (kp 0 rfl).trans ss0
              replace ss1 := (kp 1 rfl).trans ss1
              replace ss5 := (kp 5 rfl).trans ss5
              replace ss6 := (kp 6 rfl).trans ss6
              replace ss8 := (kp 8 rfl).trans ss8
              replace ss9 := (kp 9 rfl).trans ss9
              replace ss10 := (kp 10 rfl).trans ss10
              replace ss11 := (kp 11 rfl).trans ss11
              replace ss12 := (kp 12 rfl).trans ss12
              replace ss13 := (kp 13 rfl).trans ss13
              replace ss21 := (kp 21 rfl).trans ss21
              replace ss30 := (kp 30 rfl).trans ss30
              replace ss39 := (kp 39 rfl).trans ss39
              replace ss49 := (kp 49 rfl).trans ss49
              replace ss51 := (kp 51 rfl).trans ss51
              replace ss74 := (kp 74 rfl).trans ss74
              replace ss99 := (kp 99 rfl).trans ss99
              replace dd := dd1.trans dd
              clear dd1 kp
              refine block_normal ?_
              refine then_normal ?_
              refine hK18 _ _ ?_
              refine wp_seq_k fun KK27 hK27 => ?_
              refine exact6_w_r35 n rc acts b5 i a cc la lc l hi hi2 hll z1ld z1rd y x b9 z2d a22_5 c22_5 b10 H aa nn ss5 ss6 ss7 ?_
              clear H nn
              intro aa ww nn dd1 kp ss137 H
              replace ss0 := (kp 0 rfl).trans ss0
              replace ss1 := (kp 1 rfl).trans ss1
              replace ss5 := (kp 5 rfl).trans ss5
              replace ss6 := (kp 6 rfl).trans ss6
              replace ss7 := (kp 7 rfl).trans ss7
              replace ss8 := (kp 8 rfl).trans ss8
              replace ss9 := (kp 9 rfl).trans ss9
              replace ss10 := (kp 10 rfl).trans ss10
              replace ss11 := (kp 11 rfl).trans ss11
              replace ss12 := (kp 12 rfl).trans ss12
              replace ss13 := (kp 13 rfl).trans ss13
              replace ss21 := (kp 21 rfl).trans ss21
              replace ss30 := (kp 30 rfl).trans ss30
              replace ss39 := (kp 39 rfl).trans ss39
              replace ss49 := (kp 49 rfl).trans ss49
              replace ss51 := (kp 51 rfl).trans ss51
              replace ss74 := (kp 74 rfl).trans ss74
              replace ss99 := (kp 99 rfl).trans ss99
              replace dd := dd1.trans dd
              clear dd1 kp
              refine then_normal ?_
              refine hK27 _ _ ?_
              refine wp_cond_false ss137 ?_
              refine wp_skip ?_
              refine block_normal ?_
              refine then_normal ?_
              refine hK13 _ _ ?_
              refine exact6_w_r10 n rc acts b5 i a cc la lc l hi hi2 hll z1ld z1rd y x b9 z2d a22_5 c22_5 b10 H aa nn ss8 ?_
              clear H nn ss8
              intro aa ww nn dd1 kp ss8 H
              replace ss0 := (kp 0 rfl).trans ss0
              replace ss1 := (kp 1 rfl).trans ss1
              replace ss5 := (kp 5 rfl).trans ss5
              replace ss6 := (kp 6 rfl).trans ss6
              replace ss7 := (kp 7 rfl).trans ss7
              replace ss9 := (kp 9 rfl).trans ss9
              replace ss10 := (kp 10 rfl).trans ss10
              replace ss11 := (kp 11 rfl).trans ss11
              replace ss12 := (kp 12 rfl).trans ss12
              replace ss13 := (kp 13 rfl).trans ss13
              replace ss21 := (kp 21 rfl).trans ss21
              replace ss30 := (kp 30 rfl).trans ss30
              replace ss39 := (kp 39 rfl).trans ss39
              replace ss49 := (kp 49 rfl).trans ss49
              replace ss51 := (kp 51 rfl).trans ss51
              replace ss74 := (kp 74 rfl).trans ss74
              replace ss99 := (kp 99 rfl).trans ss99
              replace ss137 := (kp 137 rfl).trans ss137
              replace dd := dd1.trans dd
              clear dd1 kp
              refine then_normal ?_
              replace H := hp_front H 6 rfl
              replace H := hp_front H 2 rfl
              replace H := hp_front H 5 rfl
              replace H := hp_front H 5 rfl
              refine ⟨⟨i + 1, a22_5, c22_5, la, lc, l, (by omega), (by omega), (by first | omega | exact Nat.le_trans (few_with _ _ _ _) (by omega) | exact Nat.le_trans (List.length_filter_le _ _) (by omega)), (by first | exact hs | exact Lib.hid (sorted_with hs.out _ _ _) | exact Lib.hid (List.Pairwise.filter _ hs.out)), (by first | exact hrm | exact Lib.hid (len_with hrm.out) | exact Lib.hid (Int.le_trans (Int.ofNat_le.2 (List.length_filter_le _ _)) hrm.out)), nn, dd, ss0, ss1, ss5, ss6, ss7, ss8, ss21, ss30, (hp_take H 4)⟩, ?_⟩
              simp only [mu1_8, ss8, intOf]
              omega
            · skip
              refine exact6_w_r22x1 n rc acts b5 i a cc la lc l hi hi2 hll hs z1ld z1rd y x b9 z2d y5 H aa nn ss5 ss9 ?_
              clear H nn
              intro a22_5 c22_5 b10 aa ww nn dd1 kp ss10 ss11 H
              replace ss0 := (kp 0 rfl).trans ss0
              replace ss1 := (kp 1 rfl).trans ss1
              replace ss5 := (kp 5 rfl).trans ss5
              replace ss6 := (kp 6 rfl).trans ss6
              replace ss7 := (kp 7 rfl).trans ss7
              replace ss8 := (kp 8 rfl).trans ss8
              replace ss9 := (kp 9 rfl).trans ss9
              replace ss21 := (kp 21 rfl).trans ss21
              replace ss30 := (kp 30 rfl).trans ss30
              replace ss39 := (kp 39 rfl).trans ss39
              replace ss49 := (kp 49 rfl).trans ss49
              replace ss51 := (kp 51 rfl).trans ss51
              replace ss74 := (kp 74 rfl).trans ss74
              replace dd := dd1.trans dd
              clear dd1 kp
              refine then_normal ?_
              refine hK22 _ _ ?_
              refine wp_seq_k fun KK28 hK28 => ?_
              refine exact6_w_r23x1 n rc acts b5 i a cc la lc l hi hi2 hll hs z1ld z1rd y x b9 z2d y5 a22_5 c22_5 b10 H aa nn ss6 ss7 ss9 ?_
              clear H nn
              intro a23_6 c23_6 aa ww nn dd1 kp ss12 ss13 H
              replace ss0 := (kp 0 rfl).trans ss0
              replace ss1 := (kp 1 rfl).trans ss1
              replace ss5 := (kp 5 rfl).trans ss5
              replace ss6 := (kp 6 rfl).trans ss6
              replace ss7 := (kp 7 rfl).trans ss7
              replace ss8 := (kp 8 rfl).trans ss8
              replace ss9 := (kp 9 rfl).trans ss9
              replace ss10 := (kp 10 rfl).trans ss10
              replace ss11 := (kp 11 rfl).trans ss11
              replace ss21 := (kp 21 rfl).trans ss21
              replace ss30 := (kp 30 rfl).trans ss30
              replace ss39 := (kp 39 rfl).trans ss39
              replace ss49 := (kp 49 rfl).trans ss49
              replace ss51 := (kp 51 rfl).trans ss51
              replace ss74 := (kp 74 rfl).trans ss74
              replace dd := dd1.trans dd
              clear dd1 kp
              refine then_normal ?_
              refine hK28 _ _ ?_
              refine wp_seq_k fun KK29 hK29 => ?_
              refine wp_seq_k fun KK30 hK30 => ?_
              refine exact6_w_r24x1 n rc acts b5 i a cc la lc l hi hi2 hll z1ld z1rd y x b9 z2d a22_5 c22_5 b10 a23_6 c23_6 H aa nn ss11 ss13 ?_
              clear H nn
              intro aa ww nn dd1 kp ss99 H
              replace ss0 := (kp 0 rfl).trans ss0
              replace ss1 := (kp 1 rfl).trans ss1
              replace ss5 := (kp 5 rfl).trans ss5
              replace ss6 := (kp 6 rfl).trans ss6
              replace ss7 := (kp 7 rfl).trans ss7
              replace ss8 := (kp 8 rfl).trans ss8
              replace ss9 := (kp 9 rfl).trans ss9
              replace ss10 := (kp 10 rfl).trans ss10
              replace ss11 := (kp 11 rfl).trans ss11
              replace ss12 := (kp 12 rfl).trans ss12
              replace ss13 := (kp 13 rfl).trans ss13
              replace ss21 := (kp 21 rfl).trans ss21
              replace ss30 := (kp 30 rfl).trans ss30
              replace ss39 := (kp 39 rfl).trans ss39
              replace ss49 := (kp 49 rfl).trans ss49
              replace ss51 := (kp 51 rfl).trans ss51
              replace ss74 := (kp 74 rfl).trans ss74
              replace dd := dd1.trans dd
              clear dd1 kp
              refine then_normal ?_
              refine hK30 _ _ ?_
              refine wp_cond_false ss99 ?_
              refine wp_skip ?_
              refine then_normal ?_
              refine hK29 _ _ ?_
              refine wp_seq_k fun KK31 hK31 => ?_
              refine exact6_w_r26x1 n rc acts b5 i a cc la lc l hi hi2 hll z1ld z1rd y x b9 z2d a22_5 c22_5 b10 a23_6 c23_6 H aa nn ss5 ss10 ?_
              clear H nn
              intro aa ww nn dd1 kp H
              replace ss0 := (kp 0 rfl).trans ss0
              replace ss1 := (kp 1 rfl).trans ss1
              replace ss5 := (kp 5 rfl).trans ss5
              replace ss6 := (kp 6 rfl).trans ss6
              replace ss7 := (kp 7 rfl).trans ss7
              replace ss8 := (kp 8 rfl).trans ss8
              replace ss9 := (kp 9 rfl).trans ss9
              replace ss10 := (kp 10 rfl).trans ss10
              replace ss11 := (kp 11 rfl).trans ss11
              replace ss12 := (kp 12 rfl).trans ss12
              replace ss13 := (kp 13 rfl).trans ss13
              replace ss21 := (kp 21 rfl).trans ss21
              replace ss30 := (kp 30 rfl).trans ss30
              replace ss39 := (kp 39 rfl).trans ss39
              replace ss49 := (kp 49 rfl).trans ss49
              replace ss51 := (kp 51 rfl).trans ss51
              replace ss74 := (kp 74 rfl).trans ss74
              replace ss99 := (kp 99 rfl).trans ss99
              replace dd := dd1.trans dd
              clear dd1 kp
              refine then_normal ?_
              refine hK31 _ _ ?_
              refine exact6_w_r27x1 n rc acts b5 i a cc la lc l hi hi2 hll z1ld z1rd y x b9 z2d a22_5 c22_5 b10 a23_6 c23_6 H aa nn ss12 ?_
              clear H nn ss7
              intro aa ww nn dd1 kp ss7 H
              replace ss0 := (kp 0 rfl).trans ss0
              replace ss1 := (kp 1 rfl).trans ss1
              replace ss5 := (kp 5 rfl).trans ss5
              replace ss6 := (kp 6 rfl).trans ss6
              replace ss8 := (kp 8 rfl).trans ss8
              replace ss9 := (kp 9 rfl).trans ss9
              replace ss10 := (kp 10 rfl).trans ss10
              replace ss11 := (kp 11 rfl).trans ss11
              replace ss12 := (kp 12 rfl).trans ss12
              replace ss13 := (kp 13 rfl).trans ss13
              replace ss21 := (kp 21 rfl).trans ss21
              replace ss30 := (kp 30 rfl).trans ss30
              replace ss39 := (kp 39 rfl).trans ss39
              replace ss49 := (kp 49 rfl).trans ss49
              replace ss51 := (kp 51 rfl).trans ss51
              replace ss74 := (kp 74 rfl).trans ss74
              replace ss99 := (kp 99 rfl).trans ss99
              replace dd := dd1.trans dd
              clear dd1 kp
              refine block_normal ?_
              refine then_normal ?_
              refine hK18 _ _ ?_
              refine wp_seq_k fun KK32 hK32 => ?_
              refine exact6_w_r35x1 n rc acts b5 i a cc la lc l hi hi2 hll z1ld z1rd y x b9 z2d a22_5 c22_5 b10 a23_6 c23_6 H aa nn ss5 ss6 ss7 ?_
              clear H nn
              intro aa ww nn dd1 kp ss137 H
              replace ss0 := (kp 0 rfl).trans ss0
              replace ss1 := (kp 1 rfl).trans ss1
              replace ss5 := (kp 5 rfl).trans ss5
              replace ss6 := (kp 6 rfl).trans ss6
              replace ss7 := (kp 7 rfl).trans ss7
              replace ss8 := (kp 8 rfl).trans ss8
              replace ss9 := (kp 9 rfl).trans ss9
              replace ss10 := (kp 10 rfl).trans ss10
              replace ss11 := (kp 11 rfl).trans ss11
              replace ss12 := (kp 12 rfl).trans ss12
              replace ss13 := (kp 13 rfl).trans ss13
              replace ss21 := (kp 21 rfl).trans ss21
              replace ss30 := (kp 30 rfl).trans ss30
              replace ss39 := (kp 39 rfl).trans ss39
              replace ss49 := (kp 49 rfl).trans ss49
              replace ss51 := (kp 51 rfl).trans ss51
              replace ss74 := (kp 74 rfl).trans ss74
              replace ss99 := (kp 99 rfl).trans ss99
              replace dd := dd1.trans dd
              clear dd1 kp
              refine then_normal ?_
              refine hK32 _ _ ?_
              refine wp_cond_false ss137 ?_
              refine wp_skip ?_
              refine block_normal ?_
              refine then_normal ?_
              refine hK13 _ _ ?_
              refine exact6_w_r10x1 n rc acts b5 i a cc la lc l hi hi2 hll z1ld z1rd y x b9 z2d a22_5 c22_5 b10 a23_6 c23_6 H aa nn ss8 ?_
              clear H nn ss8
              intro aa ww nn dd1 kp ss8 H
              replace ss0 := (kp 0 rfl).trans ss0
              replace ss1 := (kp 1 rfl).trans ss1
              replace ss5 := (kp 5 rfl).trans ss5
              replace ss6 := (kp 6 rfl).trans ss6
              replace ss7 := (kp 7 rfl).trans ss7
              replace ss9 := (kp 9 rfl).trans ss9
              replace ss10 := (kp 10 rfl).trans ss10
              replace ss11 := (kp 11 rfl).trans ss11
              replace ss12 := (kp 12 rfl).trans ss12
              replace ss13 := (kp 13 rfl).trans ss13
              replace ss21 := (kp 21 rfl).trans ss21
              replace ss30 := (kp 30 rfl).trans ss30
              replace ss39 := (kp 39 rfl).trans ss39
              replace ss49 := (kp 49 rfl).trans ss49
              replace ss51 := (kp 51 rfl).trans ss51
              replace ss74 := (kp 74 rfl).trans ss74
              replace ss99 := (kp 99 rfl).trans ss99
              replace ss137 := (kp 137 rfl).trans ss137
              replace dd := dd1.trans dd
              clear dd1 kp
              refine then_normal ?_
              replace H := hp_front H 7 rfl
              replace H := hp_front H 3 rfl
              replace H := hp_front H 6 rfl
              replace H := hp_front H 3 rfl
              refine ⟨⟨i + 1, a22_5, c22_5, a23_6, c23_6, (withV (kR n) x.key x.val l).1, (by omega), (by omega), (by first | omega | exact Nat.le_trans (few_with _ _ _ _) (by omega) | exact Nat.le_trans (List.length_filter_le _ _) (by omega)), (by first | exact hs | exact Lib.hid (sorted_with hs.out _ _ _) | exact Lib.hid (List.Pairwise.filter _ hs.out)), (by first | exact hrm | exact Lib.hid (len_with hrm.out) | exact Lib.hid (Int.le_trans (Int.ofNat_le.2 (List.length_filter_le _ _)) hrm.out)), nn, dd, ss0, ss1, ss5, ss6, ss7, ss8, ss21, ss30, (hp_take H 4)⟩, ?_⟩
              simp only [mu1_8, ss8, intOf]
              omega
          · skip
            refine wp_seq_k fun KK33 hK33 => ?_
            refine exact6_w_r28 n rc acts b5 i a cc la lc l hi hi2 hll z1ld z1rd y x b9 z2d H aa nn ss51 ?_
            clear H nn
            intro aa ww nn dd1 kp ss102 H
            replace ss0 := (kp 0 rfl).trans ss0
            replace ss1 := (kp 1 rfl).trans ss1
            replace ss5 := (kp 5 rfl).trans ss5
            replace ss6 := (kp 6 rfl).trans ss6
            replace ss7 := (kp 7 rfl).trans ss7
            replace ss8 := (kp 8 rfl).trans ss8
            replace ss9 := (kp 9 rfl).trans ss9
            replace ss21 := (kp 21 rfl).trans ss21
            replace ss30 := (kp 30 rfl).trans ss30
            replace ss39 := (kp 39 rfl).trans ss39
            replace ss49 := (kp 49 rfl).trans ss49
            replace ss51 := (kp 51 rfl).trans ss51
            replace ss74 := (kp 74 rfl).trans ss74
            replace dd := dd1.trans dd
            clear dd1 kp
            refine then_normal ?_
            refine hK33 _ _ ?_
            refine wp_cond_split ss102 (fun z6 => ?_) (fun z6 => ?_)
            · skip
              have z6o : (x.kind != 4) = false := eqq_t z6
              refine wp_seq_k fun KK34 hK34 => ?_
              refine exact6_w_r29 n rc acts b5 i a cc la lc l hi hi2 hll hs z1ld z1rd y x b9 z2d H aa nn ss5 ss9 ?_
              clear H nn
              intro a29_3 c29_3 aa ww nn dd1 kp H
              replace ss0 := (kp 0 rfl).trans ss0
              replace ss1 := (kp 1 rfl).trans ss1
              replace ss5 := (kp 5 rfl).trans ss5
              replace ss6 := (kp 6 rfl).trans ss6
              replace ss7 := (kp 7 rfl).trans ss7
              replace ss8 := (kp 8 rfl).trans ss8
              replace ss9 := (kp 9 rfl).trans ss9
              replace ss21 := (kp 21 rfl).trans ss21
              replace ss30 := (kp 30 rfl).trans ss30
              replace ss39 := (kp 39 rfl).trans ss39
              replace ss49 := (kp 49 rfl).trans ss49
              replace ss51 := (kp 51 rfl).trans ss51
              replace ss74 := (kp 74 rfl).trans ss74
              replace ss102 := (kp 102 rfl).trans ss102
              replace dd := dd1.trans dd
              clear dd1 kp
              refine then_normal ?_
              refine hK34 _ _ ?_
              refine exact6_w_r30 n rc acts b5 i a cc la lc l hi hi2 hll z1ld z1rd y x b9 z2d a29_3 c29_3 H aa nn ss7 ss9 ?_
              clear H nn ss7
              intro a30_3 c30_3 aa ww nn dd1 kp ss7 H
              replace ss0 := (kp 0 rfl).trans ss0
              replace ss1 := (kp 1 rfl).trans ss1
              replace ss5 := (kp 5 rfl).trans ss5
              replace ss6 := (kp 6 rfl).trans ss6
              replace ss8 := (kp 8 rfl).trans ss8
              replace ss9 := (kp 9 rfl).trans ss9
              replace ss21 := (kp 21 rfl).trans ss21
              replace ss30 := (kp 30 rfl).trans ss30
              replace ss39 := (kp 39 rfl).trans ss39
              replace ss49 := (kp 49 rfl).trans ss49
              replace ss51 := (kp 51 rfl).trans ss51
              replace ss74 := (kp 74 rfl).trans ss74
              replace ss102 := (kp 102 rfl).trans ss102
              replace dd := dd1.trans dd
              clear dd1 kp
              refine block_normal ?_
              refine then_normal ?_
              refine hK18 _ _ ?_
              refine wp_seq_k fun KK35 hK35 => ?_
              refine exact6_w_r35x2 n rc acts b5 i a cc la lc l hi hi2 hll z1ld z1rd y x b9 z2d a29_3 c29_3 a30_3 c30_3 H aa nn ss5 ss6 ss7 ?_
              clear H nn
              intro aa ww nn dd1 kp ss137 H
              replace ss0 := (kp 0 rfl).trans ss0
              replace ss1 := (kp 1 rfl).trans ss1
              replace ss5 := (kp 5 rfl).trans ss5
              replace ss6 := (kp 6 rfl).trans ss6
              replace ss7 := (kp 7 rfl).trans ss7
              replace ss8 := (kp 8 rfl).trans ss8
              replace ss9 := (kp 9 rfl).trans ss9
              replace ss21 := (kp 21 rfl).trans ss21
              replace ss30 := (kp 30 rfl).trans ss30
              replace ss39 := (kp 39 rfl).trans ss39
              replace ss49 := (kp 49 rfl).trans ss49
              replace ss51 := (kp 51 rfl).trans ss51
              replace ss74 := (kp 74 rfl).trans ss74
              replace ss102 := (kp 102 rfl).trans ss102
              replace dd := dd1.trans dd
              clear dd1 kp
              refine then_normal ?_
              refine hK35 _ _ ?_
              refine wp_cond_false ss137 ?_
              refine wp_skip ?_
              refine block_normal ?_
              refine then_normal ?_
              refine hK13 _ _ ?_
              refine exact6_w_r10x2 n rc acts b5 i a cc la lc l hi hi2 hll z1ld z1rd y x b9 z2d a29_3 c29_3 a30_3 c30_3 H aa nn ss8 ?_
              clear H nn ss8
              intro aa ww nn dd1 kp ss8 H
              replace ss0 := (kp 0 rfl).trans ss0
              replace ss1 := (kp 1 rfl).trans ss1
              replace ss5 := (kp 5 rfl).trans ss5
              replace ss6 := (kp 6 rfl).trans ss6
              replace ss7 := (kp 7 rfl).trans ss7
              replace ss9 := (kp 9 rfl).trans ss9
              replace ss21 := (kp 21 rfl).trans ss21
              replace ss30 := (kp 30 rfl).trans ss30
              replace ss39 := (kp 39 rfl).trans ss39
              replace ss49 := (kp 49 rfl).trans ss49
              replace ss51 := (kp 51 rfl).trans ss51
              replace ss74 := (kp 74 rfl).trans ss74
              replace ss102 := (kp 102 rfl).trans ss102
              replace ss137 := (kp 137 rfl).trans ss137
              replace dd := dd1.trans dd
              clear dd1 kp
              refine then_normal ?_
              replace H := hp_front H 6 rfl
              replace H := hp_front H 2 rfl
              replace H := hp_front H 5 rfl
              replace H := hp_front H 3 rfl
              refine ⟨⟨i + 1, a29_3, c29_3, a30_3, c30_3, (l.filter (keepN x.key)), (by omega), (by omega), (by first | omega | exact Nat.le_trans (few_with _ _ _ _) (by omega) | exact Nat.le_trans (List.length_filter_le _ _) (by omega)), (by first | exact hs | exact Lib.hid (sorted_with hs.out _ _ _) | exact Lib.hid (List.Pairwise.filter _ hs.out)), (by first | exact hrm | exact Lib.hid (len_with hrm.out) | exact Lib.hid (Int.le_trans (Int.ofNat_le.2 (List.length_filter_le _ _)) hrm.out)), nn, dd, ss0, ss1, ss5, ss6, ss7, ss8, ss21, ss30, (hp_take H 4)⟩, ?_⟩
              simp only [mu1_8, ss8, intOf]
              omega
            · skip
              have z6o : (x.kind != 4) = true := eqq_f z6
              refine wp_seq_k fun KK36 hK36 => ?_
              refine exact6_w_r31 n rc acts b5 i a cc la lc l hi hi2 hll z1ld z1rd y x b9 z2d H aa nn ss51 ?_
              clear H nn
              intro aa ww nn dd1 kp ss112 H
              replace ss0 := (kp 0 rfl).trans ss0
              replace ss1 := (kp 1 rfl).trans ss1
              replace ss5 := (kp 5 rfl).trans ss5
              replace ss6 := (kp 6 rfl).trans ss6
              replace ss7 := (kp 7 rfl).trans ss7
              replace ss8 := (kp 8 rfl).trans ss8
              replace ss9 := (kp 9 rfl).trans ss9
              replace ss21 := (kp 21 rfl).trans ss21
              replace ss30 := (kp 30 rfl).trans ss30
              replace ss39 := (kp 39 rfl).trans ss39
              replace ss49 := (kp 49 rfl).trans ss49
              replace ss51 := (kp 51 rfl).trans ss51
              replace ss74 := (kp 74 rfl).trans ss74
              replace ss102 := (kp 102 rfl).trans ss102
              replace dd := dd1.trans dd
              clear dd1 kp
              refine then_normal ?_
              refine hK36 _ _ ?_
              refine wp_cond_split ss112 (fun z7 => ?_) (fun z7 => ?_)
              · skip
                have z7o : (x.kind != 5) = false := eqq_t z7
                refine wp_seq_k fun KK37 hK37 => ?_
                obtain ⟨m, hm1, hm⟩ := mod_at x.val (n := 3) (by omega) (by omega)
                replace hm : IntKind.i64.wrap ((IntKind.u64.wrap x.val).tmod 3) = (m : Int) := hm
                refine exact6_w_r32 n rc acts b5 i a cc la lc l hi hi2 hll z1ld z1rd y x b9 z2d m hm1 hm H aa nn ss9 ?_
                clear H nn
                intro aa ww nn dd1 kp ss14 H
                replace ss0 := (kp 0 rfl).trans ss0
                replace ss1 := (kp 1 rfl).trans ss1
                replace ss5 := (kp 5 rfl).trans ss5
                replace ss6 := (kp 6 rfl).trans ss6
                replace ss7 := (kp 7 rfl).trans ss7
                replace ss8 := (kp 8 rfl).trans ss8
                replace ss9 := (kp 9 rfl).trans ss9
                replace ss21 := (kp 21 rfl).trans ss21
                replace ss30 := (kp 30 rfl).trans ss30
                replace ss39 := (kp 39 rfl).trans ss39
                replace ss49 := (kp 49 rfl).trans ss49
                replace ss51 := (kp 51 rfl).trans ss51
                replace ss74 := (kp 74 rfl).trans ss74
                replace ss102 := (kp 102 rfl).trans ss102
                replace ss112 := (kp 112 rfl).trans ss112
                replace dd := dd1.trans dd
                clear dd1 kp
                refine then_normal ?_
                refine hK37 _ _ ?_
                refine wp_seq_k fun KK38 hK38 => ?_
                refine exact6_w_r33 n rc acts b5 i a cc la lc l hi hi2 hll z1ld z1rd y x b9 z2d m hm1 hm H aa nn ss5 ss14 ?_
                clear H nn
                intro a33_4 c33_4 aa ww nn dd1 kp H
                replace ss0 := (kp 0 rfl).trans ss0
                replace ss1 := (kp 1 rfl).trans ss1
                replace ss5 := (kp 5 rfl).trans ss5
                replace ss6 := (kp 6 rfl).trans ss6
                replace ss7 := (kp 7 rfl).trans ss7
                replace ss8 := (kp 8 rfl).trans ss8
                replace ss9 := (kp 9 rfl).trans ss9
                replace ss14 := (kp 14 rfl).trans ss14
                replace ss21 := (kp 21 rfl).trans ss21
                replace ss30 := (kp 30 rfl).trans ss30
                replace ss39 := (kp 39 rfl).trans ss39
                replace ss49 := (kp 49 rfl).trans ss49
                replace ss51 := (kp 51 rfl).trans ss51
                replace ss74 := (kp 74 rfl).trans ss74
                replace ss102 := (kp 102 rfl).trans ss102
                replace ss112 := (kp 112 rfl).trans ss112
                replace dd := dd1.trans dd
                clear dd1 kp
                refine then_normal ?_
                refine hK38 _ _ ?_
                refine exact6_w_r34 n rc acts b5 i a cc la lc l hi hi2 hll z1ld z1rd y x b9 z2d m hm1 hm a33_4 c33_4 H aa nn ss7 ss14 ?_
                clear H nn ss7
                intro a34_2 c34_2 aa ww nn dd1 kp ss7 H
                replace ss0 := (kp 0 rfl).trans ss0
                replace ss1 := (kp 1 rfl).trans ss1
                replace ss5 := (kp 5 rfl).trans ss5
                replace ss6 := (kp 6 rfl).trans ss6
                replace ss8 := (kp 8 rfl).trans ss8
                replace ss9 := (kp 9 rfl).trans ss9
                replace ss14 := (kp 14 rfl).trans ss14
                replace ss21 := (kp 21 rfl).trans ss21
                replace ss30 := (kp 30 rfl).trans ss30
                replace ss39 := (kp 39 rfl).trans ss39
                replace ss49 := (kp 49 rfl).trans ss49
                replace ss51 := (kp 51 rfl).trans ss51
                replace ss74 := (kp 74 rfl).trans ss74
                replace ss102 := (kp 102 rfl).trans ss102
                replace ss112 := (kp 112 rfl).trans ss112
                replace dd := dd1.trans dd
                clear dd1 kp
                refine block_normal ?_
                refine then_normal ?_
                refine hK18 _ _ ?_
                refine wp_seq_k fun KK39 hK39 => ?_
                refine exact6_w_r35x3 n rc acts b5 i a cc la lc l hi hi2 hll z1ld z1rd y x b9 z2d m hm1 hm a33_4 c33_4 a34_2 c34_2 H aa nn ss5 ss6 ss7 ?_
                clear H nn
                intro aa ww nn dd1 kp ss137 H
                replace ss0 := (kp 0 rfl).trans ss0
                replace ss1 := (kp 1 rfl).trans ss1
                replace ss5 := (kp 5 rfl).trans ss5
                replace ss6 := (kp 6 rfl).trans ss6
                replace ss7 := (kp 7 rfl).trans ss7
                replace ss8 := (kp 8 rfl).trans ss8
                replace ss9 := (kp 9 rfl).trans ss9
                replace ss14 := (kp 14 rfl).trans ss14
                replace ss21 := (kp 21 rfl).trans ss21
                replace ss30 := (kp 30 rfl).trans ss30
                replace ss39 := (kp 39 rfl).trans ss39
                replace ss49 := (kp 49 rfl).trans ss49
                replace ss51 := (kp 51 rfl).trans ss51
                replace ss74 := (kp 74 rfl).trans ss74
                replace ss102 := (kp 102 rfl).trans ss102
                replace ss112 := (kp 112 rfl).trans ss112
                replace dd := dd1.trans dd
                clear dd1 kp
                refine then_normal ?_
                refine hK39 _ _ ?_
                refine wp_cond_false ss137 ?_
                refine wp_skip ?_
                refine block_normal ?_
                refine then_normal ?_
                refine hK13 _ _ ?_
                refine exact6_w_r10x3 n rc acts b5 i a cc la lc l hi hi2 hll z1ld z1rd y x b9 z2d m hm1 hm a33_4 c33_4 a34_2 c34_2 H aa nn ss8 ?_
                clear H nn ss8
                intro aa ww nn dd1 kp ss8 H
                replace ss0 := (kp 0 rfl).trans ss0
                replace ss1 := (kp 1 rfl).trans ss1
                replace ss5 := (kp 5 rfl).trans ss5
                replace ss6 := (kp 6 rfl).trans ss6
                replace ss7 := (kp 7 rfl).trans ss7
                replace ss9 := (kp 9 rfl).trans ss9
                replace ss14 := (kp 14 rfl).trans ss14
                replace ss21 := (kp 21 rfl).trans ss21
                replace ss30 := (kp 30 rfl).trans ss30
                replace ss39 := (kp 39 rfl).trans ss39
                replace ss49 := (kp 49 rfl).trans ss49
                replace ss51 := (kp 51 rfl).trans ss51
                replace ss74 := (kp 74 rfl).trans ss74
                replace ss102 := (kp 102 rfl).trans ss102
                replace ss112 := (kp 112 rfl).trans ss112
                replace ss137 := (kp 137 rfl).trans ss137
                replace dd := dd1.trans dd
                clear dd1 kp
                refine then_normal ?_
                replace H := hp_front H 6 rfl
                replace H := hp_front H 2 rfl
                replace H := hp_front H 5 rfl
                replace H := hp_front H 3 rfl
                refine ⟨⟨i + 1, a33_4, c33_4, a34_2, c34_2, (l.filter (keptV (2 + m))), (by omega), (by omega), (by first | omega | exact Nat.le_trans (few_with _ _ _ _) (by omega) | exact Nat.le_trans (List.length_filter_le _ _) (by omega)), (by first | exact hs | exact Lib.hid (sorted_with hs.out _ _ _) | exact Lib.hid (List.Pairwise.filter _ hs.out)), (by first | exact hrm | exact Lib.hid (len_with hrm.out) | exact Lib.hid (Int.le_trans (Int.ofNat_le.2 (List.length_filter_le _ _)) hrm.out)), nn, dd, ss0, ss1, ss5, ss6, ss7, ss8, ss21, ss30, (hp_take H 4)⟩, ?_⟩
                simp only [mu1_8, ss8, intOf]
                omega
              · skip
                have z7o : (x.kind != 5) = true := eqq_f z7
                refine wp_seq_k fun KK40 hK40 => ?_
                refine exact6_w_r15 n rc acts b5 i a cc la lc l hi hi2 hll hs z1ld z1rd y x b9 z2d H aa nn ss5 ss9 ?_
                clear H nn
                intro aa ww nn dd1 kp ss15 ss16 H
                replace ss0 := (kp 0 rfl).trans ss0
                replace ss1 := (kp 1 rfl).trans ss1
                replace ss5 := (kp 5 rfl).trans ss5
                replace ss6 := (kp 6 rfl).trans ss6
                replace ss7 := (kp 7 rfl).trans ss7
                replace ss8 := (kp 8 rfl).trans ss8
                replace ss9 := (kp 9 rfl).trans ss9
                replace ss21 := (kp 21 rfl).trans ss21
                replace ss30 := (kp 30 rfl).trans ss30
                replace ss39 := (kp 39 rfl).trans ss39
                replace ss49 := (kp 49 rfl).trans ss49
                replace ss51 := (kp 51 rfl).trans ss51
                replace ss74 := (kp 74 rfl).trans ss74
                replace ss102 := (kp 102 rfl).trans ss102
                replace ss112 := (kp 112 rfl).trans ss112
                replace dd := dd1.trans dd
                clear dd1 kp
                refine then_normal ?_
                refine hK40 _ _ ?_
                refine wp_seq_k fun KK41 hK41 => ?_
                refine exact6_w_r16 n rc acts b5 i a cc la lc l hi hi2 hll z1ld z1rd y x b9 z2d H aa nn ss7 ss9 ?_
                clear H nn
                intro aa ww nn dd1 kp ss17 ss18 H
                replace ss0 := (kp 0 rfl).trans ss0
                replace ss1 := (kp 1 rfl).trans ss1
                replace ss5 := (kp 5 rfl).trans ss5
                replace ss6 := (kp 6 rfl).trans ss6
                replace ss7 := (kp 7 rfl).trans ss7
                replace ss8 := (kp 8 rfl).trans ss8
                replace ss9 := (kp 9 rfl).trans ss9
                replace ss15 := (kp 15 rfl).trans ss15
                replace ss16 := (kp 16 rfl).trans ss16
                replace ss21 := (kp 21 rfl).trans ss21
                replace ss30 := (kp 30 rfl).trans ss30
                replace ss39 := (kp 39 rfl).trans ss39
                replace ss49 := (kp 49 rfl).trans ss49
                replace ss51 := (kp 51 rfl).trans ss51
                replace ss74 := (kp 74 rfl).trans ss74
                replace ss102 := (kp 102 rfl).trans ss102
                replace ss112 := (kp 112 rfl).trans ss112
                replace dd := dd1.trans dd
                clear dd1 kp
                refine then_normal ?_
                refine hK41 _ _ ?_
                refine wp_seq_k fun KK42 hK42 => ?_
                refine exact6_w_r17 n rc acts b5 i a cc la lc l hi hi2 hll z1ld z1rd y x b9 z2d H aa nn ss15 ss16 ss17 ss18 ?_
                clear H nn
                intro aa ww nn dd1 kp ss73 H
                replace ss0 := (kp 0 rfl).trans ss0
                replace ss1 := (kp 1 rfl).trans ss1
                replace ss5 := (kp 5 rfl).trans ss5
                replace ss6 := (kp 6 rfl).trans ss6
                replace ss7 := (kp 7 rfl).trans ss7
                replace ss8 := (kp 8 rfl).trans ss8
                replace ss9 := (kp 9 rfl).trans ss9
                replace ss15 := (kp 15 rfl).trans ss15
                replace ss16 := (kp 16 rfl).trans ss16
                replace ss17 := (kp 17 rfl).trans ss17
                replace ss18 := (kp 18 rfl).trans ss18
                replace ss21 := (kp 21 rfl).trans ss21
                replace ss30 := (kp 30 rfl).trans ss30
                replace ss39 := (kp 39 rfl).trans ss39
                replace ss49 := (kp 49 rfl).trans ss49
                replace ss51 := (kp 51 rfl).trans ss51
                replace ss74 := (kp 74 rfl).trans ss74
                replace ss102 := (kp 102 rfl).trans ss102
                replace ss112 := (kp 112 rfl).trans ss112
                replace dd := dd1.trans dd
                clear dd1 kp
                refine then_normal ?_
                refine hK42 _ _ ?_
                refine wp_cond_false ss73 ?_
                refine wp_skip ?_
                refine block_normal ?_
                refine then_normal ?_
                refine hK18 _ _ ?_
                refine wp_seq_k fun KK43 hK43 => ?_
                refine exact6_w_r35x4 n rc acts b5 i a cc la lc l hi hi2 hll z1ld z1rd y x b9 z2d H aa nn ss5 ss6 ss7 ?_
                clear H nn
                intro aa ww nn dd1 kp ss137 H
                replace ss0 := (kp 0 rfl).trans ss0
                replace ss1 := (kp 1 rfl).trans ss1
                replace ss5 := (kp 5 rfl).trans ss5
                replace ss6 := (kp 6 rfl).trans ss6
                replace ss7 := (kp 7 rfl).trans ss7
                replace ss8 := (kp 8 rfl).trans ss8
                replace ss9 := (kp 9 rfl).trans ss9
                replace ss15 := (kp 15 rfl).trans ss15
                replace ss16 := (kp 16 rfl).trans ss16
                replace ss17 := (kp 17 rfl).trans ss17
                replace ss18 := (kp 18 rfl).trans ss18
                replace ss21 := (kp 21 rfl).trans ss21
                replace ss30 := (kp 30 rfl).trans ss30
                replace ss39 := (kp 39 rfl).trans ss39
                replace ss49 := (kp 49 rfl).trans ss49
                replace ss51 := (kp 51 rfl).trans ss51
                replace ss73 := (kp 73 rfl).trans ss73
                replace ss74 := (kp 74 rfl).trans ss74
                replace ss102 := (kp 102 rfl).trans ss102
                replace ss112 := (kp 112 rfl).trans ss112
                replace dd := dd1.trans dd
                clear dd1 kp
                refine then_normal ?_
                refine hK43 _ _ ?_
                refine wp_cond_false ss137 ?_
                refine wp_skip ?_
                refine block_normal ?_
                refine then_normal ?_
                refine hK13 _ _ ?_
                refine exact6_w_r10x4 n rc acts b5 i a cc la lc l hi hi2 hll z1ld z1rd y x b9 z2d H aa nn ss8 ?_
                clear H nn ss8
                intro aa ww nn dd1 kp ss8 H
                replace ss0 := (kp 0 rfl).trans ss0
                replace ss1 := (kp 1 rfl).trans ss1
                replace ss5 := (kp 5 rfl).trans ss5
                replace ss6 := (kp 6 rfl).trans ss6
                replace ss7 := (kp 7 rfl).trans ss7
                replace ss9 := (kp 9 rfl).trans ss9
                replace ss15 := (kp 15 rfl).trans ss15
                replace ss16 := (kp 16 rfl).trans ss16
                replace ss17 := (kp 17 rfl).trans ss17
                replace ss18 := (kp 18 rfl).trans ss18
                replace ss21 := (kp 21 rfl).trans ss21
                replace ss30 := (kp 30 rfl).trans ss30
                replace ss39 := (kp 39 rfl).trans ss39
                replace ss49 := (kp 49 rfl).trans ss49
                replace ss51 := (kp 51 rfl).trans ss51
                replace ss73 := (kp 73 rfl).trans ss73
                replace ss74 := (kp 74 rfl).trans ss74
                replace ss102 := (kp 102 rfl).trans ss102
                replace ss112 := (kp 112 rfl).trans ss112
                replace ss137 := (kp 137 rfl).trans ss137
                replace dd := dd1.trans dd
                clear dd1 kp
                refine then_normal ?_
                replace H := hp_front H 4 rfl
                replace H := hp_front H 4 rfl
                replace H := hp_front H 4 rfl
                replace H := hp_front H 4 rfl
                refine ⟨⟨i + 1, a, cc, la, lc, l, (by omega), (by omega), (by first | omega | exact Nat.le_trans (few_with _ _ _ _) (by omega) | exact Nat.le_trans (List.length_filter_le _ _) (by omega)), (by first | exact hs | exact Lib.hid (sorted_with hs.out _ _ _) | exact Lib.hid (List.Pairwise.filter _ hs.out)), (by first | exact hrm | exact Lib.hid (len_with hrm.out) | exact Lib.hid (Int.le_trans (Int.ofNat_le.2 (List.length_filter_le _ _)) hrm.out)), nn, dd, ss0, ss1, ss5, ss6, ss7, ss8, ss21, ss30, (hp_take H 4)⟩, ?_⟩
                simp only [mu1_8, ss8, intOf]
                omega
        · skip
          have z3o : (x.kind != 1) = true := eqq_f z3
          refine wp_seq_k fun KK44 hK44 => ?_
          refine exact6_w_r20 n rc acts b5 i a cc la lc l hi hi2 hll z1ld z1rd y x b9 z2d H aa nn ss51 ?_
          clear H nn ss74
          intro aa ww nn dd1 kp ss74 H
          replace ss0 := (kp 0 rfl).trans ss0
          replace ss1 := (kp 1 rfl).trans ss1
          replace ss5 := (kp 5 rfl).trans ss5
          replace ss6 := (kp 6 rfl).trans ss6
          replace ss7 := (kp 7 rfl).trans ss7
          replace ss8 := (kp 8 rfl).trans ss8
          replace ss9 := (kp 9 rfl).trans ss9
          replace ss21 := (kp 21 rfl).trans ss21
          replace ss30 := (kp 30 rfl).trans ss30
          replace ss39 := (kp 39 rfl).trans ss39
          replace ss49 := (kp 49 rfl).trans ss49
          replace ss51 := (kp 51 rfl).trans ss51
          replace dd := dd1.trans dd
          clear dd1 kp
          refine then_normal ?_
          refine hK44 _ _ ?_
          refine wp_cond_split ss74 (fun z8 => ?_) (fun z8 => ?_)
          · skip
            have z8o : (x.kind != 2) = false := eqq_t z8
            refine wp_skip ?_
            refine then_normal ?_
            refine hK20 _ _ ?_
            refine wp_cond_split ss74 (fun z9 => ?_) (fun z9 => ?_)
            · skip
              refine wp_seq_k fun KK45 hK45 => ?_
              rcases Bool.eq_false_or_eq_true (((!(getR x.key l).2) && (decide (kR n ≤ (l.length : Int))))) with y10 | y10
              · skip
                refine exact6_w_r22x2 n rc acts b5 i a cc la lc l hi hi2 hll hs hrm z1ld z1rd y x b9 z2d y10 H aa nn ss5 ss9 ?_
                clear H nn
                intro a22_5 c22_5 b10 aa ww nn dd1 kp ss10 ss11 H
                replace ss0 := (kp 0 rfl).trans ss0
                replace ss1 := (kp 1 rfl).trans ss1
                replace ss5 := (kp 5 rfl).trans ss5
                replace ss6 := (kp 6 rfl).trans ss6
                replace ss7 := (kp 7 rfl).trans ss7
                replace ss8 := (kp 8 rfl).trans ss8
                replace ss9 := (kp 9 rfl).trans ss9
                replace ss21 := (kp 21 rfl).trans ss21
                replace ss30 := (kp 30 rfl).trans ss30
                replace ss39 := (kp 39 rfl).trans ss39
                replace ss49 := (kp 49 rfl).trans ss49
                replace ss51 := (kp 51 rfl).trans ss51
                replace ss74 := (kp 74 rfl).trans ss74
                replace dd := dd1.trans dd
                clear dd1 kp
                refine then_normal ?_
                refine hK45 _ _ ?_
                refine wp_seq_k fun KK46 hK46 => ?_
                refine exact6_w_r23x2 n rc acts b5 i a cc la lc l hi hi2 hll z1ld z1rd y x b9 z2d y10 a22_5 c22_5 b10 H aa nn ss6 ss7 ss9 ?_
                clear H nn
                intro aa ww nn dd1 kp ss12 ss13 H
                replace ss0 := (kp 0 rfl).trans ss0
                replace ss1 := (kp 1 rfl).trans ss1
                replace ss5 := (kp 5 rfl).trans ss5
                replace ss6 := (kp 6 rfl).trans ss6
                replace ss7 := (kp 7 rfl).trans ss7
                replace ss8 := (kp 8 rfl).trans ss8
                replace ss9 := (kp 9 rfl).trans ss9
                replace ss10 := (kp 10 rfl).trans ss10
                replace ss11 := (kp 11 rfl).trans ss11
                replace ss21 := (kp 21 rfl).trans ss21
                replace ss30 := (kp 30 rfl).trans ss30
                replace ss39 := (kp 39 rfl).trans ss39
                replace ss49 := (kp 49 rfl).trans ss49
                replace ss51 := (kp 51 rfl).trans ss51
                replace ss74 := (kp 74 rfl).trans ss74
                replace dd := dd1.trans dd
                clear dd1 kp
                refine then_normal ?_
                refine hK46 _ _ ?_
                refine wp_seq_k fun KK47 hK47 => ?_
                refine wp_seq_k fun KK48 hK48 => ?_
                refine exact6_w_r24x2 n rc acts b5 i a cc la lc l hi hi2 hll z1ld z1rd y x b9 z2d a22_5 c22_5 b10 H aa nn ss11 ss13 ?_
                clear H nn
                intro aa ww nn dd1 kp ss99 H
                replace ss0 := (kp 0 rfl).trans ss0
                replace ss1 := (kp 1 rfl).trans ss1
                replace ss5 := (kp 5 rfl).trans ss5
                replace ss6 := (kp 6 rfl).trans ss6
                replace ss7 := (kp 7 rfl).trans ss7
                replace ss8 := (kp 8 rfl).trans ss8
                replace ss9 := (kp 9 rfl).trans ss9
                replace ss10 := (kp 10 rfl).trans ss10
                replace ss11 := (kp 11 rfl).trans ss11
                replace ss12 := (kp 12 rfl).trans ss12
                replace ss13 := (kp 13 rfl).trans ss13
                replace ss21 := (kp 21 rfl).trans ss21
                replace ss30 := (kp 30 rfl).trans ss30
                replace ss39 := (kp 39 rfl).trans ss39
                replace ss49 := (kp 49 rfl).trans ss49
                replace ss51 := (kp 51 rfl).trans ss51
                replace ss74 := (kp 74 rfl).trans ss74
                replace dd := dd1.trans dd
                clear dd1 kp
                refine then_normal ?_
                refine hK48 _ _ ?_
                refine wp_cond_false ss99 ?_
                refine wp_skip ?_
                refine then_normal ?_
                refine hK47 _ _ ?_
                refine wp_seq_k fun KK49 hK49 => ?_
                refine exact6_w_r26x2 n rc acts b5 i a cc la lc l hi hi2 hll z1ld z1rd y x b9 z2d a22_5 c22_5 b10 H aa nn ss5 ss10 ?_
                clear H nn
                intro aa ww nn dd1 kp H
                replace ss0 := (kp 0 rfl).trans ss0
                replace ss1 := (kp 1 rfl).trans ss1
                replace ss5 := (kp 5 rfl).trans ss5
                replace ss6 := (kp 6 rfl).trans ss6
                replace ss7 := (kp 7 rfl).trans ss7
                replace ss8 := (kp 8 rfl).trans ss8
                replace ss9 := (kp 9 rfl).trans ss9
                replace ss10 := (kp 10 rfl).trans ss10
                replace ss11 := (kp 11 rfl).trans ss11
                replace ss12 := (kp 12 rfl).trans ss12
                replace ss13 := (kp 13 rfl).trans ss13
                replace ss21 := (kp 21 rfl).trans ss21
                replace ss30 := (kp 30 rfl).trans ss30
                replace ss39 := (kp 39 rfl).trans ss39
                replace ss49 := (kp 49 rfl).trans ss49
                replace ss51 := (kp 51 rfl).trans ss51
                replace ss74 := (kp 74 rfl).trans ss74
                replace ss99 := (kp 99 rfl).trans ss99
                replace dd := dd1.trans dd
                clear dd1 kp
                refine then_normal ?_
                refine hK49 _ _ ?_
                refine exact6_w_r27x2 n rc acts b5 i a cc la lc l hi hi2 hll z1ld z1rd y x b9 z2d a22_5 c22_5 b10 H aa nn ss12 ?_
                clear H nn ss7
                intro aa ww nn dd1 kp ss7 H
                replace ss0 := (kp 0 rfl).trans ss0
                replace ss1 := (kp 1 rfl).trans ss1
                replace ss5 := (kp 5 rfl).trans ss5
                replace ss6 := (kp 6 rfl).trans ss6
                replace ss8 := (kp 8 rfl).trans ss8
                replace ss9 := (kp 9 rfl).trans ss9
                replace ss10 := (kp 10 rfl).trans ss10
                replace ss11 := (kp 11 rfl).trans ss11
                replace ss12 := (kp 12 rfl).trans ss12
                replace ss13 := (kp 13 rfl).trans ss13
                replace ss21 := (kp 21 rfl).trans ss21
                replace ss30 := (kp 30 rfl).trans ss30
                replace ss39 := (kp 39 rfl).trans ss39
                replace ss49 := (kp 49 rfl).trans ss49
                replace ss51 := (kp 51 rfl).trans ss51
                replace ss74 := (kp 74 rfl).trans ss74
                replace ss99 := (kp 99 rfl).trans ss99
                replace dd := dd1.trans dd
                clear dd1 kp
                refine block_normal ?_
                refine then_normal ?_
                refine hK18 _ _ ?_
                refine wp_seq_k fun KK50 hK50 => ?_
                refine exact6_w_r35x5 n rc acts b5 i a cc la lc l hi hi2 hll z1ld z1rd y x b9 z2d a22_5 c22_5 b10 H aa nn ss5 ss6 ss7 ?_
                clear H nn
                intro aa ww nn dd1 kp ss137 H
                replace ss0 := (kp 0 rfl).trans ss0
                replace ss1 := (kp 1 rfl).trans ss1
                replace ss5 := (kp 5 rfl).trans ss5
                replace ss6 := (kp 6 rfl).trans ss6
                replace ss7 := (kp 7 rfl).trans ss7
                replace ss8 := (kp 8 rfl).trans ss8
                replace ss9 := (kp 9 rfl).trans ss9
                replace ss10 := (kp 10 rfl).trans ss10
                replace ss11 := (kp 11 rfl).trans ss11
                replace ss12 := (kp 12 rfl).trans ss12
                replace ss13 := (kp 13 rfl).trans ss13
                replace ss21 := (kp 21 rfl).trans ss21
                replace ss30 := (kp 30 rfl).trans ss30
                replace ss39 := (kp 39 rfl).trans ss39
                replace ss49 := (kp 49 rfl).trans ss49
                replace ss51 := (kp 51 rfl).trans ss51
                replace ss74 := (kp 74 rfl).trans ss74
                replace ss99 := (kp 99 rfl).trans ss99
                replace dd := dd1.trans dd
                clear dd1 kp
                refine then_normal ?_
                refine hK50 _ _ ?_
                refine wp_cond_false ss137 ?_
                refine wp_skip ?_
                refine block_normal ?_
                refine then_normal ?_
                refine hK13 _ _ ?_
                refine exact6_w_r10x5 n rc acts b5 i a cc la lc l hi hi2 hll z1ld z1rd y x b9 z2d a22_5 c22_5 b10 H aa nn ss8 ?_
                clear H nn ss8
                intro aa ww nn dd1 kp ss8 H
                replace ss0 := (kp 0 rfl).trans ss0
                replace ss1 := (kp 1 rfl).trans ss1
                replace ss5 := (kp 5 rfl).trans ss5
                replace ss6 := (kp 6 rfl).trans ss6
                replace ss7 := (kp 7 rfl).trans ss7
                replace ss9 := (kp 9 rfl).trans ss9
                replace ss10 := (kp 10 rfl).trans ss10
                replace ss11 := (kp 11 rfl).trans ss11
                replace ss12 := (kp 12 rfl).trans ss12
                replace ss13 := (kp 13 rfl).trans ss13
                replace ss21 := (kp 21 rfl).trans ss21
                replace ss30 := (kp 30 rfl).trans ss30
                replace ss39 := (kp 39 rfl).trans ss39
                replace ss49 := (kp 49 rfl).trans ss49
                replace ss51 := (kp 51 rfl).trans ss51
                replace ss74 := (kp 74 rfl).trans ss74
                replace ss99 := (kp 99 rfl).trans ss99
                replace ss137 := (kp 137 rfl).trans ss137
                replace dd := dd1.trans dd
                clear dd1 kp
                refine then_normal ?_
                replace H := hp_front H 6 rfl
                replace H := hp_front H 2 rfl
                replace H := hp_front H 5 rfl
                replace H := hp_front H 5 rfl
                refine ⟨⟨i + 1, a22_5, c22_5, la, lc, l, (by omega), (by omega), (by first | omega | exact Nat.le_trans (few_with _ _ _ _) (by omega) | exact Nat.le_trans (List.length_filter_le _ _) (by omega)), (by first | exact hs | exact Lib.hid (sorted_with hs.out _ _ _) | exact Lib.hid (List.Pairwise.filter _ hs.out)), (by first | exact hrm | exact Lib.hid (len_with hrm.out) | exact Lib.hid (Int.le_trans (Int.ofNat_le.2 (List.length_filter_le _ _)) hrm.out)), nn, dd, ss0, ss1, ss5, ss6, ss7, ss8, ss21, ss30, (hp_take H 4)⟩, ?_⟩
                simp only [mu1_8, ss8, intOf]
                omega
              · skip
                refine exact6_w_r22x3 n rc acts b5 i a cc la lc l hi hi2 hll hs z1ld z1rd y x b9 z2d y10 H aa nn ss5 ss9 ?_
                clear H nn
                intro a22_5 c22_5 b10 aa ww nn dd1 kp ss10 ss11 H
                replace ss0 := (kp 0 rfl).trans ss0
                replace ss1 := (kp 1 rfl).trans ss1
                replace ss5 := (kp 5 rfl).trans ss5
                replace ss6 := (kp 6 rfl).trans ss6
                replace ss7 := (kp 7 rfl).trans ss7
                replace ss8 := (kp 8 rfl).trans ss8
                replace ss9 := (kp 9 rfl).trans ss9
                replace ss21 := (kp 21 rfl).trans ss21
                replace ss30 := (kp 30 rfl).trans ss30
                replace ss39 := (kp 39 rfl).trans ss39
                replace ss49 := (kp 49 rfl).trans ss49
                replace ss51 := (kp 51 rfl).trans ss51
                replace ss74 := (kp 74 rfl).trans ss74
                replace dd := dd1.trans dd
                clear dd1 kp
                refine then_normal ?_
                refine hK45 _ _ ?_
                refine wp_seq_k fun KK51 hK51 => ?_
                refine exact6_w_r23x3 n rc acts b5 i a cc la lc l hi hi2 hll hs z1ld z1rd y x b9 z2d y10 a22_5 c22_5 b10 H aa nn ss6 ss7 ss9 ?_
                clear H nn
                intro a23_6 c23_6 aa ww nn dd1 kp ss12 ss13 H
                replace ss0 := (kp 0 rfl).trans ss0
                replace ss1 := (kp 1 rfl).trans ss1
                replace ss5 := (kp 5 rfl).trans ss5
                replace ss6 := (kp 6 rfl).trans ss6
                replace ss7 := (kp 7 rfl).trans ss7
                replace ss8 := (kp 8 rfl).trans ss8
                replace ss9 := (kp 9 rfl).trans ss9
                replace ss10 := (kp 10 rfl).trans ss10
                replace ss11 := (kp 11 rfl).trans ss11
                replace ss21 := (kp 21 rfl).trans ss21
                replace ss30 := (kp 30 rfl).trans ss30
                replace ss39 := (kp 39 rfl).trans ss39
                replace ss49 := (kp 49 rfl).trans ss49
                replace ss51 := (kp 51 rfl).trans ss51
                replace ss74 := (kp 74 rfl).trans ss74
                replace dd := dd1.trans dd
                clear dd1 kp
                refine then_normal ?_
                refine hK51 _ _ ?_
                refine wp_seq_k fun KK52 hK52 => ?_
                refine wp_seq_k fun KK53 hK53 => ?_
                refine exact6_w_r24x3 n rc acts b5 i a cc la lc l hi hi2 hll z1ld z1rd y x b9 z2d a22_5 c22_5 b10 a23_6 c23_6 H aa nn ss11 ss13 ?_
                clear H nn
                intro aa ww nn dd1 kp ss99 H
                replace ss0 := (kp 0 rfl).trans ss0
                replace ss1 := (kp 1 rfl).trans ss1
                replace ss5 := (kp 5 rfl).trans ss5
                replace ss6 := (kp 6 rfl).trans ss6
                replace ss7 := (kp 7 rfl).trans ss7
                replace ss8 := (kp 8 rfl).trans ss8
                replace ss9 := (kp 9 rfl).trans ss9
                replace ss10 := (kp 10 rfl).trans ss10
                replace ss11 := (kp 11 rfl).trans ss11
                replace ss12 := (kp 12 rfl).trans ss12
                replace ss13 := (kp 13 rfl).trans ss13
                replace ss21 := (kp 21 rfl).trans ss21
                replace ss30 := (kp 30 rfl).trans ss30
                replace ss39 := (kp 39 rfl).trans ss39
                replace ss49 := (kp 49 rfl).trans ss49
                replace ss51 := (kp 51 rfl).trans ss51
                replace ss74 := (kp 74 rfl).trans ss74
                replace dd := dd1.trans dd
                clear dd1 kp
                refine then_normal ?_
                refine hK53 _ _ ?_
                refine wp_cond_false ss99 ?_
                refine wp_skip ?_
                refine then_normal ?_
                refine hK52 _ _ ?_
                refine wp_seq_k fun KK54 hK54 => ?_
                refine exact6_w_r26x3 n rc acts b5 i a cc la lc l hi hi2 hll z1ld z1rd y x b9 z2d a22_5 c22_5 b10 a23_6 c23_6 H aa nn ss5 ss10 ?_
                clear H nn
                intro aa ww nn dd1 kp H
                replace ss0 := (kp 0 rfl).trans ss0
                replace ss1 := (kp 1 rfl).trans ss1
                replace ss5 := (kp 5 rfl).trans ss5
                replace ss6 := (kp 6 rfl).trans ss6
                replace ss7 := (kp 7 rfl).trans ss7
                replace ss8 := (kp 8 rfl).trans ss8
                replace ss9 := (kp 9 rfl).trans ss9
                replace ss10 := (kp 10 rfl).trans ss10
                replace ss11 := (kp 11 rfl).trans ss11
                replace ss12 := (kp 12 rfl).trans ss12
                replace ss13 := (kp 13 rfl).trans ss13
                replace ss21 := (kp 21 rfl).trans ss21
                replace ss30 := (kp 30 rfl).trans ss30
                replace ss39 := (kp 39 rfl).trans ss39
                replace ss49 := (kp 49 rfl).trans ss49
                replace ss51 := (kp 51 rfl).trans ss51
                replace ss74 := (kp 74 rfl).trans ss74
                replace ss99 := (kp 99 rfl).trans ss99
                replace dd := dd1.trans dd
                clear dd1 kp
                refine then_normal ?_
                refine hK54 _ _ ?_
                refine exact6_w_r27x3 n rc acts b5 i a cc la lc l hi hi2 hll z1ld z1rd y x b9 z2d a22_5 c22_5 b10 a23_6 c23_6 H aa nn ss12 ?_
                clear H nn ss7
                intro aa ww nn dd1 kp ss7 H
                replace ss0 := (kp 0 rfl).trans ss0
                replace ss1 := (kp 1 rfl).trans ss1
                replace ss5 := (kp 5 rfl).trans ss5
                replace ss6 := (kp 6 rfl).trans ss6
                replace ss8 := (kp 8 rfl).trans ss8
                replace ss9 := (kp 9 rfl).trans ss9
                replace ss10 := (kp 10 rfl).trans ss10
                replace ss11 := (kp 11 rfl).trans ss11
                replace ss12 := (kp 12 rfl).trans ss12
                replace ss13 := (kp 13 rfl).trans ss13
                replace ss21 := (kp 21 rfl).trans ss21
                replace ss30 := (kp 30 rfl).trans ss30
                replace ss39 := (kp 39 rfl).trans ss39
                replace ss49 := (kp 49 rfl).trans ss49
                replace ss51 := (kp 51 rfl).trans ss51
                replace ss74 := (kp 74 rfl).trans ss74
                replace ss99 := (kp 99 rfl).trans ss99
                replace dd := dd1.trans dd
                clear dd1 kp
                refine block_normal ?_
                refine then_normal ?_
                refine hK18 _ _ ?_
                refine wp_seq_k fun KK55 hK55 => ?_
                refine exact6_w_r35x6 n rc acts b5 i a cc la lc l hi hi2 hll z1ld z1rd y x b9 z2d a22_5 c22_5 b10 a23_6 c23_6 H aa nn ss5 ss6 ss7 ?_
                clear H nn
                intro aa ww nn dd1 kp ss137 H
                replace ss0 := (kp 0 rfl).trans ss0
                replace ss1 := (kp 1 rfl).trans ss1
                replace ss5 := (kp 5 rfl).trans ss5
                replace ss6 := (kp 6 rfl).trans ss6
                replace ss7 := (kp 7 rfl).trans ss7
                replace ss8 := (kp 8 rfl).trans ss8
                replace ss9 := (kp 9 rfl).trans ss9
                replace ss10 := (kp 10 rfl).trans ss10
                replace ss11 := (kp 11 rfl).trans ss11
                replace ss12 := (kp 12 rfl).trans ss12
                replace ss13 := (kp 13 rfl).trans ss13
                replace ss21 := (kp 21 rfl).trans ss21
                replace ss30 := (kp 30 rfl).trans ss30
                replace ss39 := (kp 39 rfl).trans ss39
                replace ss49 := (kp 49 rfl).trans ss49
                replace ss51 := (kp 51 rfl).trans ss51
                replace ss74 := (kp 74 rfl).trans ss74
                replace ss99 := (kp 99 rfl).trans ss99
                replace dd := dd1.trans dd
                clear dd1 kp
                refine then_normal ?_
                refine hK55 _ _ ?_
                refine wp_cond_false ss137 ?_
                refine wp_skip ?_
                refine block_normal ?_
                refine then_normal ?_
                refine hK13 _ _ ?_
                refine exact6_w_r10x6 n rc acts b5 i a cc la lc l hi hi2 hll z1ld z1rd y x b9 z2d a22_5 c22_5 b10 a23_6 c23_6 H aa nn ss8 ?_
                clear H nn ss8
                intro aa ww nn dd1 kp ss8 H
                replace ss0 := (kp 0 rfl).trans ss0
                replace ss1 := (kp 1 rfl).trans ss1
                replace ss5 := (kp 5 rfl).trans ss5
                replace ss6 := (kp 6 rfl).trans ss6
                replace ss7 := (kp 7 rfl).trans ss7
                replace ss9 := (kp 9 rfl).trans ss9
                replace ss10 := (kp 10 rfl).trans ss10
                replace ss11 := (kp 11 rfl).trans ss11
                replace ss12 := (kp 12 rfl).trans ss12
                replace ss13 := (kp 13 rfl).trans ss13
                replace ss21 := (kp 21 rfl).trans ss21
                replace ss30 := (kp 30 rfl).trans ss30
                replace ss39 := (kp 39 rfl).trans ss39
                replace ss49 := (kp 49 rfl).trans ss49
                replace ss51 := (kp 51 rfl).trans ss51
                replace ss74 := (kp 74 rfl).trans ss74
                replace ss99 := (kp 99 rfl).trans ss99
                replace ss137 := (kp 137 rfl).trans ss137
                replace dd := dd1.trans dd
                clear dd1 kp
                refine then_normal ?_
                replace H := hp_front H 7 rfl
                replace H := hp_front H 3 rfl
                replace H := hp_front H 6 rfl
                replace H := hp_front H 3 rfl
                refine ⟨⟨i + 1, a22_5, c22_5, a23_6, c23_6, (withV (kR n) x.key x.val l).1, (by omega), (by omega), (by first | omega | exact Nat.le_trans (few_with _ _ _ _) (by omega) | exact Nat.le_trans (List.length_filter_le _ _) (by omega)), (by first | exact hs | exact Lib.hid (sorted_with hs.out _ _ _) | exact Lib.hid (List.Pairwise.filter _ hs.out)), (by first | exact hrm | exact Lib.hid (len_with hrm.out) | exact Lib.hid (Int.le_trans (Int.ofNat_le.2 (List.length_filter_le _ _)) hrm.out)), nn, dd, ss0, ss1, ss5, ss6, ss7, ss8, ss21, ss30, (hp_take H 4)⟩, ?_⟩
                simp only [mu1_8, ss8, intOf]
                omega
            · skip
              refine wp_seq_k fun KK56 hK56 => ?_
              refine exact6_w_r28x1 n rc acts b5 i a cc la lc l hi hi2 hll z1ld z1rd y x b9 z2d H aa nn ss51 ?_
              clear H nn
              intro aa ww nn dd1 kp ss102 H
              replace ss0 := (kp 0 rfl).trans ss0
              replace ss1 := (kp 1 rfl).trans ss1
              replace ss5 := (kp 5 rfl).trans ss5
              replace ss6 := (kp 6 rfl).trans ss6
              replace ss7 := (kp 7 rfl).trans ss7
              replace ss8 := (kp 8 rfl).trans ss8
              replace ss9 := (kp 9 rfl).trans ss9
              replace ss21 := (kp 21 rfl).trans ss21
              replace ss30 := (kp 30 rfl).trans ss30
              replace ss39 := (kp 39 rfl).trans ss39
              replace ss49 := (kp 49 rfl).trans ss49
              replace ss51 := (kp 51 rfl).trans ss51
              replace ss74 := (kp 74 rfl).trans ss74
              replace dd := dd1.trans dd
              clear dd1 kp
              refine then_normal ?_
              refine hK56 _ _ ?_
              refine wp_cond_split ss102 (fun z11 => ?_) (fun z11 => ?_)
              · skip
                have z11o : (x.kind != 4) = false := eqq_t z11
                refine wp_seq_k fun KK57 hK57 => ?_
                refine exact6_w_r29x1 n rc acts b5 i a cc la lc l hi hi2 hll hs z1ld z1rd y x b9 z2d H aa nn ss5 ss9 ?_
                clear H nn
                intro a29_3 c29_3 aa ww nn dd1 kp H
                replace ss0 := (kp 0 rfl).trans ss0
                replace ss1 := (kp 1 rfl).trans ss1
                replace ss5 := (kp 5 rfl).trans ss5
                replace ss6 := (kp 6 rfl).trans ss6
                replace ss7 := (kp 7 rfl).trans ss7
                replace ss8 := (kp 8 rfl).trans ss8
                replace ss9 := (kp 9 rfl).trans ss9
                replace ss21 := (kp 21 rfl).trans ss21
                replace ss30 := (kp 30 rfl).trans ss30
                replace ss39 := (kp 39 rfl).trans ss39
                replace ss49 := (kp 49 rfl).trans ss49
                replace ss51 := (kp 51 rfl).trans ss51
                replace ss74 := (kp 74 rfl).trans ss74
                replace ss102 := (kp 102 rfl).trans ss102
                replace dd := dd1.trans dd
                clear dd1 kp
                refine then_normal ?_
                refine hK57 _ _ ?_
                refine exact6_w_r30x1 n rc acts b5 i a cc la lc l hi hi2 hll z1ld z1rd y x b9 z2d a29_3 c29_3 H aa nn ss7 ss9 ?_
                clear H nn ss7
                intro a30_3 c30_3 aa ww nn dd1 kp ss7 H
                replace ss0 := (kp 0 rfl).trans ss0
                replace ss1 := (kp 1 rfl).trans ss1
                replace ss5 := (kp 5 rfl).trans ss5
                replace ss6 := (kp 6 rfl).trans ss6
                replace ss8 := (kp 8 rfl).trans ss8
                replace ss9 := (kp 9 rfl).trans ss9
                replace ss21 := (kp 21 rfl).trans ss21
                replace ss30 := (kp 30 rfl).trans ss30
                replace ss39 := (kp 39 rfl).trans ss39
                replace ss49 := (kp 49 rfl).trans ss49
                replace ss51 := (kp 51 rfl).trans ss51
                replace ss74 := (kp 74 rfl).trans ss74
                replace ss102 := (kp 102 rfl).trans ss102
                replace dd := dd1.trans dd
                clear dd1 kp
                refine block_normal ?_
                refine then_normal ?_
                refine hK18 _ _ ?_
                refine wp_seq_k fun KK58 hK58 => ?_
                refine exact6_w_r35x7 n rc acts b5 i a cc la lc l hi hi2 hll z1ld z1rd y x b9 z2d a29_3 c29_3 a30_3 c30_3 H aa nn ss5 ss6 ss7 ?_
                clear H nn
                intro aa ww nn dd1 kp ss137 H
                replace ss0 := (kp 0 rfl).trans ss0
                replace ss1 := (kp 1 rfl).trans ss1
                replace ss5 := (kp 5 rfl).trans ss5
                replace ss6 := (kp 6 rfl).trans ss6
                replace ss7 := (kp 7 rfl).trans ss7
                replace ss8 := (kp 8 rfl).trans ss8
                replace ss9 := (kp 9 rfl).trans ss9
                replace ss21 := (kp 21 rfl).trans ss21
                replace ss30 := (kp 30 rfl).trans ss30
                replace ss39 := (kp 39 rfl).trans ss39
                replace ss49 := (kp 49 rfl).trans ss49
                replace ss51 := (kp 51 rfl).trans ss51
                replace ss74 := (kp 74 rfl).trans ss74
                replace ss102 := (kp 102 rfl).trans ss102
                replace dd := dd1.trans dd
                clear dd1 kp
                refine then_normal ?_
                refine hK58 _ _ ?_
                refine wp_cond_false ss137 ?_
                refine wp_skip ?_
                refine block_normal ?_
                refine then_normal ?_
                refine hK13 _ _ ?_
                refine exact6_w_r10x7 n rc acts b5 i a cc la lc l hi hi2 hll z1ld z1rd y x b9 z2d a29_3 c29_3 a30_3 c30_3 H aa nn ss8 ?_
                clear H nn ss8
                intro aa ww nn dd1 kp ss8 H
                replace ss0 := (kp 0 rfl).trans ss0
                replace ss1 := (kp 1 rfl).trans ss1
                replace ss5 := (kp 5 rfl).trans ss5
                replace ss6 := (kp 6 rfl).trans ss6
                replace ss7 := (kp 7 rfl).trans ss7
                replace ss9 := (kp 9 rfl).trans ss9
                replace ss21 := (kp 21 rfl).trans ss21
                replace ss30 := (kp 30 rfl).trans ss30
                replace ss39 := (kp 39 rfl).trans ss39
                replace ss49 := (kp 49 rfl).trans ss49
                replace ss51 := (kp 51 rfl).trans ss51
                replace ss74 := (kp 74 rfl).trans ss74
                replace ss102 := (kp 102 rfl).trans ss102
                replace ss137 := (kp 137 rfl).trans ss137
                replace dd := dd1.trans dd
                clear dd1 kp
                refine then_normal ?_
                replace H := hp_front H 6 rfl
                replace H := hp_front H 2 rfl
                replace H := hp_front H 5 rfl
                replace H := hp_front H 3 rfl
                refine ⟨⟨i + 1, a29_3, c29_3, a30_3, c30_3, (l.filter (keepN x.key)), (by omega), (by omega), (by first | omega | exact Nat.le_trans (few_with _ _ _ _) (by omega) | exact Nat.le_trans (List.length_filter_le _ _) (by omega)), (by first | exact hs | exact Lib.hid (sorted_with hs.out _ _ _) | exact Lib.hid (List.Pairwise.filter _ hs.out)), (by first | exact hrm | exact Lib.hid (len_with hrm.out) | exact Lib.hid (Int.le_trans (Int.ofNat_le.2 (List.length_filter_le _ _)) hrm.out)), nn, dd, ss0, ss1, ss5, ss6, ss7, ss8, ss21, ss30, (hp_take H 4)⟩, ?_⟩
                simp only [mu1_8, ss8, intOf]
                omega
              · skip
                have z11o : (x.kind != 4) = true := eqq_f z11
                refine wp_seq_k fun KK59 hK59 => ?_
                refine exact6_w_r31x1 n rc acts b5 i a cc la lc l hi hi2 hll z1ld z1rd y x b9 z2d H aa nn ss51 ?_
                clear H nn
                intro aa ww nn dd1 kp ss112 H
                replace ss0 := (kp 0 rfl).trans ss0
                replace ss1 := (kp 1 rfl).trans ss1
                replace ss5 := (kp 5 rfl).trans ss5
                replace ss6 := (kp 6 rfl).trans ss6
                replace ss7 := (kp 7 rfl).trans ss7
                replace ss8 := (kp 8 rfl).trans ss8
                replace ss9 := (kp 9 rfl).trans ss9
                replace ss21 := (kp 21 rfl).trans ss21
                replace ss30 := (kp 30 rfl).trans ss30
                replace ss39 := (kp 39 rfl).trans ss39
                replace ss49 := (kp 49 rfl).trans ss49
                replace ss51 := (kp 51 rfl).trans ss51
                replace ss74 := (kp 74 rfl).trans ss74
                replace ss102 := (kp 102 rfl).trans ss102
                replace dd := dd1.trans dd
                clear dd1 kp
                refine then_normal ?_
                refine hK59 _ _ ?_
                refine wp_cond_split ss112 (fun z12 => ?_) (fun z12 => ?_)
                · skip
                  have z12o : (x.kind != 5) = false := eqq_t z12
                  refine wp_seq_k fun KK60 hK60 => ?_
                  obtain ⟨m, hm1, hm⟩ := mod_at x.val (n := 3) (by omega) (by omega)
                  replace hm : IntKind.i64.wrap ((IntKind.u64.wrap x.val).tmod 3) = (m : Int) := hm
                  refine exact6_w_r32x1 n rc acts b5 i a cc la lc l hi hi2 hll z1ld z1rd y x b9 z2d m hm1 hm H aa nn ss9 ?_
                  clear H nn
                  intro aa ww nn dd1 kp ss14 H
                  replace ss0 := (kp 0 rfl).trans ss0
                  replace ss1 := (kp 1 rfl).trans ss1
                  replace ss5 := (kp 5 rfl).trans ss5
                  replace ss6 := (kp 6 rfl).trans ss6
                  replace ss7 := (kp 7 rfl).trans ss7
                  replace ss8 := (kp 8 rfl).trans ss8
                  replace ss9 := (kp 9 rfl).trans ss9
                  replace ss21 := (kp 21 rfl).trans ss21
                  replace ss30 := (kp 30 rfl).trans ss30
                  replace ss39 := (kp 39 rfl).trans ss39
                  replace ss49 := (kp 49 rfl).trans ss49
                  replace ss51 := (kp 51 rfl).trans ss51
                  replace ss74 := (kp 74 rfl).trans ss74
                  replace ss102 := (kp 102 rfl).trans ss102
                  replace ss112 := (kp 112 rfl).trans ss112
                  replace dd := dd1.trans dd
                  clear dd1 kp
                  refine then_normal ?_
                  refine hK60 _ _ ?_
                  refine wp_seq_k fun KK61 hK61 => ?_
                  refine exact6_w_r33x1 n rc acts b5 i a cc la lc l hi hi2 hll z1ld z1rd y x b9 z2d m hm1 hm H aa nn ss5 ss14 ?_
                  clear H nn
                  intro a33_4 c33_4 aa ww nn dd1 kp H
                  replace ss0 := (kp 0 rfl).trans ss0
                  replace ss1 := (kp 1 rfl).trans ss1
                  replace ss5 := (kp 5 rfl).trans ss5
                  replace ss6 := (kp 6 rfl).trans ss6
                  replace ss7 := (kp 7 rfl).trans ss7
                  replace ss8 := (kp 8 rfl).trans ss8
                  replace ss9 := (kp 9 rfl).trans ss9
                  replace ss14 := (kp 14 rfl).trans ss14
                  replace ss21 := (kp 21 rfl).trans ss21
                  replace ss30 := (kp 30 rfl).trans ss30
                  replace ss39 := (kp 39 rfl).trans ss39
                  replace ss49 := (kp 49 rfl).trans ss49
                  replace ss51 := (kp 51 rfl).trans ss51
                  replace ss74 := (kp 74 rfl).trans ss74
                  replace ss102 := (kp 102 rfl).trans ss102
                  replace ss112 := (kp 112 rfl).trans ss112
                  replace dd := dd1.trans dd
                  clear dd1 kp
                  refine then_normal ?_
                  refine hK61 _ _ ?_
                  refine exact6_w_r34x1 n rc acts b5 i a cc la lc l hi hi2 hll z1ld z1rd y x b9 z2d m hm1 hm a33_4 c33_4 H aa nn ss7 ss14 ?_
                  clear H nn ss7
                  intro a34_2 c34_2 aa ww nn dd1 kp ss7 H
                  replace ss0 := (kp 0 rfl).trans ss0
                  replace ss1 := (kp 1 rfl).trans ss1
                  replace ss5 := (kp 5 rfl).trans ss5
                  replace ss6 := (kp 6 rfl).trans ss6
                  replace ss8 := (kp 8 rfl).trans ss8
                  replace ss9 := (kp 9 rfl).trans ss9
                  replace ss14 := (kp 14 rfl).trans ss14
                  replace ss21 := (kp 21 rfl).trans ss21
                  replace ss30 := (kp 30 rfl).trans ss30
                  replace ss39 := (kp 39 rfl).trans ss39
                  replace ss49 := (kp 49 rfl).trans ss49
                  replace ss51 := (kp 51 rfl).trans ss51
                  replace ss74 := (kp 74 rfl).trans ss74
                  replace ss102 := (kp 102 rfl).trans ss102
                  replace ss112 := (kp 112 rfl).trans ss112
                  replace dd := dd1.trans dd
                  clear dd1 kp
                  refine block_normal ?_
                  refine then_normal ?_
                  refine hK18 _ _ ?_
                  refine wp_seq_k fun KK62 hK62 => ?_
                  refine exact6_w_r35x8 n rc acts b5 i a cc la lc l hi hi2 hll z1ld z1rd y x b9 z2d m hm1 hm a33_4 c33_4 a34_2 c34_2 H aa nn ss5 ss6 ss7 ?_
                  clear H nn
                  intro aa ww nn dd1 kp ss137 H
                  replace ss0 := (kp 0 rfl).trans ss0
                  replace ss1 := (kp 1 rfl).trans ss1
                  replace ss5 := (kp 5 rfl).trans ss5
                  replace ss6 := (kp 6 rfl).trans ss6
                  replace ss7 := (kp 7 rfl).trans ss7
                  replace ss8 := (kp 8 rfl).trans ss8
                  replace ss9 := (kp 9 rfl).trans ss9
                  replace ss14 := (kp 14 rfl).trans ss14
                  replace ss21 := (kp 21 rfl).trans ss21
                  replace ss30 := (kp 30 rfl).trans ss30
                  replace ss39 := (kp 39 rfl).trans ss39
                  replace ss49 := (kp 49 rfl).trans ss49
                  replace ss51 := (kp 51 rfl).trans ss51
                  replace ss74 := (kp 74 rfl).trans ss74
                  replace ss102 := (kp 102 rfl).trans ss102
                  replace ss112 := (kp 112 rfl).trans ss112
                  replace dd := dd1.trans dd
                  clear dd1 kp
                  refine then_normal ?_
                  refine hK62 _ _ ?_
                  refine wp_cond_false ss137 ?_
                  refine wp_skip ?_
                  refine block_normal ?_
                  refine then_normal ?_
                  refine hK13 _ _ ?_
                  refine exact6_w_r10x8 n rc acts b5 i a cc la lc l hi hi2 hll z1ld z1rd y x b9 z2d m hm1 hm a33_4 c33_4 a34_2 c34_2 H aa nn ss8 ?_
                  clear H nn ss8
                  intro aa ww nn dd1 kp ss8 H
                  replace ss0 := (kp 0 rfl).trans ss0
                  replace ss1 := (kp 1 rfl).trans ss1
                  replace ss5 := (kp 5 rfl).trans ss5
                  replace ss6 := (kp 6 rfl).trans ss6
                  replace ss7 := (kp 7 rfl).trans ss7
                  replace ss9 := (kp 9 rfl).trans ss9
                  replace ss14 := (kp 14 rfl).trans ss14
                  replace ss21 := (kp 21 rfl).trans ss21
                  replace ss30 := (kp 30 rfl).trans ss30
                  replace ss39 := (kp 39 rfl).trans ss39
                  replace ss49 := (kp 49 rfl).trans ss49
                  replace ss51 := (kp 51 rfl).trans ss51
                  replace ss74 := (kp 74 rfl).trans ss74
                  replace ss102 := (kp 102 rfl).trans ss102
                  replace ss112 := (kp 112 rfl).trans ss112
                  replace ss137 := (kp 137 rfl).trans ss137
                  replace dd := dd1.trans dd
                  clear dd1 kp
                  refine then_normal ?_
                  replace H := hp_front H 6 rfl
                  replace H := hp_front H 2 rfl
                  replace H := hp_front H 5 rfl
                  replace H := hp_front H 3 rfl
                  refine ⟨⟨i + 1, a33_4, c33_4, a34_2, c34_2, (l.filter (keptV (2 + m))), (by omega), (by omega), (by first | omega | exact Nat.le_trans (few_with _ _ _ _) (by omega) | exact Nat.le_trans (List.length_filter_le _ _) (by omega)), (by first | exact hs | exact Lib.hid (sorted_with hs.out _ _ _) | exact Lib.hid (List.Pairwise.filter _ hs.out)), (by first | exact hrm | exact Lib.hid (len_with hrm.out) | exact Lib.hid (Int.le_trans (Int.ofNat_le.2 (List.length_filter_le _ _)) hrm.out)), nn, dd, ss0, ss1, ss5, ss6, ss7, ss8, ss21, ss30, (hp_take H 4)⟩, ?_⟩
                  simp only [mu1_8, ss8, intOf]
                  omega
                · skip
                  have z12o : (x.kind != 5) = true := eqq_f z12
                  refine wp_seq_k fun KK63 hK63 => ?_
                  refine exact6_w_r15x1 n rc acts b5 i a cc la lc l hi hi2 hll hs z1ld z1rd y x b9 z2d H aa nn ss5 ss9 ?_
                  clear H nn
                  intro aa ww nn dd1 kp ss15 ss16 H
                  replace ss0 := (kp 0 rfl).trans ss0
                  replace ss1 := (kp 1 rfl).trans ss1
                  replace ss5 := (kp 5 rfl).trans ss5
                  replace ss6 := (kp 6 rfl).trans ss6
                  replace ss7 := (kp 7 rfl).trans ss7
                  replace ss8 := (kp 8 rfl).trans ss8
                  replace ss9 := (kp 9 rfl).trans ss9
                  replace ss21 := (kp 21 rfl).trans ss21
                  replace ss30 := (kp 30 rfl).trans ss30
                  replace ss39 := (kp 39 rfl).trans ss39
                  replace ss49 := (kp 49 rfl).trans ss49
                  replace ss51 := (kp 51 rfl).trans ss51
                  replace ss74 := (kp 74 rfl).trans ss74
                  replace ss102 := (kp 102 rfl).trans ss102
                  replace ss112 := (kp 112 rfl).trans ss112
                  replace dd := dd1.trans dd
                  clear dd1 kp
                  refine then_normal ?_
                  refine hK63 _ _ ?_
                  refine wp_seq_k fun KK64 hK64 => ?_
                  refine exact6_w_r16x1 n rc acts b5 i a cc la lc l hi hi2 hll z1ld z1rd y x b9 z2d H aa nn ss7 ss9 ?_
                  clear H nn
                  intro aa ww nn dd1 kp ss17 ss18 H
                  replace ss0 := (kp 0 rfl).trans ss0
                  replace ss1 := (kp 1 rfl).trans ss1
                  replace ss5 := (kp 5 rfl).trans ss5
                  replace ss6 := (kp 6 rfl).trans ss6
                  replace ss7 := (kp 7 rfl).trans ss7
                  replace ss8 := (kp 8 rfl).trans ss8
                  replace ss9 := (kp 9 rfl).trans ss9
                  replace ss15 := (kp 15 rfl).trans ss15
                  replace ss16 := (kp 16 rfl).trans ss16
                  replace ss21 := (kp 21 rfl).trans ss21
                  replace ss30 := (kp 30 rfl).trans ss30
                  replace ss39 := (kp 39 rfl).trans ss39
                  replace ss49 := (kp 49 rfl).trans ss49
                  replace ss51 := (kp 51 rfl).trans ss51
                  replace ss74 := (kp 74 rfl).trans ss74
                  replace ss102 := (kp 102 rfl).trans ss102
                  replace ss112 := (kp 112 rfl).trans ss112
                  replace dd := dd1.trans dd
                  clear dd1 kp
                  refine then_normal ?_
                  refine hK64 _ _ ?_
                  refine wp_seq_k fun KK65 hK65 => ?_
                  refine exact6_w_r17x1 n rc acts b5 i a cc la lc l hi hi2 hll z1ld z1rd y x b9 z2d H aa nn ss15 ss16 ss17 ss18 ?_
                  clear H nn
                  intro aa ww nn dd1 kp ss73 H
                  replace ss0 := (kp 0 rfl).trans ss0
                  replace ss1 := (kp 1 rfl).trans ss1
                  replace ss5 := (kp 5 rfl).trans ss5
                  replace ss6 := (kp 6 rfl).trans ss6
                  replace ss7 := (kp 7 rfl).trans ss7
                  replace ss8 := (kp 8 rfl).trans ss8
                  replace ss9 := (kp 9 rfl).trans ss9
                  replace ss15 := (kp 15 rfl).trans ss15
                  replace ss16 := (kp 16 rfl).trans ss16
                  replace ss17 := (kp 17 rfl).trans ss17
                  replace ss18 := (kp 18 rfl).trans ss18
                  replace ss21 := (kp 21 rfl).trans ss21
                  replace ss30 := (kp 30 rfl).trans ss30
                  replace ss39 := (kp 39 rfl).trans ss39
                  replace ss49 := (kp 49 rfl).trans ss49
                  replace ss51 := (kp 51 rfl).trans ss51
                  replace ss74 := (kp 74 rfl).trans ss74
                  replace ss102 := (kp 102 rfl).trans ss102
                  replace ss112 := (kp 112 rfl).trans ss112
                  replace dd := dd1.trans dd
                  clear dd1 kp
                  refine then_normal ?_
                  refine hK65 _ _ ?_
                  refine wp_cond_false ss73 ?_
                  refine wp_skip ?_
                  refine block_normal ?_
                  refine then_normal ?_
                  refine hK18 _ _ ?_
                  refine wp_seq_k fun KK66 hK66 => ?_
                  refine exact6_w_r35x9 n rc acts b5 i a cc la lc l hi hi2 hll z1ld z1rd y x b9 z2d H aa nn ss5 ss6 ss7 ?_
                  clear H nn
                  intro aa ww nn dd1 kp ss137 H
                  replace ss0 := (kp 0 rfl).trans ss0
                  replace ss1 := (kp 1 rfl).trans ss1
                  replace ss5 := (kp 5 rfl).trans ss5
                  replace ss6 := (kp 6 rfl).trans ss6
                  replace ss7 := (kp 7 rfl).trans ss7
                  replace ss8 := (kp 8 rfl).trans ss8
                  replace ss9 := (kp 9 rfl).trans ss9
                  replace ss15 := (kp 15 rfl).trans ss15
                  replace ss16 := (kp 16 rfl).trans ss16
                  replace ss17 := (kp 17 rfl).trans ss17
                  replace ss18 := (kp 18 rfl).trans ss18
                  replace ss21 := (kp 21 rfl).trans ss21
                  replace ss30 := (kp 30 rfl).trans ss30
                  replace ss39 := (kp 39 rfl).trans ss39
                  replace ss49 := (kp 49 rfl).trans ss49
                  replace ss51 := (kp 51 rfl).trans ss51
                  replace ss73 := (kp 73 rfl).trans ss73
                  replace ss74 := (kp 74 rfl).trans ss74
                  replace ss102 := (kp 102 rfl).trans ss102
                  replace ss112 := (kp 112 rfl).trans ss112
                  replace dd := dd1.trans dd
                  clear dd1 kp
                  refine then_normal ?_
                  refine hK66 _ _ ?_
                  refine wp_cond_false ss137 ?_
                  refine wp_skip ?_
                  refine block_normal ?_
                  refine then_normal ?_
                  refine hK13 _ _ ?_
                  refine exact6_w_r10x9 n rc acts b5 i a cc la lc l hi hi2 hll z1ld z1rd y x b9 z2d H aa nn ss8 ?_
                  clear H nn ss8
                  intro aa ww nn dd1 kp ss8 H
                  replace ss0 := (kp 0 rfl).trans ss0
                  replace ss1 := (kp 1 rfl).trans ss1
                  replace ss5 := (kp 5 rfl).trans ss5
                  replace ss6 := (kp 6 rfl).trans ss6
                  replace ss7 := (kp 7 rfl).trans ss7
                  replace ss9 := (kp 9 rfl).trans ss9
                  replace ss15 := (kp 15 rfl).trans ss15
                  replace ss16 := (kp 16 rfl).trans ss16
                  replace ss17 := (kp 17 rfl).trans ss17
                  replace ss18 := (kp 18 rfl).trans ss18
                  replace ss21 := (kp 21 rfl).trans ss21
                  replace ss30 := (kp 30 rfl).trans ss30
                  replace ss39 := (kp 39 rfl).trans ss39
                  replace ss49 := (kp 49 rfl).trans ss49
                  replace ss51 := (kp 51 rfl).trans ss51
                  replace ss73 := (kp 73 rfl).trans ss73
                  replace ss74 := (kp 74 rfl).trans ss74
                  replace ss102 := (kp 102 rfl).trans ss102
                  replace ss112 := (kp 112 rfl).trans ss112
                  replace ss137 := (kp 137 rfl).trans ss137
                  replace dd := dd1.trans dd
                  clear dd1 kp
                  refine then_normal ?_
                  replace H := hp_front H 4 rfl
                  replace H := hp_front H 4 rfl
                  replace H := hp_front H 4 rfl
                  replace H := hp_front H 4 rfl
                  refine ⟨⟨i + 1, a, cc, la, lc, l, (by omega), (by omega), (by first | omega | exact Nat.le_trans (few_with _ _ _ _) (by omega) | exact Nat.le_trans (List.length_filter_le _ _) (by omega)), (by first | exact hs | exact Lib.hid (sorted_with hs.out _ _ _) | exact Lib.hid (List.Pairwise.filter _ hs.out)), (by first | exact hrm | exact Lib.hid (len_with hrm.out) | exact Lib.hid (Int.le_trans (Int.ofNat_le.2 (List.length_filter_le _ _)) hrm.out)), nn, dd, ss0, ss1, ss5, ss6, ss7, ss8, ss21, ss30, (hp_take H 4)⟩, ?_⟩
                  simp only [mu1_8, ss8, intOf]
                  omega
          · skip
            have z8o : (x.kind != 2) = true := eqq_f z8
            refine exact6_w_r21 n rc acts b5 i a cc la lc l hi hi2 hll z1ld z1rd y x b9 z2d H aa nn ss51 ?_
            clear H nn ss74
            intro aa ww nn dd1 kp ss74 H
            replace ss0 := (kp 0 rfl).trans ss0
            replace ss1 := (kp 1 rfl).trans ss1
            replace ss5 := (kp 5 rfl).trans ss5
            replace ss6 := (kp 6 rfl).trans ss6
            replace ss7 := (kp 7 rfl).trans ss7
            replace ss8 := (kp 8 rfl).trans ss8
            replace ss9 := (kp 9 rfl).trans ss9
            replace ss21 := (kp 21 rfl).trans ss21
            replace ss30 := (kp 30 rfl).trans ss30
            replace ss39 := (kp 39 rfl).trans ss39
            replace ss49 := (kp 49 rfl).trans ss49
            replace ss51 := (kp 51 rfl).trans ss51
            replace dd := dd1.trans dd
            clear dd1 kp
            refine then_normal ?_
            refine hK20 _ _ ?_
            refine wp_cond_split ss74 (fun z13 => ?_) (fun z13 => ?_)
            · skip
              have z13o : (x.kind != 3) = false := eqq_t z13
              refine wp_seq_k fun KK67 hK67 => ?_
              rcases Bool.eq_false_or_eq_true (((!(getR x.key l).2) && (decide (kR n ≤ (l.length : Int))))) with y14 | y14
              · skip
                refine exact6_w_r22x4 n rc acts b5 i a cc la lc l hi hi2 hll hs hrm z1ld z1rd y x b9 z2d y14 H aa nn ss5 ss9 ?_
                clear H nn
                intro a22_5 c22_5 b10 aa ww nn dd1 kp ss10 ss11 H
                replace ss0 := (kp 0 rfl).trans ss0
                replace ss1 := (kp 1 rfl).trans ss1
                replace ss5 := (kp 5 rfl).trans ss5
                replace ss6 := (kp 6 rfl).trans ss6
                replace ss7 := (kp 7 rfl).trans ss7
                replace ss8 := (kp 8 rfl).trans ss8
                replace ss9 := (kp 9 rfl).trans ss9
                replace ss21 := (kp 21 rfl).trans ss21
                replace ss30 := (kp 30 rfl).trans ss30
                replace ss39 := (kp 39 rfl).trans ss39
                replace ss49 := (kp 49 rfl).trans ss49
                replace ss51 := (kp 51 rfl).trans ss51
                replace ss74 := (kp 74 rfl).trans ss74
                replace dd := dd1.trans dd
                clear dd1 kp
                refine then_normal ?_
                refine hK67 _ _ ?_
                refine wp_seq_k fun KK68 hK68 => ?_
                refine exact6_w_r23x4 n rc acts b5 i a cc la lc l hi hi2 hll z1ld z1rd y x b9 z2d y14 a22_5 c22_5 b10 H aa nn ss6 ss7 ss9 ?_
                clear H nn
                intro aa ww nn dd1 kp ss12 ss13 H
                replace ss0 := (kp 0 rfl).trans ss0
                replace ss1 := (kp 1 rfl).trans ss1
                replace ss5 := (kp 5 rfl).trans ss5
                replace ss6 := (kp 6 rfl).trans ss6
                replace ss7 := (kp 7 rfl).trans ss7
                replace ss8 := (kp 8 rfl).trans ss8
                replace ss9 := (kp 9 rfl).trans ss9
                replace ss10 := (kp 10 rfl).trans ss10
                replace ss11 := (kp 11 rfl).trans ss11
                replace ss21 := (kp 21 rfl).trans ss21
                replace ss30 := (kp 30 rfl).trans ss30
                replace ss39 := (kp 39 rfl).trans ss39
                replace ss49 := (kp 49 rfl).trans ss49
                replace ss51 := (kp 51 rfl).trans ss51
                replace ss74 := (kp 74 rfl).trans ss74
                replace dd := dd1.trans dd
                clear dd1 kp
                refine then_normal ?_
                refine hK68 _ _ ?_
                refine wp_seq_k fun KK69 hK69 => ?_
                refine wp_seq_k fun KK70 hK70 => ?_
                refine exact6_w_r24x4 n rc acts b5 i a cc la lc l hi hi2 hll z1ld z1rd y x b9 z2d a22_5 c22_5 b10 H aa nn ss11 ss13 ?_
                clear H nn
                intro aa ww nn dd1 kp ss99 H
                replace ss0 := (kp 0 rfl).trans ss0
                replace ss1 := (kp 1 rfl).trans ss1
                replace ss5 := (kp 5 rfl).trans ss5
                replace ss6 := (kp 6 rfl).trans ss6
                replace ss7 := (kp 7 rfl).trans ss7
                replace ss8 := (kp 8 rfl).trans ss8
                replace ss9 := (kp 9 rfl).trans ss9
                replace ss10 := (kp 10 rfl).trans ss10
                replace ss11 := (kp 11 rfl).trans ss11
                replace ss12 := (kp 12 rfl).trans ss12
                replace ss13 := (kp 13 rfl).trans ss13
                replace ss21 := (kp 21 rfl).trans ss21
                replace ss30 := (kp 30 rfl).trans ss30
                replace ss39 := (kp 39 rfl).trans ss39
                replace ss49 := (kp 49 rfl).trans ss49
                replace ss51 := (kp 51 rfl).trans ss51
                replace ss74 := (kp 74 rfl).trans ss74
                replace dd := dd1.trans dd
                clear dd1 kp
                refine then_normal ?_
                refine hK70 _ _ ?_
                refine wp_cond_false ss99 ?_
                refine wp_skip ?_
                refine then_normal ?_
                refine hK69 _ _ ?_
                refine wp_seq_k fun KK71 hK71 => ?_
                refine exact6_w_r26x4 n rc acts b5 i a cc la lc l hi hi2 hll z1ld z1rd y x b9 z2d a22_5 c22_5 b10 H aa nn ss5 ss10 ?_
                clear H nn
                intro aa ww nn dd1 kp H
                replace ss0 := (kp 0 rfl).trans ss0
                replace ss1 := (kp 1 rfl).trans ss1
                replace ss5 := (kp 5 rfl).trans ss5
                replace ss6 := (kp 6 rfl).trans ss6
                replace ss7 := (kp 7 rfl).trans ss7
                replace ss8 := (kp 8 rfl).trans ss8
                replace ss9 := (kp 9 rfl).trans ss9
                replace ss10 := (kp 10 rfl).trans ss10
                replace ss11 := (kp 11 rfl).trans ss11
                replace ss12 := (kp 12 rfl).trans ss12
                replace ss13 := (kp 13 rfl).trans ss13
                replace ss21 := (kp 21 rfl).trans ss21
                replace ss30 := (kp 30 rfl).trans ss30
                replace ss39 := (kp 39 rfl).trans ss39
                replace ss49 := (kp 49 rfl).trans ss49
                replace ss51 := (kp 51 rfl).trans ss51
                replace ss74 := (kp 74 rfl).trans ss74
                replace ss99 := (kp 99 rfl).trans ss99
                replace dd := dd1.trans dd
                clear dd1 kp
                refine then_normal ?_
                refine hK71 _ _ ?_
                refine exact6_w_r27x4 n rc acts b5 i a cc la lc l hi hi2 hll z1ld z1rd y x b9 z2d a22_5 c22_5 b10 H aa nn ss12 ?_
                clear H nn ss7
                intro aa ww nn dd1 kp ss7 H
                replace ss0 := (kp 0 rfl).trans ss0
                replace ss1 := (kp 1 rfl).trans ss1
                replace ss5 := (kp 5 rfl).trans ss5
                replace ss6 := (kp 6 rfl).trans ss6
                replace ss8 := (kp 8 rfl).trans ss8
                replace ss9 := (kp 9 rfl).trans ss9
                replace ss10 := (kp 10 rfl).trans ss10
                replace ss11 := (kp 11 rfl).trans ss11
                replace ss12 := (kp 12 rfl).trans ss12
                replace ss13 := (kp 13 rfl).trans ss13
                replace ss21 := (kp 21 rfl).trans ss21
                replace ss30 := (kp 30 rfl).trans ss30
                replace ss39 := (kp 39 rfl).trans ss39
                replace ss49 := (kp 49 rfl).trans ss49
                replace ss51 := (kp 51 rfl).trans ss51
                replace ss74 := (kp 74 rfl).trans ss74
                replace ss99 := (kp 99 rfl).trans ss99
                replace dd := dd1.trans dd
                clear dd1 kp
                refine block_normal ?_
                refine then_normal ?_
                refine hK18 _ _ ?_
                refine wp_seq_k fun KK72 hK72 => ?_
                refine exact6_w_r35x10 n rc acts b5 i a cc la lc l hi hi2 hll z1ld z1rd y x b9 z2d a22_5 c22_5 b10 H aa nn ss5 ss6 ss7 ?_
                clear H nn
                intro aa ww nn dd1 kp ss137 H
                replace ss0 := (kp 0 rfl).trans ss0
                replace ss1 := (kp 1 rfl).trans ss1
                replace ss5 := (kp 5 rfl).trans ss5
                replace ss6 := (kp 6 rfl).trans ss6
                replace ss7 := (kp 7 rfl).trans ss7
                replace ss8 := (kp 8 rfl).trans ss8
                replace ss9 := (kp 9 rfl).trans ss9
                replace ss10 := (kp 10 rfl).trans ss10
                replace ss11 := (kp 11 rfl).trans ss11
                replace ss12 := (kp 12 rfl).trans ss12
                replace ss13 := (kp 13 rfl).trans ss13
                replace ss21 := (kp 21 rfl).trans ss21
                replace ss30 := (kp 30 rfl).trans ss30
                replace ss39 := (kp 39 rfl).trans ss39
                replace ss49 := (kp 49 rfl).trans ss49
                replace ss51 := (kp 51 rfl).trans ss51
                replace ss74 := (kp 74 rfl).trans ss74
                replace ss99 := (kp 99 rfl).trans ss99
                replace dd := dd1.trans dd
                clear dd1 kp
                refine then_normal ?_
                refine hK72 _ _ ?_
                refine wp_cond_false ss137 ?_
                refine wp_skip ?_
                refine block_normal ?_
                refine then_normal ?_
                refine hK13 _ _ ?_
                refine exact6_w_r10x10 n rc acts b5 i a cc la lc l hi hi2 hll z1ld z1rd y x b9 z2d a22_5 c22_5 b10 H aa nn ss8 ?_
                clear H nn ss8
                intro aa ww nn dd1 kp ss8 H
                replace ss0 := (kp 0 rfl).trans ss0
                replace ss1 := (kp 1 rfl).trans ss1
                replace ss5 := (kp 5 rfl).trans ss5
                replace ss6 := (kp 6 rfl).trans ss6
                replace ss7 := (kp 7 rfl).trans ss7
                replace ss9 := (kp 9 rfl).trans ss9
                replace ss10 := (kp 10 rfl).trans ss10
                replace ss11 := (kp 11 rfl).trans ss11
                replace ss12 := (kp 12 rfl).trans ss12
                replace ss13 := (kp 13 rfl).trans ss13
                replace ss21 := (kp 21 rfl).trans ss21
                replace ss30 := (kp 30 rfl).trans ss30
                replace ss39 := (kp 39 rfl).trans ss39
                replace ss49 := (kp 49 rfl).trans ss49
                replace ss51 := (kp 51 rfl).trans ss51
                replace ss74 := (kp 74 rfl).trans ss74
                replace ss99 := (kp 99 rfl).trans ss99
                replace ss137 := (kp 137 rfl).trans ss137
                replace dd := dd1.trans dd
                clear dd1 kp
                refine then_normal ?_
                replace H := hp_front H 6 rfl
                replace H := hp_front H 2 rfl
                replace H := hp_front H 5 rfl
                replace H := hp_front H 5 rfl
                refine ⟨⟨i + 1, a22_5, c22_5, la, lc, l, (by omega), (by omega), (by first | omega | exact Nat.le_trans (few_with _ _ _ _) (by omega) | exact Nat.le_trans (List.length_filter_le _ _) (by omega)), (by first | exact hs | exact Lib.hid (sorted_with hs.out _ _ _) | exact Lib.hid (List.Pairwise.filter _ hs.out)), (by first | exact hrm | exact Lib.hid (len_with hrm.out) | exact Lib.hid (Int.le_trans (Int.ofNat_le.2 (List.length_filter_le _ _)) hrm.out)), nn, dd, ss0, ss1, ss5, ss6, ss7, ss8, ss21, ss30, (hp_take H 4)⟩, ?_⟩
                simp only [mu1_8, ss8, intOf]
                omega
              · skip
                refine exact6_w_r22x5 n rc acts b5 i a cc la lc l hi hi2 hll hs z1ld z1rd y x b9 z2d y14 H aa nn ss5 ss9 ?_
                clear H nn
                intro a22_5 c22_5 b10 aa ww nn dd1 kp ss10 ss11 H
                replace ss0 := (kp 0 rfl).trans ss0
                replace ss1 := (kp 1 rfl).trans ss1
                replace ss5 := (kp 5 rfl).trans ss5
                replace ss6 := (kp 6 rfl).trans ss6
                replace ss7 := (kp 7 rfl).trans ss7
                replace ss8 := (kp 8 rfl).trans ss8
                replace ss9 := (kp 9 rfl).trans ss9
                replace ss21 := (kp 21 rfl).trans ss21
                replace ss30 := (kp 30 rfl).trans ss30
                replace ss39 := (kp 39 rfl).trans ss39
                replace ss49 := (kp 49 rfl).trans ss49
                replace ss51 := (kp 51 rfl).trans ss51
                replace ss74 := (kp 74 rfl).trans ss74
                replace dd := dd1.trans dd
                clear dd1 kp
                refine then_normal ?_
                refine hK67 _ _ ?_
                refine wp_seq_k fun KK73 hK73 => ?_
                refine exact6_w_r23x5 n rc acts b5 i a cc la lc l hi hi2 hll hs z1ld z1rd y x b9 z2d y14 a22_5 c22_5 b10 H aa nn ss6 ss7 ss9 ?_
                clear H nn
                intro a23_6 c23_6 aa ww nn dd1 kp ss12 ss13 H
                replace ss0 := (kp 0 rfl).trans ss0
                replace ss1 := (kp 1 rfl).trans ss1
                replace ss5 := (kp 5 rfl).trans ss5
                replace ss6 := (kp 6 rfl).trans ss6
                replace ss7 := (kp 7 rfl).trans ss7
                replace ss8 := (kp 8 rfl).trans ss8
                replace ss9 := (kp 9 rfl).trans ss9
                replace ss10 := (kp 10 rfl).trans ss10
                replace ss11 := (kp 11 rfl).trans ss11
                replace ss21 := (kp 21 rfl).trans ss21
                replace ss30 := (kp 30 rfl).trans ss30
                replace ss39 := (kp 39 rfl).trans ss39
                replace ss49 := (kp 49 rfl).trans ss49
                replace ss51 := (kp 51 rfl).trans ss51
                replace ss74 := (kp 74 rfl).trans ss74
                replace dd := dd1.trans dd
                clear dd1 kp
                refine then_normal ?_
                refine hK73 _ _ ?_
                refine wp_seq_k fun KK74 hK74 => ?_
                refine wp_seq_k fun KK75 hK75 => ?_
                refine exact6_w_r24x5 n rc acts b5 i a cc la lc l hi hi2 hll z1ld z1rd y x b9 z2d a22_5 c22_5 b10 a23_6 c23_6 H aa nn ss11 ss13 ?_
                clear H nn
                intro aa ww nn dd1 kp ss99 H
                replace ss0 := (kp 0 rfl).trans ss0
                replace ss1 := (kp 1 rfl).trans ss1
                replace ss5 := (kp 5 rfl).trans ss5
                replace ss6 := (kp 6 rfl).trans ss6
                replace ss7 := (kp 7 rfl).trans ss7
                replace ss8 := (kp 8 rfl).trans ss8
                replace ss9 := (kp 9 rfl).trans ss9
                replace ss10 := (kp 10 rfl).trans ss10
                replace ss11 := (kp 11 rfl).trans ss11
                replace ss12 := (kp 12 rfl).trans ss12
                replace ss13 := (kp 13 rfl).trans ss13
                replace ss21 := (kp 21 rfl).trans ss21
                replace ss30 := (kp 30 rfl).trans ss30
                replace ss39 := (kp 39 rfl).trans ss39
                replace ss49 := (kp 49 rfl).trans ss49
                replace ss51 := (kp 51 rfl).trans ss51
                replace ss74 := (kp 74 rfl).trans ss74
                replace dd := dd1.trans dd
                clear dd1 kp
                refine then_normal ?_
                refine hK75 _ _ ?_
                refine wp_cond_false ss99 ?_
                refine wp_skip ?_
                refine then_normal ?_
                refine hK74 _ _ ?_
                refine wp_seq_k fun KK76 hK76 => ?_
                refine exact6_w_r26x5 n rc acts b5 i a cc la lc l hi hi2 hll z1ld z1rd y x b9 z2d a22_5 c22_5 b10 a23_6 c23_6 H aa nn ss5 ss10 ?_
                clear H nn
                intro aa ww nn dd1 kp H
                replace ss0 := (kp 0 rfl).trans ss0
                replace ss1 := (kp 1 rfl).trans ss1
                replace ss5 := (kp 5 rfl).trans ss5
                replace ss6 := (kp 6 rfl).trans ss6
                replace ss7 := (kp 7 rfl).trans ss7
                replace ss8 := (kp 8 rfl).trans ss8
                replace ss9 := (kp 9 rfl).trans ss9
                replace ss10 := (kp 10 rfl).trans ss10
                replace ss11 := (kp 11 rfl).trans ss11
                replace ss12 := (kp 12 rfl).trans ss12
                replace ss13 := (kp 13 rfl).trans ss13
                replace ss21 := (kp 21 rfl).trans ss21
                replace ss30 := (kp 30 rfl).trans ss30
                replace ss39 := (kp 39 rfl).trans ss39
                replace ss49 := (kp 49 rfl).trans ss49
                replace ss51 := (kp 51 rfl).trans ss51
                replace ss74 := (kp 74 rfl).trans ss74
                replace ss99 := (kp 99 rfl).trans ss99
                replace dd := dd1.trans dd
                clear dd1 kp
                refine then_normal ?_
                refine hK76 _ _ ?_
                refine exact6_w_r27x5 n rc acts b5 i a cc la lc l hi hi2 hll z1ld z1rd y x b9 z2d a22_5 c22_5 b10 a23_6 c23_6 H aa nn ss12 ?_
                clear H nn ss7
                intro aa ww nn dd1 kp ss7 H
                replace ss0 := (kp 0 rfl).trans ss0
                replace ss1 := (kp 1 rfl).trans ss1
                replace ss5 := (kp 5 rfl).trans ss5
                replace ss6 := (kp 6 rfl).trans ss6
                replace ss8 := (kp 8 rfl).trans ss8
                replace ss9 := (kp 9 rfl).trans ss9
                replace ss10 := (kp 10 rfl).trans ss10
                replace ss11 := (kp 11 rfl).trans ss11
                replace ss12 := (kp 12 rfl).trans ss12
                replace ss13 := (kp 13 rfl).trans ss13
                replace ss21 := (kp 21 rfl).trans ss21
                replace ss30 := (kp 30 rfl).trans ss30
                replace ss39 := (kp 39 rfl).trans ss39
                replace ss49 := (kp 49 rfl).trans ss49
                replace ss51 := (kp 51 rfl).trans ss51
                replace ss74 := (kp 74 rfl).trans ss74
                replace ss99 := (kp 99 rfl).trans ss99
                replace dd := dd1.trans dd
                clear dd1 kp
                refine block_normal ?_
                refine then_normal ?_
                refine hK18 _ _ ?_
                refine wp_seq_k fun KK77 hK77 => ?_
                refine exact6_w_r35x11 n rc acts b5 i a cc la lc l hi hi2 hll z1ld z1rd y x b9 z2d a22_5 c22_5 b10 a23_6 c23_6 H aa nn ss5 ss6 ss7 ?_
                clear H nn
                intro aa ww nn dd1 kp ss137 H
                replace ss0 := (kp 0 rfl).trans ss0
                replace ss1 := (kp 1 rfl).trans ss1
                replace ss5 := (kp 5 rfl).trans ss5
                replace ss6 := (kp 6 rfl).trans ss6
                replace ss7 := (kp 7 rfl).trans ss7
                replace ss8 := (kp 8 rfl).trans ss8
                replace ss9 := (kp 9 rfl).trans ss9
                replace ss10 := (kp 10 rfl).trans ss10
                replace ss11 := (kp 11 rfl).trans ss11
                replace ss12 := (kp 12 rfl).trans ss12
                replace ss13 := (kp 13 rfl).trans ss13
                replace ss21 := (kp 21 rfl).trans ss21
                replace ss30 := (kp 30 rfl).trans ss30
                replace ss39 := (kp 39 rfl).trans ss39
                replace ss49 := (kp 49 rfl).trans ss49
                replace ss51 := (kp 51 rfl).trans ss51
                replace ss74 := (kp 74 rfl).trans ss74
                replace ss99 := (kp 99 rfl).trans ss99
                replace dd := dd1.trans dd
                clear dd1 kp
                refine then_normal ?_
                refine hK77 _ _ ?_
                refine wp_cond_false ss137 ?_
                refine wp_skip ?_
                refine block_normal ?_
                refine then_normal ?_
                refine hK13 _ _ ?_
                refine exact6_w_r10x11 n rc acts b5 i a cc la lc l hi hi2 hll z1ld z1rd y x b9 z2d a22_5 c22_5 b10 a23_6 c23_6 H aa nn ss8 ?_
                clear H nn ss8
                intro aa ww nn dd1 kp ss8 H
                replace ss0 := (kp 0 rfl).trans ss0
                replace ss1 := (kp 1 rfl).trans ss1
                replace ss5 := (kp 5 rfl).trans ss5
                replace ss6 := (kp 6 rfl).trans ss6
                replace ss7 := (kp 7 rfl).trans ss7
                replace ss9 := (kp 9 rfl).trans ss9
                replace ss10 := (kp 10 rfl).trans ss10
                replace ss11 := (kp 11 rfl).trans ss11
                replace ss12 := (kp 12 rfl).trans ss12
                replace ss13 := (kp 13 rfl).trans ss13
                replace ss21 := (kp 21 rfl).trans ss21
                replace ss30 := (kp 30 rfl).trans ss30
                replace ss39 := (kp 39 rfl).trans ss39
                replace ss49 := (kp 49 rfl).trans ss49
                replace ss51 := (kp 51 rfl).trans ss51
                replace ss74 := (kp 74 rfl).trans ss74
                replace ss99 := (kp 99 rfl).trans ss99
                replace ss137 := (kp 137 rfl).trans ss137
                replace dd := dd1.trans dd
                clear dd1 kp
                refine then_normal ?_
                replace H := hp_front H 7 rfl
                replace H := hp_front H 3 rfl
                replace H := hp_front H 6 rfl
                replace H := hp_front H 3 rfl
                refine ⟨⟨i + 1, a22_5, c22_5, a23_6, c23_6, (withV (kR n) x.key x.val l).1, (by omega), (by omega), (by first | omega | exact Nat.le_trans (few_with _ _ _ _) (by omega) | exact Nat.le_trans (List.length_filter_le _ _) (by omega)), (by first | exact hs | exact Lib.hid (sorted_with hs.out _ _ _) | exact Lib.hid (List.Pairwise.filter _ hs.out)), (by first | exact hrm | exact Lib.hid (len_with hrm.out) | exact Lib.hid (Int.le_trans (Int.ofNat_le.2 (List.length_filter_le _ _)) hrm.out)), nn, dd, ss0, ss1, ss5, ss6, ss7, ss8, ss21, ss30, (hp_take H 4)⟩, ?_⟩
                simp only [mu1_8, ss8, intOf]
                omega
            · skip
              have z13o : (x.kind != 3) = true := eqq_f z13
              refine wp_seq_k fun KK78 hK78 => ?_
              refine exact6_w_r28x2 n rc acts b5 i a cc la lc l hi hi2 hll z1ld z1rd y x b9 z2d H aa nn ss51 ?_
              clear H nn
              intro aa ww nn dd1 kp ss102 H
              replace ss0 := (kp 0 rfl).trans ss0
              replace ss1 := (kp 1 rfl).trans ss1
              replace ss5 := (kp 5 rfl).trans ss5
              replace ss6 := (kp 6 rfl).trans ss6
              replace ss7 := (kp 7 rfl).trans ss7
              replace ss8 := (kp 8 rfl).trans ss8
              replace ss9 := (kp 9 rfl).trans ss9
              replace ss21 := (kp 21 rfl).trans ss21
              replace ss30 := (kp 30 rfl).trans ss30
              replace ss39 := (kp 39 rfl).trans ss39
              replace ss49 := (kp 49 rfl).trans ss49
              replace ss51 := (kp 51 rfl).trans ss51
              replace ss74 := (kp 74 rfl).trans ss74
              replace dd := dd1.trans dd
              clear dd1 kp
              refine then_normal ?_
              refine hK78 _ _ ?_
              refine wp_cond_split ss102 (fun z15 => ?_) (fun z15 => ?_)
              · skip
                have z15o : (x.kind != 4) = false := eqq_t z15
                refine wp_seq_k fun KK79 hK79 => ?_
                refine exact6_w_r29x2 n rc acts b5 i a cc la lc l hi hi2 hll hs z1ld z1rd y x b9 z2d H aa nn ss5 ss9 ?_
                clear H nn
                intro a29_3 c29_3 aa ww nn dd1 kp H
                replace ss0 := (kp 0 rfl).trans ss0
                replace ss1 := (kp 1 rfl).trans ss1
                replace ss5 := (kp 5 rfl).trans ss5
                replace ss6 := (kp 6 rfl).trans ss6
                replace ss7 := (kp 7 rfl).trans ss7
                replace ss8 := (kp 8 rfl).trans ss8
                replace ss9 := (kp 9 rfl).trans ss9
                replace ss21 := (kp 21 rfl).trans ss21
                replace ss30 := (kp 30 rfl).trans ss30
                replace ss39 := (kp 39 rfl).trans ss39
                replace ss49 := (kp 49 rfl).trans ss49
                replace ss51 := (kp 51 rfl).trans ss51
                replace ss74 := (kp 74 rfl).trans ss74
                replace ss102 := (kp 102 rfl).trans ss102
                replace dd := dd1.trans dd
                clear dd1 kp
                refine then_normal ?_
                refine hK79 _ _ ?_
                refine exact6_w_r30x2 n rc acts b5 i a cc la lc l hi hi2 hll z1ld z1rd y x b9 z2d a29_3 c29_3 H aa nn ss7 ss9 ?_
                clear H nn ss7
                intro a30_3 c30_3 aa ww nn dd1 kp ss7 H
                replace ss0 := (kp 0 rfl).trans ss0
                replace ss1 := (kp 1 rfl).trans ss1
                replace ss5 := (kp 5 rfl).trans ss5
                replace ss6 := (kp 6 rfl).trans ss6
                replace ss8 := (kp 8 rfl).trans ss8
                replace ss9 := (kp 9 rfl).trans ss9
                replace ss21 := (kp 21 rfl).trans ss21
                replace ss30 := (kp 30 rfl).trans ss30
                replace ss39 := (kp 39 rfl).trans ss39
                replace ss49 := (kp 49 rfl).trans ss49
                replace ss51 := (kp 51 rfl).trans ss51
                replace ss74 := (kp 74 rfl).trans ss74
                replace ss102 := (kp 102 rfl).trans ss102
                replace dd := dd1.trans dd
                clear dd1 kp
                refine block_normal ?_
                refine then_normal ?_
                refine hK18 _ _ ?_
                refine wp_seq_k fun KK80 hK80 => ?_
                refine exact6_w_r35x12 n rc acts b5 i a cc la lc l hi hi2 hll z1ld z1rd y x b9 z2d a29_3 c29_3 a30_3 c30_3 H aa nn ss5 ss6 ss7 ?_
                clear H nn
                intro aa ww nn dd1 kp ss137 H
                replace ss0 := (kp 0 rfl).trans ss0
                replace ss1 := (kp 1 rfl).trans ss1
                replace ss5 := (kp 5 rfl).trans ss5
                replace ss6 := (kp 6 rfl).trans ss6
                replace ss7 := (kp 7 rfl).trans ss7
                replace ss8 := (kp 8 rfl).trans ss8
                replace ss9 := (kp 9 rfl).trans ss9
                replace ss21 := (kp 21 rfl).trans ss21
                replace ss30 := (kp 30 rfl).trans ss30
                replace ss39 := (kp 39 rfl).trans ss39
                replace ss49 := (kp 49 rfl).trans ss49
                replace ss51 := (kp 51 rfl).trans ss51
                replace ss74 := (kp 74 rfl).trans ss74
                replace ss102 := (kp 102 rfl).trans ss102
                replace dd := dd1.trans dd
                clear dd1 kp
                refine then_normal ?_
                refine hK80 _ _ ?_
                refine wp_cond_false ss137 ?_
                refine wp_skip ?_
                refine block_normal ?_
                refine then_normal ?_
                refine hK13 _ _ ?_
                refine exact6_w_r10x12 n rc acts b5 i a cc la lc l hi hi2 hll z1ld z1rd y x b9 z2d a29_3 c29_3 a30_3 c30_3 H aa nn ss8 ?_
                clear H nn ss8
                intro aa ww nn dd1 kp ss8 H
                replace ss0 := (kp 0 rfl).trans ss0
                replace ss1 := (kp 1 rfl).trans ss1
                replace ss5 := (kp 5 rfl).trans ss5
                replace ss6 := (kp 6 rfl).trans ss6
                replace ss7 := (kp 7 rfl).trans ss7
                replace ss9 := (kp 9 rfl).trans ss9
                replace ss21 := (kp 21 rfl).trans ss21
                replace ss30 := (kp 30 rfl).trans ss30
                replace ss39 := (kp 39 rfl).trans ss39
                replace ss49 := (kp 49 rfl).trans ss49
                replace ss51 := (kp 51 rfl).trans ss51
                replace ss74 := (kp 74 rfl).trans ss74
                replace ss102 := (kp 102 rfl).trans ss102
                replace ss137 := (kp 137 rfl).trans ss137
                replace dd := dd1.trans dd
                clear dd1 kp
                refine then_normal ?_
                replace H := hp_front H 6 rfl
                replace H := hp_front H 2 rfl
                replace H := hp_front H 5 rfl
                replace H := hp_front H 3 rfl
                refine ⟨⟨i + 1, a29_3, c29_3, a30_3, c30_3, (l.filter (keepN x.key)), (by omega), (by omega), (by first | omega | exact Nat.le_trans (few_with _ _ _ _) (by omega) | exact Nat.le_trans (List.length_filter_le _ _) (by omega)), (by first | exact hs | exact Lib.hid (sorted_with hs.out _ _ _) | exact Lib.hid (List.Pairwise.filter _ hs.out)), (by first | exact hrm | exact Lib.hid (len_with hrm.out) | exact Lib.hid (Int.le_trans (Int.ofNat_le.2 (List.length_filter_le _ _)) hrm.out)), nn, dd, ss0, ss1, ss5, ss6, ss7, ss8, ss21, ss30, (hp_take H 4)⟩, ?_⟩
                simp only [mu1_8, ss8, intOf]
                omega
              · skip
                have z15o : (x.kind != 4) = true := eqq_f z15
                refine wp_seq_k fun KK81 hK81 => ?_
                refine exact6_w_r31x2 n rc acts b5 i a cc la lc l hi hi2 hll z1ld z1rd y x b9 z2d H aa nn ss51 ?_
                clear H nn
                intro aa ww nn dd1 kp ss112 H
                replace ss0 := (kp 0 rfl).trans ss0
                replace ss1 := (kp 1 rfl).trans ss1
                replace ss5 := (kp 5 rfl).trans ss5
                replace ss6 := (kp 6 rfl).trans ss6
                replace ss7 := (kp 7 rfl).trans ss7
                replace ss8 := (kp 8 rfl).trans ss8
                replace ss9 := (kp 9 rfl).trans ss9
                replace ss21 := (kp 21 rfl).trans ss21
                replace ss30 := (kp 30 rfl).trans ss30
                replace ss39 := (kp 39 rfl).trans ss39
                replace ss49 := (kp 49 rfl).trans ss49
                replace ss51 := (kp 51 rfl).trans ss51
                replace ss74 := (kp 74 rfl).trans ss74
                replace ss102 := (kp 102 rfl).trans ss102
                replace dd := dd1.trans dd
                clear dd1 kp
                refine then_normal ?_
                refine hK81 _ _ ?_
                refine wp_cond_split ss112 (fun z16 => ?_) (fun z16 => ?_)
                · skip
                  have z16o : (x.kind != 5) = false := eqq_t z16
                  refine wp_seq_k fun KK82 hK82 => ?_
                  obtain ⟨m, hm1, hm⟩ := mod_at x.val (n := 3) (by omega) (by omega)
                  replace hm : IntKind.i64.wrap ((IntKind.u64.wrap x.val).tmod 3) = (m : Int) := hm
                  refine exact6_w_r32x2 n rc acts b5 i a cc la lc l hi hi2 hll z1ld z1rd y x b9 z2d m hm1 hm H aa nn ss9 ?_
                  clear H nn
                  intro aa ww nn dd1 kp ss14 H
                  replace ss0 := (kp 0 rfl).trans ss0
                  replace ss1 := (kp 1 rfl).trans ss1
                  replace ss5 := (kp 5 rfl).trans ss5
                  replace ss6 := (kp 6 rfl).trans ss6
                  replace ss7 := (kp 7 rfl).trans ss7
                  replace ss8 := (kp 8 rfl).trans ss8
                  replace ss9 := (kp 9 rfl).trans ss9
                  replace ss21 := (kp 21 rfl).trans ss21
                  replace ss30 := (kp 30 rfl).trans ss30
                  replace ss39 := (kp 39 rfl).trans ss39
                  replace ss49 := (kp 49 rfl).trans ss49
                  replace ss51 := (kp 51 rfl).trans ss51
                  replace ss74 := (kp 74 rfl).trans ss74
                  replace ss102 := (kp 102 rfl).trans ss102
                  replace ss112 := (kp 112 rfl).trans ss112
                  replace dd := dd1.trans dd
                  clear dd1 kp
                  refine then_normal ?_
                  refine hK82 _ _ ?_
                  refine wp_seq_k fun KK83 hK83 => ?_
                  refine exact6_w_r33x2 n rc acts b5 i a cc la lc l hi hi2 hll z1ld z1rd y x b9 z2d m hm1 hm H aa nn ss5 ss14 ?_
                  clear H nn
                  intro a33_4 c33_4 aa ww nn dd1 kp H
                  replace ss0 := (kp 0 rfl).trans ss0
                  replace ss1 := (kp 1 rfl).trans ss1
                  replace ss5 := (kp 5 rfl).trans ss5
                  replace ss6 := (kp 6 rfl).trans ss6
                  replace ss7 := (kp 7 rfl).trans ss7
                  replace ss8 := (kp 8 rfl).trans ss8
                  replace ss9 := (kp 9 rfl).trans ss9
                  replace ss14 := (kp 14 rfl).trans ss14
                  replace ss21 := (kp 21 rfl).trans ss21
                  replace ss30 := (kp 30 rfl).trans ss30
                  replace ss39 := (kp 39 rfl).trans ss39
                  replace ss49 := (kp 49 rfl).trans ss49
                  replace ss51 := (kp 51 rfl).trans ss51
                  replace ss74 := (kp 74 rfl).trans ss74
                  replace ss102 := (kp 102 rfl).trans ss102
                  replace ss112 := (kp 112 rfl).trans ss112
                  replace dd := dd1.trans dd
                  clear dd1 kp
                  refine then_normal ?_
                  refine hK83 _ _ ?_
                  refine exact6_w_r34x2 n rc acts b5 i a cc la lc l hi hi2 hll z1ld z1rd y x b9 z2d m hm1 hm a33_4 c33_4 H aa nn ss7 ss14 ?_
                  clear H nn ss7
                  intro a34_2 c34_2 aa ww nn dd1 kp ss7 H
                  replace ss0 := (kp 0 rfl).trans ss0
                  replace ss1 := (kp 1 rfl).trans ss1
                  replace ss5 := (kp 5 rfl).trans ss5
                  replace ss6 := (kp 6 rfl).trans ss6
                  replace ss8 := (kp 8 rfl).trans ss8
                  replace ss9 := (kp 9 rfl).trans ss9
                  replace ss14 := (kp 14 rfl).trans ss14
                  replace ss21 := (kp 21 rfl).trans ss21
                  replace ss30 := (kp 30 rfl).trans ss30
                  replace ss39 := (kp 39 rfl).trans ss39
                  replace ss49 := (kp 49 rfl).trans ss49
                  replace ss51 := (kp 51 rfl).trans ss51
                  replace ss74 := (kp 74 rfl).trans ss74
                  replace ss102 := (kp 102 rfl).trans ss102
                  replace ss112 := (kp 112 rfl).trans ss112
                  replace dd := dd1.trans dd
                  clear dd1 kp
                  refine block_normal ?_
                  refine then_normal ?_
                  refine hK18 _ _ ?_
                  refine wp_seq_k fun KK84 hK84 => ?_
                  refine exact6_w_r35x13 n rc acts b5 i a cc la lc l hi hi2 hll z1ld z1rd y x b9 z2d m hm1 hm a33_4 c33_4 a34_2 c34_2 H aa nn ss5 ss6 ss7 ?_
                  clear H nn
                  intro aa ww nn dd1 kp ss137 H
                  replace ss0 := (kp 0 rfl).trans ss0
                  replace ss1 := (kp 1 rfl).trans ss1
                  replace ss5 := (kp 5 rfl).trans ss5
                  replace ss6 := (kp 6 rfl).trans ss6
                  replace ss7 := (kp 7 rfl).trans ss7
                  replace ss8 := (kp 8 rfl).trans ss8
                  replace ss9 := (kp 9 rfl).trans ss9
                  replace ss14 := (kp 14 rfl).trans ss14
                  replace ss21 := (kp 21 rfl).trans ss21
                  replace ss30 := (kp 30 rfl).trans ss30
                  replace ss39 := (kp 39 rfl).trans ss39
                  replace ss49 := (kp 49 rfl).trans ss49
                  replace ss51 := (kp 51 rfl).trans ss51
                  replace ss74 := (kp 74 rfl).trans ss74
                  replace ss102 := (kp 102 rfl).trans ss102
                  replace ss112 := (kp 112 rfl).trans ss112
                  replace dd := dd1.trans dd
                  clear dd1 kp
                  refine then_normal ?_
                  refine hK84 _ _ ?_
                  refine wp_cond_false ss137 ?_
                  refine wp_skip ?_
                  refine block_normal ?_
                  refine then_normal ?_
                  refine hK13 _ _ ?_
                  refine exact6_w_r10x13 n rc acts b5 i a cc la lc l hi hi2 hll z1ld z1rd y x b9 z2d m hm1 hm a33_4 c33_4 a34_2 c34_2 H aa nn ss8 ?_
                  clear H nn ss8
                  intro aa ww nn dd1 kp ss8 H
                  replace ss0 := (kp 0 rfl).trans ss0
                  replace ss1 := (kp 1 rfl).trans ss1
                  replace ss5 := (kp 5 rfl).trans ss5
                  replace ss6 := (kp 6 rfl).trans ss6
                  replace ss7 := (kp 7 rfl).trans ss7
                  replace ss9 := (kp 9 rfl).trans ss9
                  replace ss14 := (kp 14 rfl).trans ss14
                  replace ss21 := (kp 21 rfl).trans ss21
                  replace ss30 := (kp 30 rfl).trans ss30
                  replace ss39 := (kp 39 rfl).trans ss39
                  replace ss49 := (kp 49 rfl).trans ss49
                  replace ss51 := (kp 51 rfl).trans ss51
                  replace ss74 := (kp 74 rfl).trans ss74
                  replace ss102 := (kp 102 rfl).trans ss102
                  replace ss112 := (kp 112 rfl).trans ss112
                  replace ss137 := (kp 137 rfl).trans ss137
                  replace dd := dd1.trans dd
                  clear dd1 kp
                  refine then_normal ?_
                  replace H := hp_front H 6 rfl
                  replace H := hp_front H 2 rfl
                  replace H := hp_front H 5 rfl
                  replace H := hp_front H 3 rfl
                  refine ⟨⟨i + 1, a33_4, c33_4, a34_2, c34_2, (l.filter (keptV (2 + m))), (by omega), (by omega), (by first | omega | exact Nat.le_trans (few_with _ _ _ _) (by omega) | exact Nat.le_trans (List.length_filter_le _ _) (by omega)), (by first | exact hs | exact Lib.hid (sorted_with hs.out _ _ _) | exact Lib.hid (List.Pairwise.filter _ hs.out)), (by first | exact hrm | exact Lib.hid (len_with hrm.out) | exact Lib.hid (Int.le_trans (Int.ofNat_le.2 (List.length_filter_le _ _)) hrm.out)), nn, dd, ss0, ss1, ss5, ss6, ss7, ss8, ss21, ss30, (hp_take H 4)⟩, ?_⟩
                  simp only [mu1_8, ss8, intOf]
                  omega
                · skip
                  have z16o : (x.kind != 5) = true := eqq_f z16
                  refine wp_seq_k fun KK85 hK85 => ?_
                  refine exact6_w_r15x2 n rc acts b5 i a cc la lc l hi hi2 hll hs z1ld z1rd y x b9 z2d H aa nn ss5 ss9 ?_
                  clear H nn
                  intro aa ww nn dd1 kp ss15 ss16 H
                  replace ss0 := (kp 0 rfl).trans ss0
                  replace ss1 := (kp 1 rfl).trans ss1
                  replace ss5 := (kp 5 rfl).trans ss5
                  replace ss6 := (kp 6 rfl).trans ss6
                  replace ss7 := (kp 7 rfl).trans ss7
                  replace ss8 := (kp 8 rfl).trans ss8
                  replace ss9 := (kp 9 rfl).trans ss9
                  replace ss21 := (kp 21 rfl).trans ss21
                  replace ss30 := (kp 30 rfl).trans ss30
                  replace ss39 := (kp 39 rfl).trans ss39
                  replace ss49 := (kp 49 rfl).trans ss49
                  replace ss51 := (kp 51 rfl).trans ss51
                  replace ss74 := (kp 74 rfl).trans ss74
                  replace ss102 := (kp 102 rfl).trans ss102
                  replace ss112 := (kp 112 rfl).trans ss112
                  replace dd := dd1.trans dd
                  clear dd1 kp
                  refine then_normal ?_
                  refine hK85 _ _ ?_
                  refine wp_seq_k fun KK86 hK86 => ?_
                  refine exact6_w_r16x2 n rc acts b5 i a cc la lc l hi hi2 hll z1ld z1rd y x b9 z2d H aa nn ss7 ss9 ?_
                  clear H nn
                  intro aa ww nn dd1 kp ss17 ss18 H
                  replace ss0 := (kp 0 rfl).trans ss0
                  replace ss1 := (kp 1 rfl).trans ss1
                  replace ss5 := (kp 5 rfl).trans ss5
                  replace ss6 := (kp 6 rfl).trans ss6
                  replace ss7 := (kp 7 rfl).trans ss7
                  replace ss8 := (kp 8 rfl).trans ss8
                  replace ss9 := (kp 9 rfl).trans ss9
                  replace ss15 := (kp 15 rfl).trans ss15
                  replace ss16 := (kp 16 rfl).trans ss16
                  replace ss21 := (kp 21 rfl).trans ss21
                  replace ss30 := (kp 30 rfl).trans ss30
                  replace ss39 := (kp 39 rfl).trans ss39
                  replace ss49 := (kp 49 rfl).trans ss49
                  replace ss51 := (kp 51 rfl).trans ss51
                  replace ss74 := (kp 74 rfl).trans ss74
                  replace ss102 := (kp 102 rfl).trans ss102
                  replace ss112 := (kp 112 rfl).trans ss112
                  replace dd := dd1.trans dd
                  clear dd1 kp
                  refine then_normal ?_
                  refine hK86 _ _ ?_
                  refine wp_seq_k fun KK87 hK87 => ?_
                  refine exact6_w_r17x2 n rc acts b5 i a cc la lc l hi hi2 hll z1ld z1rd y x b9 z2d H aa nn ss15 ss16 ss17 ss18 ?_
                  clear H nn
                  intro aa ww nn dd1 kp ss73 H
                  replace ss0 := (kp 0 rfl).trans ss0
                  replace ss1 := (kp 1 rfl).trans ss1
                  replace ss5 := (kp 5 rfl).trans ss5
                  replace ss6 := (kp 6 rfl).trans ss6
                  replace ss7 := (kp 7 rfl).trans ss7
                  replace ss8 := (kp 8 rfl).trans ss8
                  replace ss9 := (kp 9 rfl).trans ss9
                  replace ss15 := (kp 15 rfl).trans ss15
                  replace ss16 := (kp 16 rfl).trans ss16
                  replace ss17 := (kp 17 rfl).trans ss17
                  replace ss18 := (kp 18 rfl).trans ss18
                  replace ss21 := (kp 21 rfl).trans ss21
                  replace ss30 := (kp 30 rfl).trans ss30
                  replace ss39 := (kp 39 rfl).trans ss39
                  replace ss49 := (kp 49 rfl).trans ss49
                  replace ss51 := (kp 51 rfl).trans ss51
                  replace ss74 := (kp 74 rfl).trans ss74
                  replace ss102 := (kp 102 rfl).trans ss102
                  replace ss112 := (kp 112 rfl).trans ss112
                  replace dd := dd1.trans dd
                  clear dd1 kp
                  refine then_normal ?_
                  refine hK87 _ _ ?_
                  refine wp_cond_false ss73 ?_
                  refine wp_skip ?_
                  refine block_normal ?_
                  refine then_normal ?_
                  refine hK18 _ _ ?_
                  refine wp_seq_k fun KK88 hK88 => ?_
                  refine exact6_w_r35x14 n rc acts b5 i a cc la lc l hi hi2 hll z1ld z1rd y x b9 z2d H aa nn ss5 ss6 ss7 ?_
                  clear H nn
                  intro aa ww nn dd1 kp ss137 H
                  replace ss0 := (kp 0 rfl).trans ss0
                  replace ss1 := (kp 1 rfl).trans ss1
                  replace ss5 := (kp 5 rfl).trans ss5
                  replace ss6 := (kp 6 rfl).trans ss6
                  replace ss7 := (kp 7 rfl).trans ss7
                  replace ss8 := (kp 8 rfl).trans ss8
                  replace ss9 := (kp 9 rfl).trans ss9
                  replace ss15 := (kp 15 rfl).trans ss15
                  replace ss16 := (kp 16 rfl).trans ss16
                  replace ss17 := (kp 17 rfl).trans ss17
                  replace ss18 := (kp 18 rfl).trans ss18
                  replace ss21 := (kp 21 rfl).trans ss21
                  replace ss30 := (kp 30 rfl).trans ss30
                  replace ss39 := (kp 39 rfl).trans ss39
                  replace ss49 := (kp 49 rfl).trans ss49
                  replace ss51 := (kp 51 rfl).trans ss51
                  replace ss73 := (kp 73 rfl).trans ss73
                  replace ss74 := (kp 74 rfl).trans ss74
                  replace ss102 := (kp 102 rfl).trans ss102
                  replace ss112 := (kp 112 rfl).trans ss112
                  replace dd := dd1.trans dd
                  clear dd1 kp
                  refine then_normal ?_
                  refine hK88 _ _ ?_
                  refine wp_cond_false ss137 ?_
                  refine wp_skip ?_
                  refine block_normal ?_
                  refine then_normal ?_
                  refine hK13 _ _ ?_
                  refine exact6_w_r10x14 n rc acts b5 i a cc la lc l hi hi2 hll z1ld z1rd y x b9 z2d H aa nn ss8 ?_
                  clear H nn ss8
                  intro aa ww nn dd1 kp ss8 H
                  replace ss0 := (kp 0 rfl).trans ss0
                  replace ss1 := (kp 1 rfl).trans ss1
                  replace ss5 := (kp 5 rfl).trans ss5
                  replace ss6 := (kp 6 rfl).trans ss6
                  replace ss7 := (kp 7 rfl).trans ss7
                  replace ss9 := (kp 9 rfl).trans ss9
                  replace ss15 := (kp 15 rfl).trans ss15
                  replace ss16 := (kp 16 rfl).trans ss16
                  replace ss17 := (kp 17 rfl).trans ss17
                  replace ss18 := (kp 18 rfl).trans ss18
                  replace ss21 := (kp 21 rfl).trans ss21
                  replace ss30 := (kp 30 rfl).trans ss30
                  replace ss39 := (kp 39 rfl).trans ss39
                  replace ss49 := (kp 49 rfl).trans ss49
                  replace ss51 := (kp 51 rfl).trans ss51
                  replace ss73 := (kp 73 rfl).trans ss73
                  replace ss74 := (kp 74 rfl).trans ss74
                  replace ss102 := (kp 102 rfl).trans ss102
                  replace ss112 := (kp 112 rfl).trans ss112
                  replace ss137 := (kp 137 rfl).trans ss137
                  replace dd := dd1.trans dd
                  clear dd1 kp
                  refine then_normal ?_
                  replace H := hp_front H 4 rfl
                  replace H := hp_front H 4 rfl
                  replace H := hp_front H 4 rfl
                  replace H := hp_front H 4 rfl
                  refine ⟨⟨i + 1, a, cc, la, lc, l, (by omega), (by omega), (by first | omega | exact Nat.le_trans (few_with _ _ _ _) (by omega) | exact Nat.le_trans (List.length_filter_le _ _) (by omega)), (by first | exact hs | exact Lib.hid (sorted_with hs.out _ _ _) | exact Lib.hid (List.Pairwise.filter _ hs.out)), (by first | exact hrm | exact Lib.hid (len_with hrm.out) | exact Lib.hid (Int.le_trans (Int.ofNat_le.2 (List.length_filter_le _ _)) hrm.out)), nn, dd, ss0, ss1, ss5, ss6, ss7, ss8, ss21, ss30, (hp_take H 4)⟩, ?_⟩
                  simp only [mu1_8, ss8, intOf]
                  omega
    · skip
      refine wp_exit ?_
      refine then_exit ?_
      refine then_exit ?_
      refine block_exit ?_
      refine then_normal ?_
      refine hK9 _ _ ?_
      refine wp_seq_k fun KK89 hK89 => ?_
      refine exact6_w_r37 n ra rc acts b5 i a cc la lc l hi hi2 hll H aa nn  ?_
      clear H nn
      intro aa ww nn dd1 kp ss19 H
      replace ss0 := (kp 0 rfl).trans ss0
      replace ss1 := (kp 1 rfl).trans ss1
      replace ss5 := (kp 5 rfl).trans ss5
      replace ss6 := (kp 6 rfl).trans ss6
      replace ss7 := (kp 7 rfl).trans ss7
      replace ss8 := (kp 8 rfl).trans ss8
      replace ss21 := (kp 21 rfl).trans ss21
      replace ss30 := (kp 30 rfl).trans ss30
      replace ss39 := (kp 39 rfl).trans ss39
      replace dd := dd1.trans dd
      clear dd1 kp
      refine then_normal ?_
      refine hK89 _ _ ?_
      refine wp_seq_k fun KK90 hK90 => ?_
      refine exact6_w_r38 n ra rc acts b5 i a cc la lc l hi hi2 hll H aa nn ss5 ss19 ?_
      clear H nn
      intro aa ww nn dd1 kp ss4 H
      replace ss0 := (kp 0 rfl).trans ss0
      replace ss1 := (kp 1 rfl).trans ss1
      replace ss5 := (kp 5 rfl).trans ss5
      replace ss6 := (kp 6 rfl).trans ss6
      replace ss7 := (kp 7 rfl).trans ss7
      replace ss8 := (kp 8 rfl).trans ss8
      replace ss19 := (kp 19 rfl).trans ss19
      replace ss21 := (kp 21 rfl).trans ss21
      replace ss30 := (kp 30 rfl).trans ss30
      replace ss39 := (kp 39 rfl).trans ss39
      replace dd := dd1.trans dd
      clear dd1 kp
      refine then_normal ?_
      refine hK90 _ _ ?_
      refine wp_ret ?_
      exact ret1 rfl dd ss4 ⟨rfl, H.out.off⟩
  refine wp_cond_split ss30 (fun z17 => ?_) (fun z17 => ?_)
  · skip
    refine exact6_w_r6 n ra rc acts b5 H aa nn  ?_
    clear H nn ss6
    intro aa ww nn dd1 kp ss6 H
    replace ss0 := (kp 0 rfl).trans ss0
    replace ss1 := (kp 1 rfl).trans ss1
    replace ss4 := (kp 4 rfl).trans ss4
    replace ss5 := (kp 5 rfl).trans ss5
    replace ss21 := (kp 21 rfl).trans ss21
    replace ss30 := (kp 30 rfl).trans ss30
    replace dd := dd1.trans dd
    clear dd1 kp
    refine then_normal ?_
    have hk : kR n = 0 := by unfold kR; rw [if_pos (by simpa using z17)]
    replace ss6 : aa.eval (.tmp 6) = .int .i64 (kR n) := ss6.trans (by rw [hk])
    exact hjn1 _ _ nn dd ss0 ss1 ss4 ss5 ss6 ss21 ss30 H
  · skip
    have z17l : (decide (n < 1)) = false := ol z17
    have z17ld : ¬ (n < 1) := of_decide_eq_false z17l
    have z17r : (decide (65536 < n)) = false := orr z17
    have z17rd : ¬ (65536 < n) := of_decide_eq_false z17r
    refine wp_skip ?_
    refine then_normal ?_
    have hk : kR n = n := by unfold kR; rw [if_neg (by simpa using z17)]
    replace ss6 : aa.eval (.tmp 6) = .int .i64 (kR n) := ss6.trans (by rw [hk])
    exact hjn1 _ _ nn dd ss0 ss1 ss4 ss5 ss6 ss21 ss30 H
end Go.Proofs.Ytfhhfmkfkoemjaa.Si6
