/- Every room and row of deeds: the walk. -/
import Derived.Test.YtfhhfmkfkoemjaaProg
import Derived.Below
import Derived.WalkKit
import Derived.KernelRfl
import Derived.RowKit3
import Derived.Deep.LoopGhost
import Derived.Deep.QuietTactic
import Derived.BigQuiet
import Derived.WideLaws
import Derived.Deep.DeepCutAuto
import Derived.Deep.CutBlock
import Derived.Lib.Hide
import Derived.Laws.BitsLemmas
import Derived.Laws.Bits64
import Derived.Laws.BitsAllLaws
import Derived.IntWalk
import Derived.Outline
import Derived.WalkSpells
import Derived.Test.YtfhhfmkfkoemjaaMem
import Derived.Test.YtfhhfmkfkoemjaaLwShelfExacta
namespace Go.Proofs.Ytfhhfmkfkoemjaa.Si6
open Go.RowKit Go.Proofs.Ytfhhfmkfkoemjaa.Mem Go.Proofs.Ytfhhfmkfkoemjaa.Reg
set_option linter.unusedVariables false
set_option linter.unusedSimpArgs false

set_option maxRecDepth 20000 in
theorem exact6_w_r35x5 (n : Int) (rc : Nat) (acts : List ActV) (b5 : Nat) (i : Nat) (a : Option Addr) (cc : Nat) (la : Option Addr) (lc : Nat) (l : List PairV) (hi : i ≤ acts.length) (hi2 : i ≤ 100) (hll : l.length ≤ i) (z1ld : i < acts.length) (z1rd : (i : Int) < 100) (y : Addr) (x : ActV) (b9 : Nat) (z2d : ¬ (10 < (x.key.size : Int))) (a22_5 : Option Addr) (c22_5 : Nat) (b10 : Nat) {wa wb : World} (H : Hid (Hp [] wa wb [rB b10 43 [.int .i64 (kR n), .slice a22_5 l.length c22_5], rS a22_5 c22_5 2 (l.map rowOf), rB b9 67 [.int .i64 x.kind, .string x.key, .int .i64 x.val], rS la lc 2 (l.map rowOf), rB b5 43 [.int .i64 (kR n), .slice a22_5 l.length c22_5], rS a cc 2 (l.map rowOf), rS (some y) rc 3 (acts.map actRow)])) (ac0 : Act) (hz : ac0.tmps.size = 143) (so5 : ac0.eval (.tmp 5) = .pointer (some ⟨b5, 0, none⟩)) (so6 : ac0.eval (.tmp 6) = .int .i64 (kR n)) (so7 : ac0.eval (.tmp 7) = .slice la l.length lc) {QR : Exit → Act → World → Prop} (hfin : ∀ (ac1 : Act) (wz : World), ac1.tmps.size = 143 → ac1.defers = ac0.defers → (∀ t, ([128, 129, 130, 131, 132, 133, 134, 135, 136, 137] : List Nat).contains t = false → ac1.eval (.tmp t) = ac0.eval (.tmp t)) → ac1.eval (.tmp 137) = .bool false →  Hid (Hp [] wa wz [rB b10 43 [.int .i64 (kR n), .slice a22_5 l.length c22_5], rS a22_5 c22_5 2 (l.map rowOf), rB b9 67 [.int .i64 x.kind, .string x.key, .int .i64 x.val], rS la lc 2 (l.map rowOf), rB b5 43 [.int .i64 (kR n), .slice a22_5 l.length c22_5], rS a cc 2 (l.map rowOf), rS (some y) rc 3 (acts.map actRow)]) → QR .normal ac1 wz) : (regAt Try.f8 35).wp Try.prog QR ac0 wb := by
  refine wp_region_sq (by kernel_rfl) 143 hz (by kernel_rfl) (fun (xx : Unit) jx => nth [.agg #[.int .i64 (kR n), .slice a22_5 l.length c22_5], .slice la l.length lc, .bool true, .bool false, .bool false, .agg #[.int .i64 (kR n), .slice a22_5 l.length c22_5], .int .i64 (kR n), .int .i64 (kR n), .bool false, .bool false] jx) (fun (LL : Nat → Bool) (xx : Unit) ww => Hp [] wa ww [rB b10 43 [.int .i64 (kR n), .slice a22_5 l.length c22_5], rS a22_5 c22_5 2 (l.map rowOf), rB b9 67 [.int .i64 x.kind, .string x.key, .int .i64 x.val], rS la lc 2 (l.map rowOf), rB b5 43 [.int .i64 (kR n), .slice a22_5 l.length c22_5], rS a cc 2 (l.map rowOf), rS (some y) rc 3 (acts.map actRow)]) () H.out ?_ (steps_al ?_) ?_ ?_
  · exact fun _ _ _ _ _ h => h
  · refine al_cons ?_ (al_cons ?_ (al_cons ?_ (al_cons ?_ (al_cons ?_ (al_cons ?_ (al_cons ?_ (al_cons ?_ (al_cons ?_ (al_cons ?_ (al_nil))))))))))
    · intro LL xx ac wc sg hst hwant QQ hgo
      have H := Lib.hid hst
      refine hpA_load tyshelf_Shelf_string__int_ H rfl ((sg.free 5 (by kernel_rfl)).trans so5) hwant (by (repeat (first | exact List.Mem.head _ | apply List.Mem.tail))) (by rfl) rfl ?_
      exact hgo _ () _ (fun _ _ => rfl) rfl hst
    · intro LL xx ac wc sg hst hwant QQ hgo
      exact op_val hwant hgo hst _ (exec_move rfl ((sg.free 7 (by kernel_rfl)).trans so7)) rfl
    · intro LL xx ac wc sg hst hwant QQ hgo
      have se128 : ac.eval (.tmp 128) = _ := (sg.slot 0 (sg.anc 0 rfl))
      have sg128 := gt_of se128
      have se129 : ac.eval (.tmp 129) = _ := (sg.slot 1 (sg.anc 1 rfl))
      have sg129 := gt_of se129
      (try simp only [nth] at se128 sg128 se129 sg129)
      have H := Lib.hid hst
      refine op_call hwant hgo 42 _ (by simp only [execOp]; go_simp) (alikeC (kR n) a22_5 c22_5 la lc l wc (hp_held H (show rS a22_5 c22_5 2 (l.map rowOf) ∈ _ by (repeat (first | exact List.Mem.head _ | apply List.Mem.tail)))) (hp_held H (show rS la lc 2 (l.map rowOf) ∈ _ by (repeat (first | exact List.Mem.head _ | apply List.Mem.tail)))) (by omega)) ?_
      rintro er wd ⟨rfl, hof⟩
      exact ⟨_, (), rfl, fun _ _ => rfl, rfl, Hp.quiet hst hof⟩
    · intro LL xx ac wc sg hst hwant QQ hgo
      have se130 : ac.eval (.tmp 130) = _ := (sg.slot 2 (sg.anc 2 rfl))
      have sg130 := gt_of se130
      (try simp only [nth] at se130 sg130)
      exact op_val hwant hgo hst _ (by simp only [execOp, nth]; go_simp <;> omega) rfl
    · intro LL xx ac wc sg hst hwant QQ hgo
      exact op_val hwant hgo hst _ (exec_move rfl (sg.slot 3 (sg.anc 3 rfl))) rfl
    · intro LL xx ac wc sg hst hwant QQ hgo
      have H := Lib.hid hst
      refine hpA_load tyshelf_Shelf_string__int_ H rfl ((sg.free 5 (by kernel_rfl)).trans so5) hwant (by (repeat (first | exact List.Mem.head _ | apply List.Mem.tail))) (by rfl) rfl ?_
      exact hgo _ () _ (fun _ _ => rfl) rfl hst
    · intro LL xx ac wc sg hst hwant QQ hgo
      have se133 : ac.eval (.tmp 133) = _ := (sg.slot 5 (sg.anc 5 rfl))
      have sg133 := gt_of se133
      (try simp only [nth] at se133 sg133)
      refine op_call hwant hgo 43 _ (by simp only [execOp]; go_simp) (roomC (kR n) (.slice a22_5 l.length c22_5) wc) ?_
      rintro er wd ⟨rfl, hof⟩
      exact ⟨_, (), rfl, fun _ _ => rfl, rfl, Hp.quiet hst hof⟩
    · intro LL xx ac wc sg hst hwant QQ hgo
      exact op_val hwant hgo hst _ (exec_move rfl ((sg.free 6 (by kernel_rfl)).trans so6)) rfl
    · intro LL xx ac wc sg hst hwant QQ hgo
      have se134 : ac.eval (.tmp 134) = _ := (sg.slot 6 (sg.anc 6 rfl))
      have sg134 := gt_of se134
      have se135 : ac.eval (.tmp 135) = _ := (sg.slot 7 (sg.anc 7 rfl))
      have sg135 := gt_of se135
      (try simp only [nth] at se134 sg134 se135 sg135)
      exact op_val hwant hgo hst _ (by simp only [execOp, nth]; go_simp <;> omega) rfl
    · intro LL xx ac wc sg hst hwant QQ hgo
      exact op_val hwant hgo hst (.bool false) (exec_pick (B := false) (U := undef) (V := .bool false) rfl (sg.slot 4 (sg.anc 4 rfl)) (fun h => by cases h) (fun _ => (sg.slot 8 (sg.anc 8 rfl)))) rfl
  · refine skips [5, 6, 7, 8] (by kernel_rfl) ?_
    refine List.forall_mem_cons.2 ⟨?_, List.forall_mem_cons.2 ⟨?_, List.forall_mem_cons.2 ⟨?_, List.forall_mem_cons.2 ⟨?_, fun _ h => by cases h⟩⟩⟩⟩
    · intro oo hop LL xx ac sg hwant
      cases Option.some.inj hop
      exact absurd ((want_f rfl rfl (sg.slot 4 (sg.anc 4 rfl))).symm.trans hwant) (by decide)
    · intro oo hop LL xx ac sg hwant
      cases Option.some.inj hop
      exact absurd ((want_f rfl rfl (sg.slot 4 (sg.anc 4 rfl))).symm.trans hwant) (by decide)
    · intro oo hop LL xx ac sg hwant
      cases Option.some.inj hop
      exact absurd ((want_f rfl rfl (sg.slot 4 (sg.anc 4 rfl))).symm.trans hwant) (by decide)
    · intro oo hop LL xx ac sg hwant
      cases Option.some.inj hop
      exact absurd ((want_f rfl rfl (sg.slot 4 (sg.anc 4 rfl))).symm.trans hwant) (by decide)
  · intro xx ac1 wz hfr hsl hst
    exact hfin ac1 wz (hfr.size.trans hz) hfr.defers (fr_keep hfr [128, 129, 130, 131, 132, 133, 134, 135, 136, 137] (by kernel_rfl)) (hsl 9 (by decide)) (Lib.hid hst)
set_option maxRecDepth 20000 in
theorem exact6_w_r10x5 (n : Int) (rc : Nat) (acts : List ActV) (b5 : Nat) (i : Nat) (a : Option Addr) (cc : Nat) (la : Option Addr) (lc : Nat) (l : List PairV) (hi : i ≤ acts.length) (hi2 : i ≤ 100) (hll : l.length ≤ i) (z1ld : i < acts.length) (z1rd : (i : Int) < 100) (y : Addr) (x : ActV) (b9 : Nat) (z2d : ¬ (10 < (x.key.size : Int))) (a22_5 : Option Addr) (c22_5 : Nat) (b10 : Nat) {wa wb : World} (H : Hid (Hp [] wa wb [rB b10 43 [.int .i64 (kR n), .slice a22_5 l.length c22_5], rS a22_5 c22_5 2 (l.map rowOf), rB b9 67 [.int .i64 x.kind, .string x.key, .int .i64 x.val], rS la lc 2 (l.map rowOf), rB b5 43 [.int .i64 (kR n), .slice a22_5 l.length c22_5], rS a cc 2 (l.map rowOf), rS (some y) rc 3 (acts.map actRow)])) (ac0 : Act) (hz : ac0.tmps.size = 143) (so8 : ac0.eval (.tmp 8) = .int .i64 i) {QR : Exit → Act → World → Prop} (hfin : ∀ (ac1 : Act) (wz : World), ac1.tmps.size = 143 → ac1.defers = ac0.defers → (∀ t, ([8, 40, 41] : List Nat).contains t = false → ac1.eval (.tmp t) = ac0.eval (.tmp t)) → ac1.eval (.tmp 8) = .int .i64 (i + 1) →  Hid (Hp [] wa wz [rB b10 43 [.int .i64 (kR n), .slice a22_5 l.length c22_5], rS a22_5 c22_5 2 (l.map rowOf), rB b9 67 [.int .i64 x.kind, .string x.key, .int .i64 x.val], rS la lc 2 (l.map rowOf), rB b5 43 [.int .i64 (kR n), .slice a22_5 l.length c22_5], rS a cc 2 (l.map rowOf), rS (some y) rc 3 (acts.map actRow)]) → QR .normal ac1 wz) : (regAt Try.f8 10).wp Try.prog QR ac0 wb := by
  refine wp_region_sq (by kernel_rfl) 143 hz (by kernel_rfl) (fun (xx : Unit) jx => nth [.int .i64 i, .int .i64 (i + 1), .int .i64 (i + 1)] jx) (fun (LL : Nat → Bool) (xx : Unit) ww => Hp [] wa ww [rB b10 43 [.int .i64 (kR n), .slice a22_5 l.length c22_5], rS a22_5 c22_5 2 (l.map rowOf), rB b9 67 [.int .i64 x.kind, .string x.key, .int .i64 x.val], rS la lc 2 (l.map rowOf), rB b5 43 [.int .i64 (kR n), .slice a22_5 l.length c22_5], rS a cc 2 (l.map rowOf), rS (some y) rc 3 (acts.map actRow)]) () H.out ?_ (steps_al ?_) ?_ ?_
  · exact fun _ _ _ _ _ h => h
  · refine al_cons ?_ (al_cons ?_ (al_cons ?_ (al_nil)))
    · intro LL xx ac wc sg hst hwant QQ hgo
      exact op_val hwant hgo hst _ (exec_move rfl ((sg.yet 8 2 (sg.des 2 rfl) (by kernel_rfl)).trans so8)) rfl
    · intro LL xx ac wc sg hst hwant QQ hgo
      have se40 : ac.eval (.tmp 40) = _ := (sg.slot 0 (sg.anc 0 rfl))
      have sg40 := gt_of se40
      (try simp only [nth] at se40 sg40)
      have hnw : IntKind.i64.wrap (i + 1 : Int) = i + 1 := IntWalk.i64_in _ (by omega)
      exact op_val hwant hgo hst _ (by simp only [execOp, nth]; go_simp <;> omega) rfl
    · intro LL xx ac wc sg hst hwant QQ hgo
      exact op_val hwant hgo hst _ (exec_assign rfl (sg.slot 1 (sg.anc 1 rfl))) rfl
  · exact skips [] (by kernel_rfl) (fun _ h => by cases h)
  · intro xx ac1 wz hfr hsl hst
    exact hfin ac1 wz (hfr.size.trans hz) hfr.defers (fr_keep hfr [8, 40, 41] (by kernel_rfl)) (hsl 2 (by decide)) (Lib.hid hst)
set_option maxRecDepth 20000 in
theorem exact6_w_r22x3 (n : Int) (rc : Nat) (acts : List ActV) (b5 : Nat) (i : Nat) (a : Option Addr) (cc : Nat) (la : Option Addr) (lc : Nat) (l : List PairV) (hi : i ≤ acts.length) (hi2 : i ≤ 100) (hll : l.length ≤ i) (hs : Hid (Sorted l)) (z1ld : i < acts.length) (z1rd : (i : Int) < 100) (y : Addr) (x : ActV) (b9 : Nat) (z2d : ¬ (10 < (x.key.size : Int))) (y10 : ((!(getR x.key l).2) && (decide (kR n ≤ (l.length : Int)))) = false) {wa wb : World} (H : Hid (Hp [] wa wb [rB b9 67 [.int .i64 x.kind, .string x.key, .int .i64 x.val], rS la lc 2 (l.map rowOf), rB b5 43 [.int .i64 (kR n), .slice a l.length cc], rS a cc 2 (l.map rowOf), rS (some y) rc 3 (acts.map actRow)])) (ac0 : Act) (hz : ac0.tmps.size = 143) (so5 : ac0.eval (.tmp 5) = .pointer (some ⟨b5, 0, none⟩)) (so9 : ac0.eval (.tmp 9) = .pointer (some ⟨b9, 0, none⟩)) {QR : Exit → Act → World → Prop} (hfin : ∀ (a22_5 : Option Addr) (c22_5 : Nat) (b10 : Nat) (ac1 : Act) (wz : World), ac1.tmps.size = 143 → ac1.defers = ac0.defers → (∀ t, ([10, 11, 78, 79, 80, 81, 82, 83, 84, 85, 86] : List Nat).contains t = false → ac1.eval (.tmp t) = ac0.eval (.tmp t)) → ac1.eval (.tmp 10) = .pointer (some ⟨b10, 0, none⟩) → ac1.eval (.tmp 11) = .bool true →  Hid (Hp [] wa wz [rB b10 43 [.int .i64 (kR n), .slice a22_5 ((withV (kR n) x.key x.val l).1.length) c22_5], rS a22_5 c22_5 2 ((withV (kR n) x.key x.val l).1.map rowOf), rB b9 67 [.int .i64 x.kind, .string x.key, .int .i64 x.val], rS la lc 2 (l.map rowOf), rB b5 43 [.int .i64 (kR n), .slice a l.length cc], rS a cc 2 (l.map rowOf), rS (some y) rc 3 (acts.map actRow)]) → QR .normal ac1 wz) : (regAt Try.f8 22).wp Try.prog QR ac0 wb := by
  refine wp_region_sq (by kernel_rfl) 143 hz (by kernel_rfl) (fun (xx : Option Addr × Nat × Nat) jx => match xx with | (a22_5, c22_5, b10) => nth [.agg #[.int .i64 (kR n), .slice a l.length cc], .pointer (some ⟨b9, 1, none⟩), .string x.key, .pointer (some ⟨b9, 2, none⟩), .int .i64 x.val, .tuple #[.agg #[.int .i64 (kR n), .slice a22_5 ((withV (kR n) x.key x.val l).1.length) c22_5], .bool true], .tuple #[.agg #[.int .i64 (kR n), .slice a22_5 ((withV (kR n) x.key x.val l).1.length) c22_5], .bool true], .agg #[.int .i64 (kR n), .slice a22_5 ((withV (kR n) x.key x.val l).1.length) c22_5], .bool true, .pointer (some ⟨b10, 0, none⟩), undef, .bool true] jx) (fun (LL : Nat → Bool) (xx : Option Addr × Nat × Nat) ww => match xx with | (a22_5, c22_5, b10) => Hp [] wa ww (bif LL 10 then [rB b10 43 [.int .i64 (kR n), .slice a22_5 ((withV (kR n) x.key x.val l).1.length) c22_5], rS a22_5 c22_5 2 ((withV (kR n) x.key x.val l).1.map rowOf), rB b9 67 [.int .i64 x.kind, .string x.key, .int .i64 x.val], rS la lc 2 (l.map rowOf), rB b5 43 [.int .i64 (kR n), .slice a l.length cc], rS a cc 2 (l.map rowOf), rS (some y) rc 3 (acts.map actRow)] else (bif LL 9 then [rB b10 43 [.int .i64 0, .slice none 0 0], rS a22_5 c22_5 2 ((withV (kR n) x.key x.val l).1.map rowOf), rB b9 67 [.int .i64 x.kind, .string x.key, .int .i64 x.val], rS la lc 2 (l.map rowOf), rB b5 43 [.int .i64 (kR n), .slice a l.length cc], rS a cc 2 (l.map rowOf), rS (some y) rc 3 (acts.map actRow)] else (bif LL 5 then [rS a22_5 c22_5 2 ((withV (kR n) x.key x.val l).1.map rowOf), rB b9 67 [.int .i64 x.kind, .string x.key, .int .i64 x.val], rS la lc 2 (l.map rowOf), rB b5 43 [.int .i64 (kR n), .slice a l.length cc], rS a cc 2 (l.map rowOf), rS (some y) rc 3 (acts.map actRow)] else [rB b9 67 [.int .i64 x.kind, .string x.key, .int .i64 x.val], rS la lc 2 (l.map rowOf), rB b5 43 [.int .i64 (kR n), .slice a l.length cc], rS a cc 2 (l.map rowOf), rS (some y) rc 3 (acts.map actRow)])))) (default, default, default) H.out ?_ (steps_al ?_) ?_ ?_
  · intro L1 L2 xx ww hL sg
    have lh5 := hL 5 (by decide)
    have lh9 := hL 9 (by decide)
    have lh10 := hL 10 (by decide)
    simp only [lh5, lh9, lh10] at sg
    exact sg
  · refine al_cons ?_ (al_cons ?_ (al_cons ?_ (al_cons ?_ (al_cons ?_ (al_cons ?_ (al_cons ?_ (al_cons ?_ (al_cons ?_ (al_cons ?_ (al_cons ?_ (al_cons ?_ (al_nil))))))))))))
    · intro LL xx ac wc sg hst hwant QQ hgo
      obtain ⟨a22_5, c22_5, b10⟩ := xx
      have H := Lib.hid hst
      simp only [sg.des 5 rfl, sg.des 9 rfl, sg.des 10 rfl, cond_true, cond_false] at H
      refine hpA_load tyshelf_Shelf_string__int_ H rfl ((sg.free 5 (by kernel_rfl)).trans so5) hwant (by (repeat (first | exact List.Mem.head _ | apply List.Mem.tail))) (by rfl) rfl ?_
      exact hgo _ (a22_5, c22_5, b10) _ (fun _ _ => rfl) rfl hst
    · intro LL xx ac wc sg hst hwant QQ hgo
      obtain ⟨a22_5, c22_5, b10⟩ := xx
      have se9 : ac.eval (.tmp 9) = _ := ((sg.free 9 (by kernel_rfl)).trans so9)
      have sg9 := gt_of se9
      exact op_val hwant hgo hst _ (by simp only [execOp, nth]; go_simp <;> omega) rfl
    · intro LL xx ac wc sg hst hwant QQ hgo
      obtain ⟨a22_5, c22_5, b10⟩ := xx
      have H := Lib.hid hst
      simp only [sg.des 5 rfl, sg.des 9 rfl, sg.des 10 rfl, cond_true, cond_false] at H
      refine hpA_load1 tystring H rfl (sg.slot 1 (sg.anc 1 rfl)) hwant (by (repeat (first | exact List.Mem.head _ | apply List.Mem.tail))) (by rfl) ?_
      exact hgo _ (a22_5, c22_5, b10) _ (fun _ _ => rfl) rfl hst
    · intro LL xx ac wc sg hst hwant QQ hgo
      obtain ⟨a22_5, c22_5, b10⟩ := xx
      have se9 : ac.eval (.tmp 9) = _ := ((sg.free 9 (by kernel_rfl)).trans so9)
      have sg9 := gt_of se9
      exact op_val hwant hgo hst _ (by simp only [execOp, nth]; go_simp <;> omega) rfl
    · intro LL xx ac wc sg hst hwant QQ hgo
      obtain ⟨a22_5, c22_5, b10⟩ := xx
      have H := Lib.hid hst
      simp only [sg.des 5 rfl, sg.des 9 rfl, sg.des 10 rfl, cond_true, cond_false] at H
      refine hpA_load1 tyint H rfl (sg.slot 3 (sg.anc 3 rfl)) hwant (by (repeat (first | exact List.Mem.head _ | apply List.Mem.tail))) (by rfl) ?_
      exact hgo _ (a22_5, c22_5, b10) _ (fun _ _ => rfl) rfl hst
    · intro LL xx ac wc sg hst hwant QQ hgo
      obtain ⟨_, _, b10⟩ := xx
      have se79 : ac.eval (.tmp 79) = _ := (sg.slot 0 (sg.anc 0 rfl))
      have sg79 := gt_of se79
      have se81 : ac.eval (.tmp 81) = _ := (sg.slot 2 (sg.anc 2 rfl))
      have sg81 := gt_of se81
      have se83 : ac.eval (.tmp 83) = _ := (sg.slot 4 (sg.anc 4 rfl))
      have sg83 := gt_of se83
      (try simp only [nth] at se79 sg79 se81 sg81 se83 sg83)
      have H := Lib.hid hst
      simp only [sg.self, sg.des 9 rfl, sg.des 10 rfl, cond_true, cond_false] at H
      refine op_call hwant hgo 27 _ (by simp only [execOp]; go_simp) (sWithYes (kR n) a cc l x.key x.val wc (hp_held H (show rS a cc 2 (l.map rowOf) ∈ _ by (repeat (first | exact List.Mem.head _ | apply List.Mem.tail)))) hs.out (by omega) y10) ?_
      rintro er wd ⟨a22_5, c22_5, rfl, hgv⟩
      have H2 := hp_got H hgv.2.2 hgv.1 (by decide) hgv.2.1 (by simp)
      exact ⟨_, (a22_5, c22_5, b10), rfl, (sg.agree (x' := (a22_5, c22_5, b10)) (n := 12) rfl (by (iterate 12 (refine ix_cons (by first | exact fun _ => rfl | exact no sg.self | exact no (sg.des _ rfl)) ?_)); exact ix_nil)), rfl, (by simp only [(show upd LL 5 5 = true from rfl), (show upd LL 5 9 = LL 9 from rfl), sg.des 9 rfl, (show upd LL 5 10 = LL 10 from rfl), sg.des 10 rfl, cond_true, cond_false]; exact H2.out)⟩
    · intro LL xx ac wc sg hst hwant QQ hgo
      obtain ⟨a22_5, c22_5, b10⟩ := xx
      exact op_val hwant hgo hst _ (exec_move rfl (sg.slot 5 (sg.anc 5 rfl))) rfl
    · intro LL xx ac wc sg hst hwant QQ hgo
      obtain ⟨a22_5, c22_5, b10⟩ := xx
      have se78 : ac.eval (.tmp 78) = _ := (sg.slot 6 (sg.anc 6 rfl))
      have sg78 := gt_of se78
      (try simp only [nth] at se78 sg78)
      exact op_val hwant hgo hst _ (by simp only [execOp, nth]; go_simp <;> omega) rfl
    · intro LL xx ac wc sg hst hwant QQ hgo
      obtain ⟨a22_5, c22_5, b10⟩ := xx
      have se78 : ac.eval (.tmp 78) = _ := (sg.slot 6 (sg.anc 6 rfl))
      have sg78 := gt_of se78
      (try simp only [nth] at se78 sg78)
      exact op_val hwant hgo hst _ (by simp only [execOp, nth]; go_simp <;> omega) rfl
    · intro LL xx ac wc sg hst hwant QQ hgo
      obtain ⟨a22_5, c22_5, _⟩ := xx
      have H := Lib.hid hst
      simp only [sg.anc 5 rfl, sg.self, sg.des 10 rfl, cond_true, cond_false] at H
      refine hpA_alloc tyshelf_Shelf_string__int_ H rfl rfl ?_
      intro wd b10 H2
      exact hgo _ (a22_5, c22_5, b10) _ (sg.agree (x' := (a22_5, c22_5, b10)) (n := 12) rfl (by (iterate 12 (refine ix_cons (by first | exact fun _ => rfl | exact no sg.self | exact no (sg.des _ rfl)) ?_)); exact ix_nil)) rfl (by simp only [(show upd LL 9 5 = LL 5 from rfl), sg.anc 5 rfl, (show upd LL 9 9 = true from rfl), (show upd LL 9 10 = LL 10 from rfl), sg.des 10 rfl, cond_true, cond_false]; exact H2.out)
    · intro LL xx ac wc sg hst hwant QQ hgo
      obtain ⟨a22_5, c22_5, b10⟩ := xx
      have H := Lib.hid hst
      simp only [sg.anc 5 rfl, sg.anc 9 rfl, sg.self, cond_true, cond_false] at H
      refine hpA_store tyshelf_Shelf_string__int_ H rfl rfl (sg.slot 9 (sg.anc 9 rfl)) (sg.slot 7 (sg.anc 7 rfl)) rfl (by repeat (first | apply Put.head | apply Put.tail)) (by simp [List.length_cons]) (by simp [List.length_cons, Value.oneCell']) (by first | rfl | (simp only [spl]; rfl)) rfl ?_
      intro wd H2
      exact hgo _ (a22_5, c22_5, b10) _ (sg.agree (x' := (a22_5, c22_5, b10)) (n := 12) rfl (by (iterate 12 (refine ix_cons (by first | exact fun _ => rfl | exact no sg.self | exact no (sg.des _ rfl)) ?_)); exact ix_nil)) rfl (by simp only [(show upd LL 10 5 = LL 5 from rfl), sg.anc 5 rfl, (show upd LL 10 9 = LL 9 from rfl), sg.anc 9 rfl, (show upd LL 10 10 = true from rfl), cond_true, cond_false]; exact H2.out)
    · intro LL xx ac wc sg hst hwant QQ hgo
      obtain ⟨a22_5, c22_5, b10⟩ := xx
      exact op_val hwant hgo hst _ (exec_assign rfl (sg.slot 8 (sg.anc 8 rfl))) rfl
  · exact skips [] (by kernel_rfl) (fun _ h => by cases h)
  · intro xx ac1 wz hfr hsl hst
    obtain ⟨a22_5, c22_5, b10⟩ := xx
    exact hfin a22_5 c22_5 b10 ac1 wz (hfr.size.trans hz) hfr.defers (fr_keep hfr [10, 11, 78, 79, 80, 81, 82, 83, 84, 85, 86] (by kernel_rfl)) (hsl 9 (by decide)) (hsl 11 (by decide)) (Lib.hid hst)
set_option maxRecDepth 20000 in
theorem exact6_w_r23x3 (n : Int) (rc : Nat) (acts : List ActV) (b5 : Nat) (i : Nat) (a : Option Addr) (cc : Nat) (la : Option Addr) (lc : Nat) (l : List PairV) (hi : i ≤ acts.length) (hi2 : i ≤ 100) (hll : l.length ≤ i) (hs : Hid (Sorted l)) (z1ld : i < acts.length) (z1rd : (i : Int) < 100) (y : Addr) (x : ActV) (b9 : Nat) (z2d : ¬ (10 < (x.key.size : Int))) (y10 : ((!(getR x.key l).2) && (decide (kR n ≤ (l.length : Int)))) = false) (a22_5 : Option Addr) (c22_5 : Nat) (b10 : Nat) {wa wb : World} (H : Hid (Hp [] wa wb [rB b10 43 [.int .i64 (kR n), .slice a22_5 ((withV (kR n) x.key x.val l).1.length) c22_5], rS a22_5 c22_5 2 ((withV (kR n) x.key x.val l).1.map rowOf), rB b9 67 [.int .i64 x.kind, .string x.key, .int .i64 x.val], rS la lc 2 (l.map rowOf), rB b5 43 [.int .i64 (kR n), .slice a l.length cc], rS a cc 2 (l.map rowOf), rS (some y) rc 3 (acts.map actRow)])) (ac0 : Act) (hz : ac0.tmps.size = 143) (so6 : ac0.eval (.tmp 6) = .int .i64 (kR n)) (so7 : ac0.eval (.tmp 7) = .slice la l.length lc) (so9 : ac0.eval (.tmp 9) = .pointer (some ⟨b9, 0, none⟩)) {QR : Exit → Act → World → Prop} (hfin : ∀ (a23_6 : Option Addr) (c23_6 : Nat) (ac1 : Act) (wz : World), ac1.tmps.size = 143 → ac1.defers = ac0.defers → (∀ t, ([12, 13, 87, 88, 89, 90, 91, 92, 93, 94, 95, 96] : List Nat).contains t = false → ac1.eval (.tmp t) = ac0.eval (.tmp t)) → ac1.eval (.tmp 12) = .slice a23_6 ((withV (kR n) x.key x.val l).1.length) c23_6 → ac1.eval (.tmp 13) = .bool true →  Hid (Hp [] wa wz [rS a23_6 c23_6 2 ((withV (kR n) x.key x.val l).1.map rowOf), rB b10 43 [.int .i64 (kR n), .slice a22_5 ((withV (kR n) x.key x.val l).1.length) c22_5], rS a22_5 c22_5 2 ((withV (kR n) x.key x.val l).1.map rowOf), rB b9 67 [.int .i64 x.kind, .string x.key, .int .i64 x.val], rS la lc 2 (l.map rowOf), rB b5 43 [.int .i64 (kR n), .slice a l.length cc], rS a cc 2 (l.map rowOf), rS (some y) rc 3 (acts.map actRow)]) → QR .normal ac1 wz) : (regAt Try.f8 23).wp Try.prog QR ac0 wb := by
  refine wp_region_sq (by kernel_rfl) 143 hz (by kernel_rfl) (fun (xx : Option Addr × Nat) jx => match xx with | (a23_6, c23_6) => nth [.slice la l.length lc, .int .i64 (kR n), .pointer (some ⟨b9, 1, none⟩), .string x.key, .pointer (some ⟨b9, 2, none⟩), .int .i64 x.val, .tuple #[.slice a23_6 ((withV (kR n) x.key x.val l).1.length) c23_6, .bool true], .tuple #[.slice a23_6 ((withV (kR n) x.key x.val l).1.length) c23_6, .bool true], .slice a23_6 ((withV (kR n) x.key x.val l).1.length) c23_6, .bool true, .slice a23_6 ((withV (kR n) x.key x.val l).1.length) c23_6, .bool true] jx) (fun (LL : Nat → Bool) (xx : Option Addr × Nat) ww => match xx with | (a23_6, c23_6) => Hp [] wa ww (bif LL 6 then [rS a23_6 c23_6 2 ((withV (kR n) x.key x.val l).1.map rowOf), rB b10 43 [.int .i64 (kR n), .slice a22_5 ((withV (kR n) x.key x.val l).1.length) c22_5], rS a22_5 c22_5 2 ((withV (kR n) x.key x.val l).1.map rowOf), rB b9 67 [.int .i64 x.kind, .string x.key, .int .i64 x.val], rS la lc 2 (l.map rowOf), rB b5 43 [.int .i64 (kR n), .slice a l.length cc], rS a cc 2 (l.map rowOf), rS (some y) rc 3 (acts.map actRow)] else [rB b10 43 [.int .i64 (kR n), .slice a22_5 ((withV (kR n) x.key x.val l).1.length) c22_5], rS a22_5 c22_5 2 ((withV (kR n) x.key x.val l).1.map rowOf), rB b9 67 [.int .i64 x.kind, .string x.key, .int .i64 x.val], rS la lc 2 (l.map rowOf), rB b5 43 [.int .i64 (kR n), .slice a l.length cc], rS a cc 2 (l.map rowOf), rS (some y) rc 3 (acts.map actRow)])) (default, default) H.out ?_ (steps_al ?_) ?_ ?_
  · intro L1 L2 xx ww hL sg
    have lh6 := hL 6 (by decide)
    simp only [lh6] at sg
    exact sg
  · refine al_cons ?_ (al_cons ?_ (al_cons ?_ (al_cons ?_ (al_cons ?_ (al_cons ?_ (al_cons ?_ (al_cons ?_ (al_cons ?_ (al_cons ?_ (al_cons ?_ (al_cons ?_ (al_nil))))))))))))
    · intro LL xx ac wc sg hst hwant QQ hgo
      obtain ⟨a23_6, c23_6⟩ := xx
      exact op_val hwant hgo hst _ (exec_move rfl ((sg.free 7 (by kernel_rfl)).trans so7)) rfl
    · intro LL xx ac wc sg hst hwant QQ hgo
      obtain ⟨a23_6, c23_6⟩ := xx
      exact op_val hwant hgo hst _ (exec_move rfl ((sg.free 6 (by kernel_rfl)).trans so6)) rfl
    · intro LL xx ac wc sg hst hwant QQ hgo
      obtain ⟨a23_6, c23_6⟩ := xx
      have se9 : ac.eval (.tmp 9) = _ := ((sg.free 9 (by kernel_rfl)).trans so9)
      have sg9 := gt_of se9
      exact op_val hwant hgo hst _ (by simp only [execOp, nth]; go_simp <;> omega) rfl
    · intro LL xx ac wc sg hst hwant QQ hgo
      obtain ⟨a23_6, c23_6⟩ := xx
      have H := Lib.hid hst
      simp only [sg.des 6 rfl, cond_true, cond_false] at H
      refine hpA_load1 tystring H rfl (sg.slot 2 (sg.anc 2 rfl)) hwant (by (repeat (first | exact List.Mem.head _ | apply List.Mem.tail))) (by rfl) ?_
      exact hgo _ (a23_6, c23_6) _ (fun _ _ => rfl) rfl hst
    · intro LL xx ac wc sg hst hwant QQ hgo
      obtain ⟨a23_6, c23_6⟩ := xx
      have se9 : ac.eval (.tmp 9) = _ := ((sg.free 9 (by kernel_rfl)).trans so9)
      have sg9 := gt_of se9
      exact op_val hwant hgo hst _ (by simp only [execOp, nth]; go_simp <;> omega) rfl
    · intro LL xx ac wc sg hst hwant QQ hgo
      obtain ⟨a23_6, c23_6⟩ := xx
      have H := Lib.hid hst
      simp only [sg.des 6 rfl, cond_true, cond_false] at H
      refine hpA_load1 tyint H rfl (sg.slot 4 (sg.anc 4 rfl)) hwant (by (repeat (first | exact List.Mem.head _ | apply List.Mem.tail))) (by rfl) ?_
      exact hgo _ (a23_6, c23_6) _ (fun _ _ => rfl) rfl hst
    · intro LL xx ac wc sg hst hwant QQ hgo
      obtain ⟨_, _⟩ := xx
      have se88 : ac.eval (.tmp 88) = _ := (sg.slot 0 (sg.anc 0 rfl))
      have sg88 := gt_of se88
      have se89 : ac.eval (.tmp 89) = _ := (sg.slot 1 (sg.anc 1 rfl))
      have sg89 := gt_of se89
      have se91 : ac.eval (.tmp 91) = _ := (sg.slot 3 (sg.anc 3 rfl))
      have sg91 := gt_of se91
      have se93 : ac.eval (.tmp 93) = _ := (sg.slot 5 (sg.anc 5 rfl))
      have sg93 := gt_of se93
      (try simp only [nth] at se88 sg88 se89 sg89 se91 sg91 se93 sg93)
      have H := Lib.hid hst
      simp only [sg.self, cond_true, cond_false] at H
      refine op_call hwant hgo 38 _ (by simp only [execOp]; go_simp) (withRyes6 la lc l (kR n) x.key x.val wc (hp_held H (show rS la lc 2 (l.map rowOf) ∈ _ by (repeat (first | exact List.Mem.head _ | apply List.Mem.tail)))) (by omega) hs (Lib.hid (room_of hs.out y10)) y10) ?_
      rintro er wd ⟨a23_6, c23_6, rfl, hgv⟩
      have H2 := hp_got H hgv.2.2 hgv.1 (by decide) hgv.2.1 (by simp)
      exact ⟨_, (a23_6, c23_6), rfl, (sg.agree (x' := (a23_6, c23_6)) (n := 12) rfl (by (iterate 12 (refine ix_cons (by first | exact fun _ => rfl | exact no sg.self | exact no (sg.des _ rfl)) ?_)); exact ix_nil)), rfl, (by simp only [(show upd LL 6 6 = true from rfl), cond_true, cond_false]; exact H2.out)⟩
    · intro LL xx ac wc sg hst hwant QQ hgo
      obtain ⟨a23_6, c23_6⟩ := xx
      exact op_val hwant hgo hst _ (exec_move rfl (sg.slot 6 (sg.anc 6 rfl))) rfl
    · intro LL xx ac wc sg hst hwant QQ hgo
      obtain ⟨a23_6, c23_6⟩ := xx
      have se87 : ac.eval (.tmp 87) = _ := (sg.slot 7 (sg.anc 7 rfl))
      have sg87 := gt_of se87
      (try simp only [nth] at se87 sg87)
      exact op_val hwant hgo hst _ (by simp only [execOp, nth]; go_simp <;> omega) rfl
    · intro LL xx ac wc sg hst hwant QQ hgo
      obtain ⟨a23_6, c23_6⟩ := xx
      have se87 : ac.eval (.tmp 87) = _ := (sg.slot 7 (sg.anc 7 rfl))
      have sg87 := gt_of se87
      (try simp only [nth] at se87 sg87)
      exact op_val hwant hgo hst _ (by simp only [execOp, nth]; go_simp <;> omega) rfl
    · intro LL xx ac wc sg hst hwant QQ hgo
      obtain ⟨a23_6, c23_6⟩ := xx
      exact op_val hwant hgo hst _ (exec_assign rfl (sg.slot 8 (sg.anc 8 rfl))) rfl
    · intro LL xx ac wc sg hst hwant QQ hgo
      obtain ⟨a23_6, c23_6⟩ := xx
      exact op_val hwant hgo hst _ (exec_assign rfl (sg.slot 9 (sg.anc 9 rfl))) rfl
  · exact skips [] (by kernel_rfl) (fun _ h => by cases h)
  · intro xx ac1 wz hfr hsl hst
    obtain ⟨a23_6, c23_6⟩ := xx
    exact hfin a23_6 c23_6 ac1 wz (hfr.size.trans hz) hfr.defers (fr_keep hfr [12, 13, 87, 88, 89, 90, 91, 92, 93, 94, 95, 96] (by kernel_rfl)) (hsl 10 (by decide)) (hsl 11 (by decide)) (Lib.hid hst)
set_option maxRecDepth 20000 in
theorem exact6_w_r24x3 (n : Int) (rc : Nat) (acts : List ActV) (b5 : Nat) (i : Nat) (a : Option Addr) (cc : Nat) (la : Option Addr) (lc : Nat) (l : List PairV) (hi : i ≤ acts.length) (hi2 : i ≤ 100) (hll : l.length ≤ i) (z1ld : i < acts.length) (z1rd : (i : Int) < 100) (y : Addr) (x : ActV) (b9 : Nat) (z2d : ¬ (10 < (x.key.size : Int))) (a22_5 : Option Addr) (c22_5 : Nat) (b10 : Nat) (a23_6 : Option Addr) (c23_6 : Nat) {wa wb : World} (H : Hid (Hp [] wa wb [rS a23_6 c23_6 2 ((withV (kR n) x.key x.val l).1.map rowOf), rB b10 43 [.int .i64 (kR n), .slice a22_5 ((withV (kR n) x.key x.val l).1.length) c22_5], rS a22_5 c22_5 2 ((withV (kR n) x.key x.val l).1.map rowOf), rB b9 67 [.int .i64 x.kind, .string x.key, .int .i64 x.val], rS la lc 2 (l.map rowOf), rB b5 43 [.int .i64 (kR n), .slice a l.length cc], rS a cc 2 (l.map rowOf), rS (some y) rc 3 (acts.map actRow)])) (ac0 : Act) (hz : ac0.tmps.size = 143) (so11 : ac0.eval (.tmp 11) = .bool true) (so13 : ac0.eval (.tmp 13) = .bool true) {QR : Exit → Act → World → Prop} (hfin : ∀ (ac1 : Act) (wz : World), ac1.tmps.size = 143 → ac1.defers = ac0.defers → (∀ t, ([97, 98, 99] : List Nat).contains t = false → ac1.eval (.tmp t) = ac0.eval (.tmp t)) → ac1.eval (.tmp 99) = .bool false →  Hid (Hp [] wa wz [rS a23_6 c23_6 2 ((withV (kR n) x.key x.val l).1.map rowOf), rB b10 43 [.int .i64 (kR n), .slice a22_5 ((withV (kR n) x.key x.val l).1.length) c22_5], rS a22_5 c22_5 2 ((withV (kR n) x.key x.val l).1.map rowOf), rB b9 67 [.int .i64 x.kind, .string x.key, .int .i64 x.val], rS la lc 2 (l.map rowOf), rB b5 43 [.int .i64 (kR n), .slice a l.length cc], rS a cc 2 (l.map rowOf), rS (some y) rc 3 (acts.map actRow)]) → QR .normal ac1 wz) : (regAt Try.f8 24).wp Try.prog QR ac0 wb := by
  refine wp_region_sq (by kernel_rfl) 143 hz (by kernel_rfl) (fun (xx : Unit) jx => nth [.bool true, .bool true, .bool false] jx) (fun (LL : Nat → Bool) (xx : Unit) ww => Hp [] wa ww [rS a23_6 c23_6 2 ((withV (kR n) x.key x.val l).1.map rowOf), rB b10 43 [.int .i64 (kR n), .slice a22_5 ((withV (kR n) x.key x.val l).1.length) c22_5], rS a22_5 c22_5 2 ((withV (kR n) x.key x.val l).1.map rowOf), rB b9 67 [.int .i64 x.kind, .string x.key, .int .i64 x.val], rS la lc 2 (l.map rowOf), rB b5 43 [.int .i64 (kR n), .slice a l.length cc], rS a cc 2 (l.map rowOf), rS (some y) rc 3 (acts.map actRow)]) () H.out ?_ (steps_al ?_) ?_ ?_
  · exact fun _ _ _ _ _ h => h
  · refine al_cons ?_ (al_cons ?_ (al_cons ?_ (al_nil)))
    · intro LL xx ac wc sg hst hwant QQ hgo
      exact op_val hwant hgo hst _ (exec_move rfl ((sg.free 11 (by kernel_rfl)).trans so11)) rfl
    · intro LL xx ac wc sg hst hwant QQ hgo
      exact op_val hwant hgo hst _ (exec_move rfl ((sg.free 13 (by kernel_rfl)).trans so13)) rfl
    · intro LL xx ac wc sg hst hwant QQ hgo
      have se97 : ac.eval (.tmp 97) = _ := (sg.slot 0 (sg.anc 0 rfl))
      have sg97 := gt_of se97
      have se98 : ac.eval (.tmp 98) = _ := (sg.slot 1 (sg.anc 1 rfl))
      have sg98 := gt_of se98
      (try simp only [nth] at se97 sg97 se98 sg98)
      exact op_val hwant hgo hst _ (by simp only [execOp, nth]; go_simp <;> omega) rfl
  · exact skips [] (by kernel_rfl) (fun _ h => by cases h)
  · intro xx ac1 wz hfr hsl hst
    exact hfin ac1 wz (hfr.size.trans hz) hfr.defers (fr_keep hfr [97, 98, 99] (by kernel_rfl)) (hsl 2 (by decide)) (Lib.hid hst)
set_option maxRecDepth 20000 in
theorem exact6_w_r26x3 (n : Int) (rc : Nat) (acts : List ActV) (b5 : Nat) (i : Nat) (a : Option Addr) (cc : Nat) (la : Option Addr) (lc : Nat) (l : List PairV) (hi : i ≤ acts.length) (hi2 : i ≤ 100) (hll : l.length ≤ i) (z1ld : i < acts.length) (z1rd : (i : Int) < 100) (y : Addr) (x : ActV) (b9 : Nat) (z2d : ¬ (10 < (x.key.size : Int))) (a22_5 : Option Addr) (c22_5 : Nat) (b10 : Nat) (a23_6 : Option Addr) (c23_6 : Nat) {wa wb : World} (H : Hid (Hp [] wa wb [rS a23_6 c23_6 2 ((withV (kR n) x.key x.val l).1.map rowOf), rB b10 43 [.int .i64 (kR n), .slice a22_5 ((withV (kR n) x.key x.val l).1.length) c22_5], rS a22_5 c22_5 2 ((withV (kR n) x.key x.val l).1.map rowOf), rB b9 67 [.int .i64 x.kind, .string x.key, .int .i64 x.val], rS la lc 2 (l.map rowOf), rB b5 43 [.int .i64 (kR n), .slice a l.length cc], rS a cc 2 (l.map rowOf), rS (some y) rc 3 (acts.map actRow)])) (ac0 : Act) (hz : ac0.tmps.size = 143) (so5 : ac0.eval (.tmp 5) = .pointer (some ⟨b5, 0, none⟩)) (so10 : ac0.eval (.tmp 10) = .pointer (some ⟨b10, 0, none⟩)) {QR : Exit → Act → World → Prop} (hfin : ∀ (ac1 : Act) (wz : World), ac1.tmps.size = 143 → ac1.defers = ac0.defers → (∀ t, ([100] : List Nat).contains t = false → ac1.eval (.tmp t) = ac0.eval (.tmp t)) →  Hid (Hp [] wa wz [rS a23_6 c23_6 2 ((withV (kR n) x.key x.val l).1.map rowOf), rB b10 43 [.int .i64 (kR n), .slice a22_5 ((withV (kR n) x.key x.val l).1.length) c22_5], rS a22_5 c22_5 2 ((withV (kR n) x.key x.val l).1.map rowOf), rB b9 67 [.int .i64 x.kind, .string x.key, .int .i64 x.val], rS la lc 2 (l.map rowOf), rB b5 43 [.int .i64 (kR n), .slice a22_5 ((withV (kR n) x.key x.val l).1.length) c22_5], rS a cc 2 (l.map rowOf), rS (some y) rc 3 (acts.map actRow)]) → QR .normal ac1 wz) : (regAt Try.f8 26).wp Try.prog QR ac0 wb := by
  refine wp_region_sq (by kernel_rfl) 143 hz (by kernel_rfl) (fun (xx : Unit) jx => nth [.agg #[.int .i64 (kR n), .slice a22_5 ((withV (kR n) x.key x.val l).1.length) c22_5], undef] jx) (fun (LL : Nat → Bool) (xx : Unit) ww => Hp [] wa ww (bif LL 1 then [rS a23_6 c23_6 2 ((withV (kR n) x.key x.val l).1.map rowOf), rB b10 43 [.int .i64 (kR n), .slice a22_5 ((withV (kR n) x.key x.val l).1.length) c22_5], rS a22_5 c22_5 2 ((withV (kR n) x.key x.val l).1.map rowOf), rB b9 67 [.int .i64 x.kind, .string x.key, .int .i64 x.val], rS la lc 2 (l.map rowOf), rB b5 43 [.int .i64 (kR n), .slice a22_5 ((withV (kR n) x.key x.val l).1.length) c22_5], rS a cc 2 (l.map rowOf), rS (some y) rc 3 (acts.map actRow)] else [rS a23_6 c23_6 2 ((withV (kR n) x.key x.val l).1.map rowOf), rB b10 43 [.int .i64 (kR n), .slice a22_5 ((withV (kR n) x.key x.val l).1.length) c22_5], rS a22_5 c22_5 2 ((withV (kR n) x.key x.val l).1.map rowOf), rB b9 67 [.int .i64 x.kind, .string x.key, .int .i64 x.val], rS la lc 2 (l.map rowOf), rB b5 43 [.int .i64 (kR n), .slice a l.length cc], rS a cc 2 (l.map rowOf), rS (some y) rc 3 (acts.map actRow)])) () H.out ?_ (steps_al ?_) ?_ ?_
  · intro L1 L2 xx ww hL sg
    have lh1 := hL 1 (by decide)
    simp only [lh1] at sg
    exact sg
  · refine al_cons ?_ (al_cons ?_ (al_nil))
    · intro LL xx ac wc sg hst hwant QQ hgo
      have H := Lib.hid hst
      simp only [sg.des 1 rfl, cond_true, cond_false] at H
      refine hpA_load tyshelf_Shelf_string__int_ H rfl ((sg.free 10 (by kernel_rfl)).trans so10) hwant (by (repeat (first | exact List.Mem.head _ | apply List.Mem.tail))) (by rfl) rfl ?_
      exact hgo _ () _ (fun _ _ => rfl) rfl hst
    · intro LL xx ac wc sg hst hwant QQ hgo
      have H := Lib.hid hst
      simp only [sg.self, cond_true, cond_false] at H
      refine hpA_store tyshelf_Shelf_string__int_ H rfl rfl ((sg.free 5 (by kernel_rfl)).trans so5) (sg.slot 0 (sg.anc 0 rfl)) rfl (by repeat (first | apply Put.head | apply Put.tail)) (by simp [List.length_cons]) (by simp [List.length_cons, Value.oneCell']) (by first | rfl | (simp only [spl]; rfl)) rfl ?_
      intro wd H2
      exact hgo _ () _ (fun _ _ => rfl) rfl (by simp only [(show upd LL 1 1 = true from rfl), cond_true, cond_false]; exact H2.out)
  · exact skips [] (by kernel_rfl) (fun _ h => by cases h)
  · intro xx ac1 wz hfr hsl hst
    exact hfin ac1 wz (hfr.size.trans hz) hfr.defers (fr_keep hfr [100] (by kernel_rfl)) (Lib.hid hst)
set_option maxRecDepth 20000 in
theorem exact6_w_r27x3 (n : Int) (rc : Nat) (acts : List ActV) (b5 : Nat) (i : Nat) (a : Option Addr) (cc : Nat) (la : Option Addr) (lc : Nat) (l : List PairV) (hi : i ≤ acts.length) (hi2 : i ≤ 100) (hll : l.length ≤ i) (z1ld : i < acts.length) (z1rd : (i : Int) < 100) (y : Addr) (x : ActV) (b9 : Nat) (z2d : ¬ (10 < (x.key.size : Int))) (a22_5 : Option Addr) (c22_5 : Nat) (b10 : Nat) (a23_6 : Option Addr) (c23_6 : Nat) {wa wb : World} (H : Hid (Hp [] wa wb [rS a23_6 c23_6 2 ((withV (kR n) x.key x.val l).1.map rowOf), rB b10 43 [.int .i64 (kR n), .slice a22_5 ((withV (kR n) x.key x.val l).1.length) c22_5], rS a22_5 c22_5 2 ((withV (kR n) x.key x.val l).1.map rowOf), rB b9 67 [.int .i64 x.kind, .string x.key, .int .i64 x.val], rS la lc 2 (l.map rowOf), rB b5 43 [.int .i64 (kR n), .slice a22_5 ((withV (kR n) x.key x.val l).1.length) c22_5], rS a cc 2 (l.map rowOf), rS (some y) rc 3 (acts.map actRow)])) (ac0 : Act) (hz : ac0.tmps.size = 143) (so12 : ac0.eval (.tmp 12) = .slice a23_6 ((withV (kR n) x.key x.val l).1.length) c23_6) {QR : Exit → Act → World → Prop} (hfin : ∀ (ac1 : Act) (wz : World), ac1.tmps.size = 143 → ac1.defers = ac0.defers → (∀ t, ([7, 101] : List Nat).contains t = false → ac1.eval (.tmp t) = ac0.eval (.tmp t)) → ac1.eval (.tmp 7) = .slice a23_6 ((withV (kR n) x.key x.val l).1.length) c23_6 →  Hid (Hp [] wa wz [rS a23_6 c23_6 2 ((withV (kR n) x.key x.val l).1.map rowOf), rB b10 43 [.int .i64 (kR n), .slice a22_5 ((withV (kR n) x.key x.val l).1.length) c22_5], rS a22_5 c22_5 2 ((withV (kR n) x.key x.val l).1.map rowOf), rB b9 67 [.int .i64 x.kind, .string x.key, .int .i64 x.val], rS la lc 2 (l.map rowOf), rB b5 43 [.int .i64 (kR n), .slice a22_5 ((withV (kR n) x.key x.val l).1.length) c22_5], rS a cc 2 (l.map rowOf), rS (some y) rc 3 (acts.map actRow)]) → QR .normal ac1 wz) : (regAt Try.f8 27).wp Try.prog QR ac0 wb := by
  refine wp_region_sq (by kernel_rfl) 143 hz (by kernel_rfl) (fun (xx : Unit) jx => nth [.slice a23_6 ((withV (kR n) x.key x.val l).1.length) c23_6, .slice a23_6 ((withV (kR n) x.key x.val l).1.length) c23_6] jx) (fun (LL : Nat → Bool) (xx : Unit) ww => Hp [] wa ww [rS a23_6 c23_6 2 ((withV (kR n) x.key x.val l).1.map rowOf), rB b10 43 [.int .i64 (kR n), .slice a22_5 ((withV (kR n) x.key x.val l).1.length) c22_5], rS a22_5 c22_5 2 ((withV (kR n) x.key x.val l).1.map rowOf), rB b9 67 [.int .i64 x.kind, .string x.key, .int .i64 x.val], rS la lc 2 (l.map rowOf), rB b5 43 [.int .i64 (kR n), .slice a22_5 ((withV (kR n) x.key x.val l).1.length) c22_5], rS a cc 2 (l.map rowOf), rS (some y) rc 3 (acts.map actRow)]) () H.out ?_ (steps_al ?_) ?_ ?_
  · exact fun _ _ _ _ _ h => h
  · refine al_cons ?_ (al_cons ?_ (al_nil))
    · intro LL xx ac wc sg hst hwant QQ hgo
      exact op_val hwant hgo hst _ (exec_move rfl ((sg.free 12 (by kernel_rfl)).trans so12)) rfl
    · intro LL xx ac wc sg hst hwant QQ hgo
      exact op_val hwant hgo hst _ (exec_assign rfl (sg.slot 0 (sg.anc 0 rfl))) rfl
  · exact skips [] (by kernel_rfl) (fun _ h => by cases h)
  · intro xx ac1 wz hfr hsl hst
    exact hfin ac1 wz (hfr.size.trans hz) hfr.defers (fr_keep hfr [7, 101] (by kernel_rfl)) (hsl 1 (by decide)) (Lib.hid hst)
set_option maxRecDepth 20000 in
theorem exact6_w_r35x6 (n : Int) (rc : Nat) (acts : List ActV) (b5 : Nat) (i : Nat) (a : Option Addr) (cc : Nat) (la : Option Addr) (lc : Nat) (l : List PairV) (hi : i ≤ acts.length) (hi2 : i ≤ 100) (hll : l.length ≤ i) (z1ld : i < acts.length) (z1rd : (i : Int) < 100) (y : Addr) (x : ActV) (b9 : Nat) (z2d : ¬ (10 < (x.key.size : Int))) (a22_5 : Option Addr) (c22_5 : Nat) (b10 : Nat) (a23_6 : Option Addr) (c23_6 : Nat) {wa wb : World} (H : Hid (Hp [] wa wb [rS a23_6 c23_6 2 ((withV (kR n) x.key x.val l).1.map rowOf), rB b10 43 [.int .i64 (kR n), .slice a22_5 ((withV (kR n) x.key x.val l).1.length) c22_5], rS a22_5 c22_5 2 ((withV (kR n) x.key x.val l).1.map rowOf), rB b9 67 [.int .i64 x.kind, .string x.key, .int .i64 x.val], rS la lc 2 (l.map rowOf), rB b5 43 [.int .i64 (kR n), .slice a22_5 ((withV (kR n) x.key x.val l).1.length) c22_5], rS a cc 2 (l.map rowOf), rS (some y) rc 3 (acts.map actRow)])) (ac0 : Act) (hz : ac0.tmps.size = 143) (so5 : ac0.eval (.tmp 5) = .pointer (some ⟨b5, 0, none⟩)) (so6 : ac0.eval (.tmp 6) = .int .i64 (kR n)) (so7 : ac0.eval (.tmp 7) = .slice a23_6 ((withV (kR n) x.key x.val l).1.length) c23_6) {QR : Exit → Act → World → Prop} (hfin : ∀ (ac1 : Act) (wz : World), ac1.tmps.size = 143 → ac1.defers = ac0.defers → (∀ t, ([128, 129, 130, 131, 132, 133, 134, 135, 136, 137] : List Nat).contains t = false → ac1.eval (.tmp t) = ac0.eval (.tmp t)) → ac1.eval (.tmp 137) = .bool false →  Hid (Hp [] wa wz [rS a23_6 c23_6 2 ((withV (kR n) x.key x.val l).1.map rowOf), rB b10 43 [.int .i64 (kR n), .slice a22_5 ((withV (kR n) x.key x.val l).1.length) c22_5], rS a22_5 c22_5 2 ((withV (kR n) x.key x.val l).1.map rowOf), rB b9 67 [.int .i64 x.kind, .string x.key, .int .i64 x.val], rS la lc 2 (l.map rowOf), rB b5 43 [.int .i64 (kR n), .slice a22_5 ((withV (kR n) x.key x.val l).1.length) c22_5], rS a cc 2 (l.map rowOf), rS (some y) rc 3 (acts.map actRow)]) → QR .normal ac1 wz) : (regAt Try.f8 35).wp Try.prog QR ac0 wb := by
  refine wp_region_sq (by kernel_rfl) 143 hz (by kernel_rfl) (fun (xx : Unit) jx => nth [.agg #[.int .i64 (kR n), .slice a22_5 ((withV (kR n) x.key x.val l).1.length) c22_5], .slice a23_6 ((withV (kR n) x.key x.val l).1.length) c23_6, .bool true, .bool false, .bool false, .agg #[.int .i64 (kR n), .slice a22_5 ((withV (kR n) x.key x.val l).1.length) c22_5], .int .i64 (kR n), .int .i64 (kR n), .bool false, .bool false] jx) (fun (LL : Nat → Bool) (xx : Unit) ww => Hp [] wa ww [rS a23_6 c23_6 2 ((withV (kR n) x.key x.val l).1.map rowOf), rB b10 43 [.int .i64 (kR n), .slice a22_5 ((withV (kR n) x.key x.val l).1.length) c22_5], rS a22_5 c22_5 2 ((withV (kR n) x.key x.val l).1.map rowOf), rB b9 67 [.int .i64 x.kind, .string x.key, .int .i64 x.val], rS la lc 2 (l.map rowOf), rB b5 43 [.int .i64 (kR n), .slice a22_5 ((withV (kR n) x.key x.val l).1.length) c22_5], rS a cc 2 (l.map rowOf), rS (some y) rc 3 (acts.map actRow)]) () H.out ?_ (steps_al ?_) ?_ ?_
  · exact fun _ _ _ _ _ h => h
  · refine al_cons ?_ (al_cons ?_ (al_cons ?_ (al_cons ?_ (al_cons ?_ (al_cons ?_ (al_cons ?_ (al_cons ?_ (al_cons ?_ (al_cons ?_ (al_nil))))))))))
    · intro LL xx ac wc sg hst hwant QQ hgo
      have H := Lib.hid hst
      refine hpA_load tyshelf_Shelf_string__int_ H rfl ((sg.free 5 (by kernel_rfl)).trans so5) hwant (by (repeat (first | exact List.Mem.head _ | apply List.Mem.tail))) (by rfl) rfl ?_
      exact hgo _ () _ (fun _ _ => rfl) rfl hst
    · intro LL xx ac wc sg hst hwant QQ hgo
      exact op_val hwant hgo hst _ (exec_move rfl ((sg.free 7 (by kernel_rfl)).trans so7)) rfl
    · intro LL xx ac wc sg hst hwant QQ hgo
      have se128 : ac.eval (.tmp 128) = _ := (sg.slot 0 (sg.anc 0 rfl))
      have sg128 := gt_of se128
      have se129 : ac.eval (.tmp 129) = _ := (sg.slot 1 (sg.anc 1 rfl))
      have sg129 := gt_of se129
      (try simp only [nth] at se128 sg128 se129 sg129)
      have H := Lib.hid hst
      refine op_call hwant hgo 42 _ (by simp only [execOp]; go_simp) (alikeC (kR n) a22_5 c22_5 a23_6 c23_6 ((withV (kR n) x.key x.val l).1) wc (hp_held H (show rS a22_5 c22_5 2 (((withV (kR n) x.key x.val l).1).map rowOf) ∈ _ by (repeat (first | exact List.Mem.head _ | apply List.Mem.tail)))) (hp_held H (show rS a23_6 c23_6 2 (((withV (kR n) x.key x.val l).1).map rowOf) ∈ _ by (repeat (first | exact List.Mem.head _ | apply List.Mem.tail)))) (Nat.le_trans (few_with _ _ _ _) (by omega))) ?_
      rintro er wd ⟨rfl, hof⟩
      exact ⟨_, (), rfl, fun _ _ => rfl, rfl, Hp.quiet hst hof⟩
    · intro LL xx ac wc sg hst hwant QQ hgo
      have se130 : ac.eval (.tmp 130) = _ := (sg.slot 2 (sg.anc 2 rfl))
      have sg130 := gt_of se130
      (try simp only [nth] at se130 sg130)
      exact op_val hwant hgo hst _ (by simp only [execOp, nth]; go_simp <;> omega) rfl
    · intro LL xx ac wc sg hst hwant QQ hgo
      exact op_val hwant hgo hst _ (exec_move rfl (sg.slot 3 (sg.anc 3 rfl))) rfl
    · intro LL xx ac wc sg hst hwant QQ hgo
      have H := Lib.hid hst
      refine hpA_load tyshelf_Shelf_string__int_ H rfl ((sg.free 5 (by kernel_rfl)).trans so5) hwant (by (repeat (first | exact List.Mem.head _ | apply List.Mem.tail))) (by rfl) rfl ?_
      exact hgo _ () _ (fun _ _ => rfl) rfl hst
    · intro LL xx ac wc sg hst hwant QQ hgo
      have se133 : ac.eval (.tmp 133) = _ := (sg.slot 5 (sg.anc 5 rfl))
      have sg133 := gt_of se133
      (try simp only [nth] at se133 sg133)
      refine op_call hwant hgo 43 _ (by simp only [execOp]; go_simp) (roomC (kR n) (.slice a22_5 ((withV (kR n) x.key x.val l).1.length) c22_5) wc) ?_
      rintro er wd ⟨rfl, hof⟩
      exact ⟨_, (), rfl, fun _ _ => rfl, rfl, Hp.quiet hst hof⟩
    · intro LL xx ac wc sg hst hwant QQ hgo
      exact op_val hwant hgo hst _ (exec_move rfl ((sg.free 6 (by kernel_rfl)).trans so6)) rfl
    · intro LL xx ac wc sg hst hwant QQ hgo
      have se134 : ac.eval (.tmp 134) = _ := (sg.slot 6 (sg.anc 6 rfl))
      have sg134 := gt_of se134
      have se135 : ac.eval (.tmp 135) = _ := (sg.slot 7 (sg.anc 7 rfl))
      have sg135 := gt_of se135
      (try simp only [nth] at se134 sg134 se135 sg135)
      exact op_val hwant hgo hst _ (by simp only [execOp, nth]; go_simp <;> omega) rfl
    · intro LL xx ac wc sg hst hwant QQ hgo
      exact op_val hwant hgo hst (.bool false) (exec_pick (B := false) (U := undef) (V := .bool false) rfl (sg.slot 4 (sg.anc 4 rfl)) (fun h => by cases h) (fun _ => (sg.slot 8 (sg.anc 8 rfl)))) rfl
  · refine skips [5, 6, 7, 8] (by kernel_rfl) ?_
    refine List.forall_mem_cons.2 ⟨?_, List.forall_mem_cons.2 ⟨?_, List.forall_mem_cons.2 ⟨?_, List.forall_mem_cons.2 ⟨?_, fun _ h => by cases h⟩⟩⟩⟩
    · intro oo hop LL xx ac sg hwant
      cases Option.some.inj hop
      exact absurd ((want_f rfl rfl (sg.slot 4 (sg.anc 4 rfl))).symm.trans hwant) (by decide)
    · intro oo hop LL xx ac sg hwant
      cases Option.some.inj hop
      exact absurd ((want_f rfl rfl (sg.slot 4 (sg.anc 4 rfl))).symm.trans hwant) (by decide)
    · intro oo hop LL xx ac sg hwant
      cases Option.some.inj hop
      exact absurd ((want_f rfl rfl (sg.slot 4 (sg.anc 4 rfl))).symm.trans hwant) (by decide)
    · intro oo hop LL xx ac sg hwant
      cases Option.some.inj hop
      exact absurd ((want_f rfl rfl (sg.slot 4 (sg.anc 4 rfl))).symm.trans hwant) (by decide)
  · intro xx ac1 wz hfr hsl hst
    exact hfin ac1 wz (hfr.size.trans hz) hfr.defers (fr_keep hfr [128, 129, 130, 131, 132, 133, 134, 135, 136, 137] (by kernel_rfl)) (hsl 9 (by decide)) (Lib.hid hst)
set_option maxRecDepth 20000 in
theorem exact6_w_r10x6 (n : Int) (rc : Nat) (acts : List ActV) (b5 : Nat) (i : Nat) (a : Option Addr) (cc : Nat) (la : Option Addr) (lc : Nat) (l : List PairV) (hi : i ≤ acts.length) (hi2 : i ≤ 100) (hll : l.length ≤ i) (z1ld : i < acts.length) (z1rd : (i : Int) < 100) (y : Addr) (x : ActV) (b9 : Nat) (z2d : ¬ (10 < (x.key.size : Int))) (a22_5 : Option Addr) (c22_5 : Nat) (b10 : Nat) (a23_6 : Option Addr) (c23_6 : Nat) {wa wb : World} (H : Hid (Hp [] wa wb [rS a23_6 c23_6 2 ((withV (kR n) x.key x.val l).1.map rowOf), rB b10 43 [.int .i64 (kR n), .slice a22_5 ((withV (kR n) x.key x.val l).1.length) c22_5], rS a22_5 c22_5 2 ((withV (kR n) x.key x.val l).1.map rowOf), rB b9 67 [.int .i64 x.kind, .string x.key, .int .i64 x.val], rS la lc 2 (l.map rowOf), rB b5 43 [.int .i64 (kR n), .slice a22_5 ((withV (kR n) x.key x.val l).1.length) c22_5], rS a cc 2 (l.map rowOf), rS (some y) rc 3 (acts.map actRow)])) (ac0 : Act) (hz : ac0.tmps.size = 143) (so8 : ac0.eval (.tmp 8) = .int .i64 i) {QR : Exit → Act → World → Prop} (hfin : ∀ (ac1 : Act) (wz : World), ac1.tmps.size = 143 → ac1.defers = ac0.defers → (∀ t, ([8, 40, 41] : List Nat).contains t = false → ac1.eval (.tmp t) = ac0.eval (.tmp t)) → ac1.eval (.tmp 8) = .int .i64 (i + 1) →  Hid (Hp [] wa wz [rS a23_6 c23_6 2 ((withV (kR n) x.key x.val l).1.map rowOf), rB b10 43 [.int .i64 (kR n), .slice a22_5 ((withV (kR n) x.key x.val l).1.length) c22_5], rS a22_5 c22_5 2 ((withV (kR n) x.key x.val l).1.map rowOf), rB b9 67 [.int .i64 x.kind, .string x.key, .int .i64 x.val], rS la lc 2 (l.map rowOf), rB b5 43 [.int .i64 (kR n), .slice a22_5 ((withV (kR n) x.key x.val l).1.length) c22_5], rS a cc 2 (l.map rowOf), rS (some y) rc 3 (acts.map actRow)]) → QR .normal ac1 wz) : (regAt Try.f8 10).wp Try.prog QR ac0 wb := by
  refine wp_region_sq (by kernel_rfl) 143 hz (by kernel_rfl) (fun (xx : Unit) jx => nth [.int .i64 i, .int .i64 (i + 1), .int .i64 (i + 1)] jx) (fun (LL : Nat → Bool) (xx : Unit) ww => Hp [] wa ww [rS a23_6 c23_6 2 ((withV (kR n) x.key x.val l).1.map rowOf), rB b10 43 [.int .i64 (kR n), .slice a22_5 ((withV (kR n) x.key x.val l).1.length) c22_5], rS a22_5 c22_5 2 ((withV (kR n) x.key x.val l).1.map rowOf), rB b9 67 [.int .i64 x.kind, .string x.key, .int .i64 x.val], rS la lc 2 (l.map rowOf), rB b5 43 [.int .i64 (kR n), .slice a22_5 ((withV (kR n) x.key x.val l).1.length) c22_5], rS a cc 2 (l.map rowOf), rS (some y) rc 3 (acts.map actRow)]) () H.out ?_ (steps_al ?_) ?_ ?_
  · exact fun _ _ _ _ _ h => h
  · refine al_cons ?_ (al_cons ?_ (al_cons ?_ (al_nil)))
    · intro LL xx ac wc sg hst hwant QQ hgo
      exact op_val hwant hgo hst _ (exec_move rfl ((sg.yet 8 2 (sg.des 2 rfl) (by kernel_rfl)).trans so8)) rfl
    · intro LL xx ac wc sg hst hwant QQ hgo
      have se40 : ac.eval (.tmp 40) = _ := (sg.slot 0 (sg.anc 0 rfl))
      have sg40 := gt_of se40
      (try simp only [nth] at se40 sg40)
      have hnw : IntKind.i64.wrap (i + 1 : Int) = i + 1 := IntWalk.i64_in _ (by omega)
      exact op_val hwant hgo hst _ (by simp only [execOp, nth]; go_simp <;> omega) rfl
    · intro LL xx ac wc sg hst hwant QQ hgo
      exact op_val hwant hgo hst _ (exec_assign rfl (sg.slot 1 (sg.anc 1 rfl))) rfl
  · exact skips [] (by kernel_rfl) (fun _ h => by cases h)
  · intro xx ac1 wz hfr hsl hst
    exact hfin ac1 wz (hfr.size.trans hz) hfr.defers (fr_keep hfr [8, 40, 41] (by kernel_rfl)) (hsl 2 (by decide)) (Lib.hid hst)
set_option maxRecDepth 20000 in
theorem exact6_w_r28x1 (n : Int) (rc : Nat) (acts : List ActV) (b5 : Nat) (i : Nat) (a : Option Addr) (cc : Nat) (la : Option Addr) (lc : Nat) (l : List PairV) (hi : i ≤ acts.length) (hi2 : i ≤ 100) (hll : l.length ≤ i) (z1ld : i < acts.length) (z1rd : (i : Int) < 100) (y : Addr) (x : ActV) (b9 : Nat) (z2d : ¬ (10 < (x.key.size : Int))) {wa wb : World} (H : Hid (Hp [] wa wb [rB b9 67 [.int .i64 x.kind, .string x.key, .int .i64 x.val], rS la lc 2 (l.map rowOf), rB b5 43 [.int .i64 (kR n), .slice a l.length cc], rS a cc 2 (l.map rowOf), rS (some y) rc 3 (acts.map actRow)])) (ac0 : Act) (hz : ac0.tmps.size = 143) (so51 : ac0.eval (.tmp 51) = .int .i64 x.kind) {QR : Exit → Act → World → Prop} (hfin : ∀ (ac1 : Act) (wz : World), ac1.tmps.size = 143 → ac1.defers = ac0.defers → (∀ t, ([102, 103] : List Nat).contains t = false → ac1.eval (.tmp t) = ac0.eval (.tmp t)) → ac1.eval (.tmp 102) = .bool (x.kind == 4) →  Hid (Hp [] wa wz [rB b9 67 [.int .i64 x.kind, .string x.key, .int .i64 x.val], rS la lc 2 (l.map rowOf), rB b5 43 [.int .i64 (kR n), .slice a l.length cc], rS a cc 2 (l.map rowOf), rS (some y) rc 3 (acts.map actRow)]) → QR .normal ac1 wz) : (regAt Try.f8 28).wp Try.prog QR ac0 wb := by
  refine wp_region_sq (by kernel_rfl) 143 hz (by kernel_rfl) (fun (xx : Unit) jx => nth [.bool (x.kind == 4), .bool (x.kind == 4)] jx) (fun (LL : Nat → Bool) (xx : Unit) ww => Hp [] wa ww [rB b9 67 [.int .i64 x.kind, .string x.key, .int .i64 x.val], rS la lc 2 (l.map rowOf), rB b5 43 [.int .i64 (kR n), .slice a l.length cc], rS a cc 2 (l.map rowOf), rS (some y) rc 3 (acts.map actRow)]) () H.out ?_ (steps_al ?_) ?_ ?_
  · exact fun _ _ _ _ _ h => h
  · refine al_cons ?_ (al_cons ?_ (al_nil))
    · intro LL xx ac wc sg hst hwant QQ hgo
      have se51 : ac.eval (.tmp 51) = _ := ((sg.free 51 (by kernel_rfl)).trans so51)
      have sg51 := gt_of se51
      exact op_val hwant hgo hst _ (by simp only [execOp, nth]; go_simp <;> omega) rfl
    · intro LL xx ac wc sg hst hwant QQ hgo
      exact op_val hwant hgo hst _ (exec_assign rfl (sg.slot 0 (sg.anc 0 rfl))) rfl
  · exact skips [] (by kernel_rfl) (fun _ h => by cases h)
  · intro xx ac1 wz hfr hsl hst
    exact hfin ac1 wz (hfr.size.trans hz) hfr.defers (fr_keep hfr [102, 103] (by kernel_rfl)) (hsl 1 (by decide)) (Lib.hid hst)
set_option maxRecDepth 20000 in
theorem exact6_w_r29x1 (n : Int) (rc : Nat) (acts : List ActV) (b5 : Nat) (i : Nat) (a : Option Addr) (cc : Nat) (la : Option Addr) (lc : Nat) (l : List PairV) (hi : i ≤ acts.length) (hi2 : i ≤ 100) (hll : l.length ≤ i) (hs : Hid (Sorted l)) (z1ld : i < acts.length) (z1rd : (i : Int) < 100) (y : Addr) (x : ActV) (b9 : Nat) (z2d : ¬ (10 < (x.key.size : Int))) {wa wb : World} (H : Hid (Hp [] wa wb [rB b9 67 [.int .i64 x.kind, .string x.key, .int .i64 x.val], rS la lc 2 (l.map rowOf), rB b5 43 [.int .i64 (kR n), .slice a l.length cc], rS a cc 2 (l.map rowOf), rS (some y) rc 3 (acts.map actRow)])) (ac0 : Act) (hz : ac0.tmps.size = 143) (so5 : ac0.eval (.tmp 5) = .pointer (some ⟨b5, 0, none⟩)) (so9 : ac0.eval (.tmp 9) = .pointer (some ⟨b9, 0, none⟩)) {QR : Exit → Act → World → Prop} (hfin : ∀ (a29_3 : Option Addr) (c29_3 : Nat) (ac1 : Act) (wz : World), ac1.tmps.size = 143 → ac1.defers = ac0.defers → (∀ t, ([104, 105, 106, 107] : List Nat).contains t = false → ac1.eval (.tmp t) = ac0.eval (.tmp t)) →  Hid (Hp [] wa wz [rS a29_3 c29_3 2 ((l.filter (keepN x.key)).map rowOf), rB b9 67 [.int .i64 x.kind, .string x.key, .int .i64 x.val], rS la lc 2 (l.map rowOf), rB b5 43 [.int .i64 (kR n), .slice a29_3 ((l.filter (keepN x.key)).length) c29_3], rS a cc 2 (l.map rowOf), rS (some y) rc 3 (acts.map actRow)]) → QR .normal ac1 wz) : (regAt Try.f8 29).wp Try.prog QR ac0 wb := by
  refine wp_region_sq (by kernel_rfl) 143 hz (by kernel_rfl) (fun (xx : Option Addr × Nat) jx => match xx with | (a29_3, c29_3) => nth [.agg #[.int .i64 (kR n), .slice a l.length cc], .pointer (some ⟨b9, 1, none⟩), .string x.key, .agg #[.int .i64 (kR n), .slice a29_3 ((l.filter (keepN x.key)).length) c29_3], undef] jx) (fun (LL : Nat → Bool) (xx : Option Addr × Nat) ww => match xx with | (a29_3, c29_3) => Hp [] wa ww (bif LL 4 then [rS a29_3 c29_3 2 ((l.filter (keepN x.key)).map rowOf), rB b9 67 [.int .i64 x.kind, .string x.key, .int .i64 x.val], rS la lc 2 (l.map rowOf), rB b5 43 [.int .i64 (kR n), .slice a29_3 ((l.filter (keepN x.key)).length) c29_3], rS a cc 2 (l.map rowOf), rS (some y) rc 3 (acts.map actRow)] else (bif LL 3 then [rS a29_3 c29_3 2 ((l.filter (keepN x.key)).map rowOf), rB b9 67 [.int .i64 x.kind, .string x.key, .int .i64 x.val], rS la lc 2 (l.map rowOf), rB b5 43 [.int .i64 (kR n), .slice a l.length cc], rS a cc 2 (l.map rowOf), rS (some y) rc 3 (acts.map actRow)] else [rB b9 67 [.int .i64 x.kind, .string x.key, .int .i64 x.val], rS la lc 2 (l.map rowOf), rB b5 43 [.int .i64 (kR n), .slice a l.length cc], rS a cc 2 (l.map rowOf), rS (some y) rc 3 (acts.map actRow)]))) (default, default) H.out ?_ (steps_al ?_) ?_ ?_
  · intro L1 L2 xx ww hL sg
    have lh3 := hL 3 (by decide)
    have lh4 := hL 4 (by decide)
    simp only [lh3, lh4] at sg
    exact sg
  · refine al_cons ?_ (al_cons ?_ (al_cons ?_ (al_cons ?_ (al_cons ?_ (al_nil)))))
    · intro LL xx ac wc sg hst hwant QQ hgo
      obtain ⟨a29_3, c29_3⟩ := xx
      have H := Lib.hid hst
      simp only [sg.des 3 rfl, sg.des 4 rfl, cond_true, cond_false] at H
      refine hpA_load tyshelf_Shelf_string__int_ H rfl ((sg.free 5 (by kernel_rfl)).trans so5) hwant (by (repeat (first | exact List.Mem.head _ | apply List.Mem.tail))) (by rfl) rfl ?_
      exact hgo _ (a29_3, c29_3) _ (fun _ _ => rfl) rfl hst
    · intro LL xx ac wc sg hst hwant QQ hgo
      obtain ⟨a29_3, c29_3⟩ := xx
      have se9 : ac.eval (.tmp 9) = _ := ((sg.free 9 (by kernel_rfl)).trans so9)
      have sg9 := gt_of se9
      exact op_val hwant hgo hst _ (by simp only [execOp, nth]; go_simp <;> omega) rfl
    · intro LL xx ac wc sg hst hwant QQ hgo
      obtain ⟨a29_3, c29_3⟩ := xx
      have H := Lib.hid hst
      simp only [sg.des 3 rfl, sg.des 4 rfl, cond_true, cond_false] at H
      refine hpA_load1 tystring H rfl (sg.slot 1 (sg.anc 1 rfl)) hwant (by (repeat (first | exact List.Mem.head _ | apply List.Mem.tail))) (by rfl) ?_
      exact hgo _ (a29_3, c29_3) _ (fun _ _ => rfl) rfl hst
    · intro LL xx ac wc sg hst hwant QQ hgo
      obtain ⟨_, _⟩ := xx
      have se104 : ac.eval (.tmp 104) = _ := (sg.slot 0 (sg.anc 0 rfl))
      have sg104 := gt_of se104
      have se106 : ac.eval (.tmp 106) = _ := (sg.slot 2 (sg.anc 2 rfl))
      have sg106 := gt_of se106
      (try simp only [nth] at se104 sg104 se106 sg106)
      have H := Lib.hid hst
      simp only [sg.self, sg.des 4 rfl, cond_true, cond_false] at H
      refine op_call hwant hgo 37 _ (by simp only [execOp]; go_simp) (sWithout (kR n) a cc l x.key wc (hp_held H (show rS a cc 2 (l.map rowOf) ∈ _ by (repeat (first | exact List.Mem.head _ | apply List.Mem.tail)))) hs.out (by omega)) ?_
      rintro er wd ⟨a29_3, c29_3, rfl, hgv⟩
      have H2 := hp_got H hgv.2.2 hgv.1 (by decide) hgv.2.1 (by simp)
      exact ⟨_, (a29_3, c29_3), rfl, (sg.agree (x' := (a29_3, c29_3)) (n := 5) rfl (by (iterate 5 (refine ix_cons (by first | exact fun _ => rfl | exact no sg.self | exact no (sg.des _ rfl)) ?_)); exact ix_nil)), rfl, (by simp only [(show upd LL 3 3 = true from rfl), (show upd LL 3 4 = LL 4 from rfl), sg.des 4 rfl, cond_true, cond_false]; exact H2.out)⟩
    · intro LL xx ac wc sg hst hwant QQ hgo
      obtain ⟨a29_3, c29_3⟩ := xx
      have H := Lib.hid hst
      simp only [sg.anc 3 rfl, sg.self, cond_true, cond_false] at H
      refine hpA_store tyshelf_Shelf_string__int_ H rfl rfl ((sg.free 5 (by kernel_rfl)).trans so5) (sg.slot 3 (sg.anc 3 rfl)) rfl (by repeat (first | apply Put.head | apply Put.tail)) (by simp [List.length_cons]) (by simp [List.length_cons, Value.oneCell']) (by first | rfl | (simp only [spl]; rfl)) rfl ?_
      intro wd H2
      exact hgo _ (a29_3, c29_3) _ (sg.agree (x' := (a29_3, c29_3)) (n := 5) rfl (by (iterate 5 (refine ix_cons (by first | exact fun _ => rfl | exact no sg.self | exact no (sg.des _ rfl)) ?_)); exact ix_nil)) rfl (by simp only [(show upd LL 4 3 = LL 3 from rfl), sg.anc 3 rfl, (show upd LL 4 4 = true from rfl), cond_true, cond_false]; exact H2.out)
  · exact skips [] (by kernel_rfl) (fun _ h => by cases h)
  · intro xx ac1 wz hfr hsl hst
    obtain ⟨a29_3, c29_3⟩ := xx
    exact hfin a29_3 c29_3 ac1 wz (hfr.size.trans hz) hfr.defers (fr_keep hfr [104, 105, 106, 107] (by kernel_rfl)) (Lib.hid hst)
set_option maxRecDepth 20000 in
theorem exact6_w_r30x1 (n : Int) (rc : Nat) (acts : List ActV) (b5 : Nat) (i : Nat) (a : Option Addr) (cc : Nat) (la : Option Addr) (lc : Nat) (l : List PairV) (hi : i ≤ acts.length) (hi2 : i ≤ 100) (hll : l.length ≤ i) (z1ld : i < acts.length) (z1rd : (i : Int) < 100) (y : Addr) (x : ActV) (b9 : Nat) (z2d : ¬ (10 < (x.key.size : Int))) (a29_3 : Option Addr) (c29_3 : Nat) {wa wb : World} (H : Hid (Hp [] wa wb [rS a29_3 c29_3 2 ((l.filter (keepN x.key)).map rowOf), rB b9 67 [.int .i64 x.kind, .string x.key, .int .i64 x.val], rS la lc 2 (l.map rowOf), rB b5 43 [.int .i64 (kR n), .slice a29_3 ((l.filter (keepN x.key)).length) c29_3], rS a cc 2 (l.map rowOf), rS (some y) rc 3 (acts.map actRow)])) (ac0 : Act) (hz : ac0.tmps.size = 143) (so7 : ac0.eval (.tmp 7) = .slice la l.length lc) (so9 : ac0.eval (.tmp 9) = .pointer (some ⟨b9, 0, none⟩)) {QR : Exit → Act → World → Prop} (hfin : ∀ (a30_3 : Option Addr) (c30_3 : Nat) (ac1 : Act) (wz : World), ac1.tmps.size = 143 → ac1.defers = ac0.defers → (∀ t, ([7, 108, 109, 110, 111] : List Nat).contains t = false → ac1.eval (.tmp t) = ac0.eval (.tmp t)) → ac1.eval (.tmp 7) = .slice a30_3 ((l.filter (keepN x.key)).length) c30_3 →  Hid (Hp [] wa wz [rS a30_3 c30_3 2 ((l.filter (keepN x.key)).map rowOf), rS a29_3 c29_3 2 ((l.filter (keepN x.key)).map rowOf), rB b9 67 [.int .i64 x.kind, .string x.key, .int .i64 x.val], rS la lc 2 (l.map rowOf), rB b5 43 [.int .i64 (kR n), .slice a29_3 ((l.filter (keepN x.key)).length) c29_3], rS a cc 2 (l.map rowOf), rS (some y) rc 3 (acts.map actRow)]) → QR .normal ac1 wz) : (regAt Try.f8 30).wp Try.prog QR ac0 wb := by
  refine wp_region_sq (by kernel_rfl) 143 hz (by kernel_rfl) (fun (xx : Option Addr × Nat) jx => match xx with | (a30_3, c30_3) => nth [.slice la l.length lc, .pointer (some ⟨b9, 1, none⟩), .string x.key, .slice a30_3 ((l.filter (keepN x.key)).length) c30_3, .slice a30_3 ((l.filter (keepN x.key)).length) c30_3] jx) (fun (LL : Nat → Bool) (xx : Option Addr × Nat) ww => match xx with | (a30_3, c30_3) => Hp [] wa ww (bif LL 3 then [rS a30_3 c30_3 2 ((l.filter (keepN x.key)).map rowOf), rS a29_3 c29_3 2 ((l.filter (keepN x.key)).map rowOf), rB b9 67 [.int .i64 x.kind, .string x.key, .int .i64 x.val], rS la lc 2 (l.map rowOf), rB b5 43 [.int .i64 (kR n), .slice a29_3 ((l.filter (keepN x.key)).length) c29_3], rS a cc 2 (l.map rowOf), rS (some y) rc 3 (acts.map actRow)] else [rS a29_3 c29_3 2 ((l.filter (keepN x.key)).map rowOf), rB b9 67 [.int .i64 x.kind, .string x.key, .int .i64 x.val], rS la lc 2 (l.map rowOf), rB b5 43 [.int .i64 (kR n), .slice a29_3 ((l.filter (keepN x.key)).length) c29_3], rS a cc 2 (l.map rowOf), rS (some y) rc 3 (acts.map actRow)])) (default, default) H.out ?_ (steps_al ?_) ?_ ?_
  · intro L1 L2 xx ww hL sg
    have lh3 := hL 3 (by decide)
    simp only [lh3] at sg
    exact sg
  · refine al_cons ?_ (al_cons ?_ (al_cons ?_ (al_cons ?_ (al_cons ?_ (al_nil)))))
    · intro LL xx ac wc sg hst hwant QQ hgo
      obtain ⟨a30_3, c30_3⟩ := xx
      exact op_val hwant hgo hst _ (exec_move rfl ((sg.yet 7 4 (sg.des 4 rfl) (by kernel_rfl)).trans so7)) rfl
    · intro LL xx ac wc sg hst hwant QQ hgo
      obtain ⟨a30_3, c30_3⟩ := xx
      have se9 : ac.eval (.tmp 9) = _ := ((sg.free 9 (by kernel_rfl)).trans so9)
      have sg9 := gt_of se9
      exact op_val hwant hgo hst _ (by simp only [execOp, nth]; go_simp <;> omega) rfl
    · intro LL xx ac wc sg hst hwant QQ hgo
      obtain ⟨a30_3, c30_3⟩ := xx
      have H := Lib.hid hst
      simp only [sg.des 3 rfl, cond_true, cond_false] at H
      refine hpA_load1 tystring H rfl (sg.slot 1 (sg.anc 1 rfl)) hwant (by (repeat (first | exact List.Mem.head _ | apply List.Mem.tail))) (by rfl) ?_
      exact hgo _ (a30_3, c30_3) _ (fun _ _ => rfl) rfl hst
    · intro LL xx ac wc sg hst hwant QQ hgo
      obtain ⟨_, _⟩ := xx
      have se108 : ac.eval (.tmp 108) = _ := (sg.slot 0 (sg.anc 0 rfl))
      have sg108 := gt_of se108
      have se110 : ac.eval (.tmp 110) = _ := (sg.slot 2 (sg.anc 2 rfl))
      have sg110 := gt_of se110
      (try simp only [nth] at se108 sg108 se110 sg110)
      have H := Lib.hid hst
      simp only [sg.self, cond_true, cond_false] at H
      refine op_call hwant hgo 39 _ (by simp only [execOp]; go_simp) (withoutRS la lc l x.key wc (hp_held H (show rS la lc 2 (l.map rowOf) ∈ _ by (repeat (first | exact List.Mem.head _ | apply List.Mem.tail)))) (by omega)) ?_
      rintro er wd ⟨a30_3, c30_3, rfl, hgv⟩
      have H2 := hp_got H hgv.2.2 hgv.1 (by decide) hgv.2.1 (by simp)
      exact ⟨_, (a30_3, c30_3), rfl, (sg.agree (x' := (a30_3, c30_3)) (n := 5) rfl (by (iterate 5 (refine ix_cons (by first | exact fun _ => rfl | exact no sg.self | exact no (sg.des _ rfl)) ?_)); exact ix_nil)), rfl, (by simp only [(show upd LL 3 3 = true from rfl), cond_true, cond_false]; exact H2.out)⟩
    · intro LL xx ac wc sg hst hwant QQ hgo
      obtain ⟨a30_3, c30_3⟩ := xx
      exact op_val hwant hgo hst _ (exec_assign rfl (sg.slot 3 (sg.anc 3 rfl))) rfl
  · exact skips [] (by kernel_rfl) (fun _ h => by cases h)
  · intro xx ac1 wz hfr hsl hst
    obtain ⟨a30_3, c30_3⟩ := xx
    exact hfin a30_3 c30_3 ac1 wz (hfr.size.trans hz) hfr.defers (fr_keep hfr [7, 108, 109, 110, 111] (by kernel_rfl)) (hsl 4 (by decide)) (Lib.hid hst)
set_option maxRecDepth 20000 in
theorem exact6_w_r35x7 (n : Int) (rc : Nat) (acts : List ActV) (b5 : Nat) (i : Nat) (a : Option Addr) (cc : Nat) (la : Option Addr) (lc : Nat) (l : List PairV) (hi : i ≤ acts.length) (hi2 : i ≤ 100) (hll : l.length ≤ i) (z1ld : i < acts.length) (z1rd : (i : Int) < 100) (y : Addr) (x : ActV) (b9 : Nat) (z2d : ¬ (10 < (x.key.size : Int))) (a29_3 : Option Addr) (c29_3 : Nat) (a30_3 : Option Addr) (c30_3 : Nat) {wa wb : World} (H : Hid (Hp [] wa wb [rS a30_3 c30_3 2 ((l.filter (keepN x.key)).map rowOf), rS a29_3 c29_3 2 ((l.filter (keepN x.key)).map rowOf), rB b9 67 [.int .i64 x.kind, .string x.key, .int .i64 x.val], rS la lc 2 (l.map rowOf), rB b5 43 [.int .i64 (kR n), .slice a29_3 ((l.filter (keepN x.key)).length) c29_3], rS a cc 2 (l.map rowOf), rS (some y) rc 3 (acts.map actRow)])) (ac0 : Act) (hz : ac0.tmps.size = 143) (so5 : ac0.eval (.tmp 5) = .pointer (some ⟨b5, 0, none⟩)) (so6 : ac0.eval (.tmp 6) = .int .i64 (kR n)) (so7 : ac0.eval (.tmp 7) = .slice a30_3 ((l.filter (keepN x.key)).length) c30_3) {QR : Exit → Act → World → Prop} (hfin : ∀ (ac1 : Act) (wz : World), ac1.tmps.size = 143 → ac1.defers = ac0.defers → (∀ t, ([128, 129, 130, 131, 132, 133, 134, 135, 136, 137] : List Nat).contains t = false → ac1.eval (.tmp t) = ac0.eval (.tmp t)) → ac1.eval (.tmp 137) = .bool false →  Hid (Hp [] wa wz [rS a30_3 c30_3 2 ((l.filter (keepN x.key)).map rowOf), rS a29_3 c29_3 2 ((l.filter (keepN x.key)).map rowOf), rB b9 67 [.int .i64 x.kind, .string x.key, .int .i64 x.val], rS la lc 2 (l.map rowOf), rB b5 43 [.int .i64 (kR n), .slice a29_3 ((l.filter (keepN x.key)).length) c29_3], rS a cc 2 (l.map rowOf), rS (some y) rc 3 (acts.map actRow)]) → QR .normal ac1 wz) : (regAt Try.f8 35).wp Try.prog QR ac0 wb := by
  refine wp_region_sq (by kernel_rfl) 143 hz (by kernel_rfl) (fun (xx : Unit) jx => nth [.agg #[.int .i64 (kR n), .slice a29_3 ((l.filter (keepN x.key)).length) c29_3], .slice a30_3 ((l.filter (keepN x.key)).length) c30_3, .bool true, .bool false, .bool false, .agg #[.int .i64 (kR n), .slice a29_3 ((l.filter (keepN x.key)).length) c29_3], .int .i64 (kR n), .int .i64 (kR n), .bool false, .bool false] jx) (fun (LL : Nat → Bool) (xx : Unit) ww => Hp [] wa ww [rS a30_3 c30_3 2 ((l.filter (keepN x.key)).map rowOf), rS a29_3 c29_3 2 ((l.filter (keepN x.key)).map rowOf), rB b9 67 [.int .i64 x.kind, .string x.key, .int .i64 x.val], rS la lc 2 (l.map rowOf), rB b5 43 [.int .i64 (kR n), .slice a29_3 ((l.filter (keepN x.key)).length) c29_3], rS a cc 2 (l.map rowOf), rS (some y) rc 3 (acts.map actRow)]) () H.out ?_ (steps_al ?_) ?_ ?_
  · exact fun _ _ _ _ _ h => h
  · refine al_cons ?_ (al_cons ?_ (al_cons ?_ (al_cons ?_ (al_cons ?_ (al_cons ?_ (al_cons ?_ (al_cons ?_ (al_cons ?_ (al_cons ?_ (al_nil))))))))))
    · intro LL xx ac wc sg hst hwant QQ hgo
      have H := Lib.hid hst
      refine hpA_load tyshelf_Shelf_string__int_ H rfl ((sg.free 5 (by kernel_rfl)).trans so5) hwant (by (repeat (first | exact List.Mem.head _ | apply List.Mem.tail))) (by rfl) rfl ?_
      exact hgo _ () _ (fun _ _ => rfl) rfl hst
    · intro LL xx ac wc sg hst hwant QQ hgo
      exact op_val hwant hgo hst _ (exec_move rfl ((sg.free 7 (by kernel_rfl)).trans so7)) rfl
    · intro LL xx ac wc sg hst hwant QQ hgo
      have se128 : ac.eval (.tmp 128) = _ := (sg.slot 0 (sg.anc 0 rfl))
      have sg128 := gt_of se128
      have se129 : ac.eval (.tmp 129) = _ := (sg.slot 1 (sg.anc 1 rfl))
      have sg129 := gt_of se129
      (try simp only [nth] at se128 sg128 se129 sg129)
      have H := Lib.hid hst
      refine op_call hwant hgo 42 _ (by simp only [execOp]; go_simp) (alikeC (kR n) a29_3 c29_3 a30_3 c30_3 (l.filter (keepN x.key)) wc (hp_held H (show rS a29_3 c29_3 2 ((l.filter (keepN x.key)).map rowOf) ∈ _ by (repeat (first | exact List.Mem.head _ | apply List.Mem.tail)))) (hp_held H (show rS a30_3 c30_3 2 ((l.filter (keepN x.key)).map rowOf) ∈ _ by (repeat (first | exact List.Mem.head _ | apply List.Mem.tail)))) (Nat.le_trans (List.length_filter_le _ _) (by omega))) ?_
      rintro er wd ⟨rfl, hof⟩
      exact ⟨_, (), rfl, fun _ _ => rfl, rfl, Hp.quiet hst hof⟩
    · intro LL xx ac wc sg hst hwant QQ hgo
      have se130 : ac.eval (.tmp 130) = _ := (sg.slot 2 (sg.anc 2 rfl))
      have sg130 := gt_of se130
      (try simp only [nth] at se130 sg130)
      exact op_val hwant hgo hst _ (by simp only [execOp, nth]; go_simp <;> omega) rfl
    · intro LL xx ac wc sg hst hwant QQ hgo
      exact op_val hwant hgo hst _ (exec_move rfl (sg.slot 3 (sg.anc 3 rfl))) rfl
    · intro LL xx ac wc sg hst hwant QQ hgo
      have H := Lib.hid hst
      refine hpA_load tyshelf_Shelf_string__int_ H rfl ((sg.free 5 (by kernel_rfl)).trans so5) hwant (by (repeat (first | exact List.Mem.head _ | apply List.Mem.tail))) (by rfl) rfl ?_
      exact hgo _ () _ (fun _ _ => rfl) rfl hst
    · intro LL xx ac wc sg hst hwant QQ hgo
      have se133 : ac.eval (.tmp 133) = _ := (sg.slot 5 (sg.anc 5 rfl))
      have sg133 := gt_of se133
      (try simp only [nth] at se133 sg133)
      refine op_call hwant hgo 43 _ (by simp only [execOp]; go_simp) (roomC (kR n) (.slice a29_3 ((l.filter (keepN x.key)).length) c29_3) wc) ?_
      rintro er wd ⟨rfl, hof⟩
      exact ⟨_, (), rfl, fun _ _ => rfl, rfl, Hp.quiet hst hof⟩
    · intro LL xx ac wc sg hst hwant QQ hgo
      exact op_val hwant hgo hst _ (exec_move rfl ((sg.free 6 (by kernel_rfl)).trans so6)) rfl
    · intro LL xx ac wc sg hst hwant QQ hgo
      have se134 : ac.eval (.tmp 134) = _ := (sg.slot 6 (sg.anc 6 rfl))
      have sg134 := gt_of se134
      have se135 : ac.eval (.tmp 135) = _ := (sg.slot 7 (sg.anc 7 rfl))
      have sg135 := gt_of se135
      (try simp only [nth] at se134 sg134 se135 sg135)
      exact op_val hwant hgo hst _ (by simp only [execOp, nth]; go_simp <;> omega) rfl
    · intro LL xx ac wc sg hst hwant QQ hgo
      exact op_val hwant hgo hst (.bool false) (exec_pick (B := false) (U := undef) (V := .bool false) rfl (sg.slot 4 (sg.anc 4 rfl)) (fun h => by cases h) (fun _ => (sg.slot 8 (sg.anc 8 rfl)))) rfl
  · refine skips [5, 6, 7, 8] (by kernel_rfl) ?_
    refine List.forall_mem_cons.2 ⟨?_, List.forall_mem_cons.2 ⟨?_, List.forall_mem_cons.2 ⟨?_, List.forall_mem_cons.2 ⟨?_, fun _ h => by cases h⟩⟩⟩⟩
    · intro oo hop LL xx ac sg hwant
      cases Option.some.inj hop
      exact absurd ((want_f rfl rfl (sg.slot 4 (sg.anc 4 rfl))).symm.trans hwant) (by decide)
    · intro oo hop LL xx ac sg hwant
      cases Option.some.inj hop
      exact absurd ((want_f rfl rfl (sg.slot 4 (sg.anc 4 rfl))).symm.trans hwant) (by decide)
    · intro oo hop LL xx ac sg hwant
      cases Option.some.inj hop
      exact absurd ((want_f rfl rfl (sg.slot 4 (sg.anc 4 rfl))).symm.trans hwant) (by decide)
    · intro oo hop LL xx ac sg hwant
      cases Option.some.inj hop
      exact absurd ((want_f rfl rfl (sg.slot 4 (sg.anc 4 rfl))).symm.trans hwant) (by decide)
  · intro xx ac1 wz hfr hsl hst
    exact hfin ac1 wz (hfr.size.trans hz) hfr.defers (fr_keep hfr [128, 129, 130, 131, 132, 133, 134, 135, 136, 137] (by kernel_rfl)) (hsl 9 (by decide)) (Lib.hid hst)
set_option maxRecDepth 20000 in
theorem exact6_w_r10x7 (n : Int) (rc : Nat) (acts : List ActV) (b5 : Nat) (i : Nat) (a : Option Addr) (cc : Nat) (la : Option Addr) (lc : Nat) (l : List PairV) (hi : i ≤ acts.length) (hi2 : i ≤ 100) (hll : l.length ≤ i) (z1ld : i < acts.length) (z1rd : (i : Int) < 100) (y : Addr) (x : ActV) (b9 : Nat) (z2d : ¬ (10 < (x.key.size : Int))) (a29_3 : Option Addr) (c29_3 : Nat) (a30_3 : Option Addr) (c30_3 : Nat) {wa wb : World} (H : Hid (Hp [] wa wb [rS a30_3 c30_3 2 ((l.filter (keepN x.key)).map rowOf), rS a29_3 c29_3 2 ((l.filter (keepN x.key)).map rowOf), rB b9 67 [.int .i64 x.kind, .string x.key, .int .i64 x.val], rS la lc 2 (l.map rowOf), rB b5 43 [.int .i64 (kR n), .slice a29_3 ((l.filter (keepN x.key)).length) c29_3], rS a cc 2 (l.map rowOf), rS (some y) rc 3 (acts.map actRow)])) (ac0 : Act) (hz : ac0.tmps.size = 143) (so8 : ac0.eval (.tmp 8) = .int .i64 i) {QR : Exit → Act → World → Prop} (hfin : ∀ (ac1 : Act) (wz : World), ac1.tmps.size = 143 → ac1.defers = ac0.defers → (∀ t, ([8, 40, 41] : List Nat).contains t = false → ac1.eval (.tmp t) = ac0.eval (.tmp t)) → ac1.eval (.tmp 8) = .int .i64 (i + 1) →  Hid (Hp [] wa wz [rS a30_3 c30_3 2 ((l.filter (keepN x.key)).map rowOf), rS a29_3 c29_3 2 ((l.filter (keepN x.key)).map rowOf), rB b9 67 [.int .i64 x.kind, .string x.key, .int .i64 x.val], rS la lc 2 (l.map rowOf), rB b5 43 [.int .i64 (kR n), .slice a29_3 ((l.filter (keepN x.key)).length) c29_3], rS a cc 2 (l.map rowOf), rS (some y) rc 3 (acts.map actRow)]) → QR .normal ac1 wz) : (regAt Try.f8 10).wp Try.prog QR ac0 wb := by
  refine wp_region_sq (by kernel_rfl) 143 hz (by kernel_rfl) (fun (xx : Unit) jx => nth [.int .i64 i, .int .i64 (i + 1), .int .i64 (i + 1)] jx) (fun (LL : Nat → Bool) (xx : Unit) ww => Hp [] wa ww [rS a30_3 c30_3 2 ((l.filter (keepN x.key)).map rowOf), rS a29_3 c29_3 2 ((l.filter (keepN x.key)).map rowOf), rB b9 67 [.int .i64 x.kind, .string x.key, .int .i64 x.val], rS la lc 2 (l.map rowOf), rB b5 43 [.int .i64 (kR n), .slice a29_3 ((l.filter (keepN x.key)).length) c29_3], rS a cc 2 (l.map rowOf), rS (some y) rc 3 (acts.map actRow)]) () H.out ?_ (steps_al ?_) ?_ ?_
  · exact fun _ _ _ _ _ h => h
  · refine al_cons ?_ (al_cons ?_ (al_cons ?_ (al_nil)))
    · intro LL xx ac wc sg hst hwant QQ hgo
      exact op_val hwant hgo hst _ (exec_move rfl ((sg.yet 8 2 (sg.des 2 rfl) (by kernel_rfl)).trans so8)) rfl
    · intro LL xx ac wc sg hst hwant QQ hgo
      have se40 : ac.eval (.tmp 40) = _ := (sg.slot 0 (sg.anc 0 rfl))
      have sg40 := gt_of se40
      (try simp only [nth] at se40 sg40)
      have hnw : IntKind.i64.wrap (i + 1 : Int) = i + 1 := IntWalk.i64_in _ (by omega)
      exact op_val hwant hgo hst _ (by simp only [execOp, nth]; go_simp <;> omega) rfl
    · intro LL xx ac wc sg hst hwant QQ hgo
      exact op_val hwant hgo hst _ (exec_assign rfl (sg.slot 1 (sg.anc 1 rfl))) rfl
  · exact skips [] (by kernel_rfl) (fun _ h => by cases h)
  · intro xx ac1 wz hfr hsl hst
    exact hfin ac1 wz (hfr.size.trans hz) hfr.defers (fr_keep hfr [8, 40, 41] (by kernel_rfl)) (hsl 2 (by decide)) (Lib.hid hst)
set_option maxRecDepth 20000 in
theorem exact6_w_r31x1 (n : Int) (rc : Nat) (acts : List ActV) (b5 : Nat) (i : Nat) (a : Option Addr) (cc : Nat) (la : Option Addr) (lc : Nat) (l : List PairV) (hi : i ≤ acts.length) (hi2 : i ≤ 100) (hll : l.length ≤ i) (z1ld : i < acts.length) (z1rd : (i : Int) < 100) (y : Addr) (x : ActV) (b9 : Nat) (z2d : ¬ (10 < (x.key.size : Int))) {wa wb : World} (H : Hid (Hp [] wa wb [rB b9 67 [.int .i64 x.kind, .string x.key, .int .i64 x.val], rS la lc 2 (l.map rowOf), rB b5 43 [.int .i64 (kR n), .slice a l.length cc], rS a cc 2 (l.map rowOf), rS (some y) rc 3 (acts.map actRow)])) (ac0 : Act) (hz : ac0.tmps.size = 143) (so51 : ac0.eval (.tmp 51) = .int .i64 x.kind) {QR : Exit → Act → World → Prop} (hfin : ∀ (ac1 : Act) (wz : World), ac1.tmps.size = 143 → ac1.defers = ac0.defers → (∀ t, ([112, 113] : List Nat).contains t = false → ac1.eval (.tmp t) = ac0.eval (.tmp t)) → ac1.eval (.tmp 112) = .bool (x.kind == 5) →  Hid (Hp [] wa wz [rB b9 67 [.int .i64 x.kind, .string x.key, .int .i64 x.val], rS la lc 2 (l.map rowOf), rB b5 43 [.int .i64 (kR n), .slice a l.length cc], rS a cc 2 (l.map rowOf), rS (some y) rc 3 (acts.map actRow)]) → QR .normal ac1 wz) : (regAt Try.f8 31).wp Try.prog QR ac0 wb := by
  refine wp_region_sq (by kernel_rfl) 143 hz (by kernel_rfl) (fun (xx : Unit) jx => nth [.bool (x.kind == 5), .bool (x.kind == 5)] jx) (fun (LL : Nat → Bool) (xx : Unit) ww => Hp [] wa ww [rB b9 67 [.int .i64 x.kind, .string x.key, .int .i64 x.val], rS la lc 2 (l.map rowOf), rB b5 43 [.int .i64 (kR n), .slice a l.length cc], rS a cc 2 (l.map rowOf), rS (some y) rc 3 (acts.map actRow)]) () H.out ?_ (steps_al ?_) ?_ ?_
  · exact fun _ _ _ _ _ h => h
  · refine al_cons ?_ (al_cons ?_ (al_nil))
    · intro LL xx ac wc sg hst hwant QQ hgo
      have se51 : ac.eval (.tmp 51) = _ := ((sg.free 51 (by kernel_rfl)).trans so51)
      have sg51 := gt_of se51
      exact op_val hwant hgo hst _ (by simp only [execOp, nth]; go_simp <;> omega) rfl
    · intro LL xx ac wc sg hst hwant QQ hgo
      exact op_val hwant hgo hst _ (exec_assign rfl (sg.slot 0 (sg.anc 0 rfl))) rfl
  · exact skips [] (by kernel_rfl) (fun _ h => by cases h)
  · intro xx ac1 wz hfr hsl hst
    exact hfin ac1 wz (hfr.size.trans hz) hfr.defers (fr_keep hfr [112, 113] (by kernel_rfl)) (hsl 1 (by decide)) (Lib.hid hst)
set_option maxRecDepth 20000 in
theorem exact6_w_r32x1 (n : Int) (rc : Nat) (acts : List ActV) (b5 : Nat) (i : Nat) (a : Option Addr) (cc : Nat) (la : Option Addr) (lc : Nat) (l : List PairV) (hi : i ≤ acts.length) (hi2 : i ≤ 100) (hll : l.length ≤ i) (z1ld : i < acts.length) (z1rd : (i : Int) < 100) (y : Addr) (x : ActV) (b9 : Nat) (z2d : ¬ (10 < (x.key.size : Int))) (m : Nat) (hm1 : m < 3) (hm : IntKind.i64.wrap ((IntKind.u64.wrap x.val).tmod 3) = (m : Int)) {wa wb : World} (H : Hid (Hp [] wa wb [rB b9 67 [.int .i64 x.kind, .string x.key, .int .i64 x.val], rS la lc 2 (l.map rowOf), rB b5 43 [.int .i64 (kR n), .slice a l.length cc], rS a cc 2 (l.map rowOf), rS (some y) rc 3 (acts.map actRow)])) (ac0 : Act) (hz : ac0.tmps.size = 143) (so9 : ac0.eval (.tmp 9) = .pointer (some ⟨b9, 0, none⟩)) {QR : Exit → Act → World → Prop} (hfin : ∀ (ac1 : Act) (wz : World), ac1.tmps.size = 143 → ac1.defers = ac0.defers → (∀ t, ([14, 114, 115, 116, 117, 118, 119] : List Nat).contains t = false → ac1.eval (.tmp t) = ac0.eval (.tmp t)) → ac1.eval (.tmp 14) = .int .i64 (2 + m) →  Hid (Hp [] wa wz [rB b9 67 [.int .i64 x.kind, .string x.key, .int .i64 x.val], rS la lc 2 (l.map rowOf), rB b5 43 [.int .i64 (kR n), .slice a l.length cc], rS a cc 2 (l.map rowOf), rS (some y) rc 3 (acts.map actRow)]) → QR .normal ac1 wz) : (regAt Try.f8 32).wp Try.prog QR ac0 wb := by
  refine wp_region_sq (by kernel_rfl) 143 hz (by kernel_rfl) (fun (xx : Unit) jx => nth [.pointer (some ⟨b9, 2, none⟩), .int .i64 x.val, .int .u64 (IntKind.u64.wrap x.val), .int .u64 ((IntKind.u64.wrap x.val).tmod 3), .int .i64 m, .int .i64 (2 + m), .int .i64 (2 + m)] jx) (fun (LL : Nat → Bool) (xx : Unit) ww => Hp [] wa ww [rB b9 67 [.int .i64 x.kind, .string x.key, .int .i64 x.val], rS la lc 2 (l.map rowOf), rB b5 43 [.int .i64 (kR n), .slice a l.length cc], rS a cc 2 (l.map rowOf), rS (some y) rc 3 (acts.map actRow)]) () H.out ?_ (steps_al ?_) ?_ ?_
  · exact fun _ _ _ _ _ h => h
  · refine al_cons ?_ (al_cons ?_ (al_cons ?_ (al_cons ?_ (al_cons ?_ (al_cons ?_ (al_cons ?_ (al_nil)))))))
    · intro LL xx ac wc sg hst hwant QQ hgo
      have se9 : ac.eval (.tmp 9) = _ := ((sg.free 9 (by kernel_rfl)).trans so9)
      have sg9 := gt_of se9
      exact op_val hwant hgo hst _ (by simp only [execOp, nth]; go_simp <;> omega) rfl
    · intro LL xx ac wc sg hst hwant QQ hgo
      have H := Lib.hid hst
      refine hpA_load1 tyint H rfl (sg.slot 0 (sg.anc 0 rfl)) hwant (by (repeat (first | exact List.Mem.head _ | apply List.Mem.tail))) (by rfl) ?_
      exact hgo _ () _ (fun _ _ => rfl) rfl hst
    · intro LL xx ac wc sg hst hwant QQ hgo
      have se115 : ac.eval (.tmp 115) = _ := (sg.slot 1 (sg.anc 1 rfl))
      have sg115 := gt_of se115
      (try simp only [nth] at se115 sg115)
      exact op_val hwant hgo hst _ (by simp only [execOp, nth]; go_simp <;> omega) rfl
    · intro LL xx ac wc sg hst hwant QQ hgo
      have se116 : ac.eval (.tmp 116) = _ := (sg.slot 2 (sg.anc 2 rfl))
      have sg116 := gt_of se116
      (try simp only [nth] at se116 sg116)
      exact op_val hwant hgo hst _ (by simp only [execOp, nth]; go_simp <;> omega) rfl
    · intro LL xx ac wc sg hst hwant QQ hgo
      have se117 : ac.eval (.tmp 117) = _ := (sg.slot 3 (sg.anc 3 rfl))
      have sg117 := gt_of se117
      (try simp only [nth] at se117 sg117)
      exact op_val hwant hgo hst _ (by simp only [execOp, nth]; go_simp <;> omega) rfl
    · intro LL xx ac wc sg hst hwant QQ hgo
      have se118 : ac.eval (.tmp 118) = _ := (sg.slot 4 (sg.anc 4 rfl))
      have sg118 := gt_of se118
      (try simp only [nth] at se118 sg118)
      have hnw : IntKind.i64.wrap (2 + m : Int) = 2 + m := IntWalk.i64_in _ (by omega)
      exact op_val hwant hgo hst _ (by simp only [execOp, nth]; go_simp <;> omega) rfl
    · intro LL xx ac wc sg hst hwant QQ hgo
      exact op_val hwant hgo hst _ (exec_assign rfl (sg.slot 5 (sg.anc 5 rfl))) rfl
  · exact skips [] (by kernel_rfl) (fun _ h => by cases h)
  · intro xx ac1 wz hfr hsl hst
    exact hfin ac1 wz (hfr.size.trans hz) hfr.defers (fr_keep hfr [14, 114, 115, 116, 117, 118, 119] (by kernel_rfl)) (hsl 6 (by decide)) (Lib.hid hst)
set_option maxRecDepth 20000 in
theorem exact6_w_r33x1 (n : Int) (rc : Nat) (acts : List ActV) (b5 : Nat) (i : Nat) (a : Option Addr) (cc : Nat) (la : Option Addr) (lc : Nat) (l : List PairV) (hi : i ≤ acts.length) (hi2 : i ≤ 100) (hll : l.length ≤ i) (z1ld : i < acts.length) (z1rd : (i : Int) < 100) (y : Addr) (x : ActV) (b9 : Nat) (z2d : ¬ (10 < (x.key.size : Int))) (m : Nat) (hm1 : m < 3) (hm : IntKind.i64.wrap ((IntKind.u64.wrap x.val).tmod 3) = (m : Int)) {wa wb : World} (H : Hid (Hp [] wa wb [rB b9 67 [.int .i64 x.kind, .string x.key, .int .i64 x.val], rS la lc 2 (l.map rowOf), rB b5 43 [.int .i64 (kR n), .slice a l.length cc], rS a cc 2 (l.map rowOf), rS (some y) rc 3 (acts.map actRow)])) (ac0 : Act) (hz : ac0.tmps.size = 143) (so5 : ac0.eval (.tmp 5) = .pointer (some ⟨b5, 0, none⟩)) (so14 : ac0.eval (.tmp 14) = .int .i64 (2 + m)) {QR : Exit → Act → World → Prop} (hfin : ∀ (a33_4 : Option Addr) (c33_4 : Nat) (ac1 : Act) (wz : World), ac1.tmps.size = 143 → ac1.defers = ac0.defers → (∀ t, ([120, 121, 122, 123, 124] : List Nat).contains t = false → ac1.eval (.tmp t) = ac0.eval (.tmp t)) →  Hid (Hp [] wa wz [rS a33_4 c33_4 2 ((l.filter (keptV (2 + m))).map rowOf), rB b9 67 [.int .i64 x.kind, .string x.key, .int .i64 x.val], rS la lc 2 (l.map rowOf), rB b5 43 [.int .i64 (kR n), .slice a33_4 ((l.filter (keptV (2 + m))).length) c33_4], rS a cc 2 (l.map rowOf), rS (some y) rc 3 (acts.map actRow)]) → QR .normal ac1 wz) : (regAt Try.f8 33).wp Try.prog QR ac0 wb := by
  refine wp_region_sq (by kernel_rfl) 143 hz (by kernel_rfl) (fun (xx : Option Addr × Nat) jx => match xx with | (a33_4, c33_4) => nth [.agg #[.int .i64 (kR n), .slice a l.length cc], .int .i64 (2 + m), .agg #[.int .i64 (2 + m)], .func (.func 33) #[.agg #[.int .i64 (2 + m)]] #[], .agg #[.int .i64 (kR n), .slice a33_4 ((l.filter (keptV (2 + m))).length) c33_4], undef] jx) (fun (LL : Nat → Bool) (xx : Option Addr × Nat) ww => match xx with | (a33_4, c33_4) => Hp [] wa ww (bif LL 5 then [rS a33_4 c33_4 2 ((l.filter (keptV (2 + m))).map rowOf), rB b9 67 [.int .i64 x.kind, .string x.key, .int .i64 x.val], rS la lc 2 (l.map rowOf), rB b5 43 [.int .i64 (kR n), .slice a33_4 ((l.filter (keptV (2 + m))).length) c33_4], rS a cc 2 (l.map rowOf), rS (some y) rc 3 (acts.map actRow)] else (bif LL 4 then [rS a33_4 c33_4 2 ((l.filter (keptV (2 + m))).map rowOf), rB b9 67 [.int .i64 x.kind, .string x.key, .int .i64 x.val], rS la lc 2 (l.map rowOf), rB b5 43 [.int .i64 (kR n), .slice a l.length cc], rS a cc 2 (l.map rowOf), rS (some y) rc 3 (acts.map actRow)] else [rB b9 67 [.int .i64 x.kind, .string x.key, .int .i64 x.val], rS la lc 2 (l.map rowOf), rB b5 43 [.int .i64 (kR n), .slice a l.length cc], rS a cc 2 (l.map rowOf), rS (some y) rc 3 (acts.map actRow)]))) (default, default) H.out ?_ (steps_al ?_) ?_ ?_
  · intro L1 L2 xx ww hL sg
    have lh4 := hL 4 (by decide)
    have lh5 := hL 5 (by decide)
    simp only [lh4, lh5] at sg
    exact sg
  · refine al_cons ?_ (al_cons ?_ (al_cons ?_ (al_cons ?_ (al_cons ?_ (al_cons ?_ (al_nil))))))
    · intro LL xx ac wc sg hst hwant QQ hgo
      obtain ⟨a33_4, c33_4⟩ := xx
      have H := Lib.hid hst
      simp only [sg.des 4 rfl, sg.des 5 rfl, cond_true, cond_false] at H
      refine hpA_load tyshelf_Shelf_string__int_ H rfl ((sg.free 5 (by kernel_rfl)).trans so5) hwant (by (repeat (first | exact List.Mem.head _ | apply List.Mem.tail))) (by rfl) rfl ?_
      exact hgo _ (a33_4, c33_4) _ (fun _ _ => rfl) rfl hst
    · intro LL xx ac wc sg hst hwant QQ hgo
      obtain ⟨a33_4, c33_4⟩ := xx
      exact op_val hwant hgo hst _ (exec_move rfl ((sg.free 14 (by kernel_rfl)).trans so14)) rfl
    · intro LL xx ac wc sg hst hwant QQ hgo
      obtain ⟨a33_4, c33_4⟩ := xx
      have se121 : ac.eval (.tmp 121) = _ := (sg.slot 1 (sg.anc 1 rfl))
      have sg121 := gt_of se121
      (try simp only [nth] at se121 sg121)
      exact op_val hwant hgo hst _ (by simp only [execOp, nth]; go_simp <;> omega) rfl
    · intro LL xx ac wc sg hst hwant QQ hgo
      obtain ⟨a33_4, c33_4⟩ := xx
      have se122 : ac.eval (.tmp 122) = _ := (sg.slot 2 (sg.anc 2 rfl))
      have sg122 := gt_of se122
      (try simp only [nth] at se122 sg122)
      exact op_val hwant hgo hst _ (by simp only [execOp, nth]; go_simp <;> omega) rfl
    · intro LL xx ac wc sg hst hwant QQ hgo
      obtain ⟨_, _⟩ := xx
      have se120 : ac.eval (.tmp 120) = _ := (sg.slot 0 (sg.anc 0 rfl))
      have sg120 := gt_of se120
      have se123 : ac.eval (.tmp 123) = _ := (sg.slot 3 (sg.anc 3 rfl))
      have sg123 := gt_of se123
      (try simp only [nth] at se120 sg120 se123 sg123)
      have H := Lib.hid hst
      simp only [sg.self, sg.des 5 rfl, cond_true, cond_false] at H
      refine op_call hwant hgo 32 _ (by simp only [execOp]; go_simp) (sKeep (kR n) (2 + m) (by omega) a cc l wc (hp_held H (show rS a cc 2 (l.map rowOf) ∈ _ by (repeat (first | exact List.Mem.head _ | apply List.Mem.tail)))) (by omega)) ?_
      rintro er wd ⟨a33_4, c33_4, rfl, hgv⟩
      have H2 := hp_got H hgv.2.2 hgv.1 (by decide) hgv.2.1 (by simp)
      exact ⟨_, (a33_4, c33_4), rfl, (sg.agree (x' := (a33_4, c33_4)) (n := 6) rfl (by (iterate 6 (refine ix_cons (by first | exact fun _ => rfl | exact no sg.self | exact no (sg.des _ rfl)) ?_)); exact ix_nil)), rfl, (by simp only [(show upd LL 4 4 = true from rfl), (show upd LL 4 5 = LL 5 from rfl), sg.des 5 rfl, cond_true, cond_false]; exact H2.out)⟩
    · intro LL xx ac wc sg hst hwant QQ hgo
      obtain ⟨a33_4, c33_4⟩ := xx
      have H := Lib.hid hst
      simp only [sg.anc 4 rfl, sg.self, cond_true, cond_false] at H
      refine hpA_store tyshelf_Shelf_string__int_ H rfl rfl ((sg.free 5 (by kernel_rfl)).trans so5) (sg.slot 4 (sg.anc 4 rfl)) rfl (by repeat (first | apply Put.head | apply Put.tail)) (by simp [List.length_cons]) (by simp [List.length_cons, Value.oneCell']) (by first | rfl | (simp only [spl]; rfl)) rfl ?_
      intro wd H2
      exact hgo _ (a33_4, c33_4) _ (sg.agree (x' := (a33_4, c33_4)) (n := 6) rfl (by (iterate 6 (refine ix_cons (by first | exact fun _ => rfl | exact no sg.self | exact no (sg.des _ rfl)) ?_)); exact ix_nil)) rfl (by simp only [(show upd LL 5 4 = LL 4 from rfl), sg.anc 4 rfl, (show upd LL 5 5 = true from rfl), cond_true, cond_false]; exact H2.out)
  · exact skips [] (by kernel_rfl) (fun _ h => by cases h)
  · intro xx ac1 wz hfr hsl hst
    obtain ⟨a33_4, c33_4⟩ := xx
    exact hfin a33_4 c33_4 ac1 wz (hfr.size.trans hz) hfr.defers (fr_keep hfr [120, 121, 122, 123, 124] (by kernel_rfl)) (Lib.hid hst)
set_option maxRecDepth 20000 in
theorem exact6_w_r34x1 (n : Int) (rc : Nat) (acts : List ActV) (b5 : Nat) (i : Nat) (a : Option Addr) (cc : Nat) (la : Option Addr) (lc : Nat) (l : List PairV) (hi : i ≤ acts.length) (hi2 : i ≤ 100) (hll : l.length ≤ i) (z1ld : i < acts.length) (z1rd : (i : Int) < 100) (y : Addr) (x : ActV) (b9 : Nat) (z2d : ¬ (10 < (x.key.size : Int))) (m : Nat) (hm1 : m < 3) (hm : IntKind.i64.wrap ((IntKind.u64.wrap x.val).tmod 3) = (m : Int)) (a33_4 : Option Addr) (c33_4 : Nat) {wa wb : World} (H : Hid (Hp [] wa wb [rS a33_4 c33_4 2 ((l.filter (keptV (2 + m))).map rowOf), rB b9 67 [.int .i64 x.kind, .string x.key, .int .i64 x.val], rS la lc 2 (l.map rowOf), rB b5 43 [.int .i64 (kR n), .slice a33_4 ((l.filter (keptV (2 + m))).length) c33_4], rS a cc 2 (l.map rowOf), rS (some y) rc 3 (acts.map actRow)])) (ac0 : Act) (hz : ac0.tmps.size = 143) (so7 : ac0.eval (.tmp 7) = .slice la l.length lc) (so14 : ac0.eval (.tmp 14) = .int .i64 (2 + m)) {QR : Exit → Act → World → Prop} (hfin : ∀ (a34_2 : Option Addr) (c34_2 : Nat) (ac1 : Act) (wz : World), ac1.tmps.size = 143 → ac1.defers = ac0.defers → (∀ t, ([7, 125, 126, 127] : List Nat).contains t = false → ac1.eval (.tmp t) = ac0.eval (.tmp t)) → ac1.eval (.tmp 7) = .slice a34_2 ((l.filter (keptV (2 + m))).length) c34_2 →  Hid (Hp [] wa wz [rS a34_2 c34_2 2 ((l.filter (keptV (2 + m))).map rowOf), rS a33_4 c33_4 2 ((l.filter (keptV (2 + m))).map rowOf), rB b9 67 [.int .i64 x.kind, .string x.key, .int .i64 x.val], rS la lc 2 (l.map rowOf), rB b5 43 [.int .i64 (kR n), .slice a33_4 ((l.filter (keptV (2 + m))).length) c33_4], rS a cc 2 (l.map rowOf), rS (some y) rc 3 (acts.map actRow)]) → QR .normal ac1 wz) : (regAt Try.f8 34).wp Try.prog QR ac0 wb := by
  refine wp_region_sq (by kernel_rfl) 143 hz (by kernel_rfl) (fun (xx : Option Addr × Nat) jx => match xx with | (a34_2, c34_2) => nth [.slice la l.length lc, .int .i64 (2 + m), .slice a34_2 ((l.filter (keptV (2 + m))).length) c34_2, .slice a34_2 ((l.filter (keptV (2 + m))).length) c34_2] jx) (fun (LL : Nat → Bool) (xx : Option Addr × Nat) ww => match xx with | (a34_2, c34_2) => Hp [] wa ww (bif LL 2 then [rS a34_2 c34_2 2 ((l.filter (keptV (2 + m))).map rowOf), rS a33_4 c33_4 2 ((l.filter (keptV (2 + m))).map rowOf), rB b9 67 [.int .i64 x.kind, .string x.key, .int .i64 x.val], rS la lc 2 (l.map rowOf), rB b5 43 [.int .i64 (kR n), .slice a33_4 ((l.filter (keptV (2 + m))).length) c33_4], rS a cc 2 (l.map rowOf), rS (some y) rc 3 (acts.map actRow)] else [rS a33_4 c33_4 2 ((l.filter (keptV (2 + m))).map rowOf), rB b9 67 [.int .i64 x.kind, .string x.key, .int .i64 x.val], rS la lc 2 (l.map rowOf), rB b5 43 [.int .i64 (kR n), .slice a33_4 ((l.filter (keptV (2 + m))).length) c33_4], rS a cc 2 (l.map rowOf), rS (some y) rc 3 (acts.map actRow)])) (default, default) H.out ?_ (steps_al ?_) ?_ ?_
  · intro L1 L2 xx ww hL sg
    have lh2 := hL 2 (by decide)
    simp only [lh2] at sg
    exact sg
  · refine al_cons ?_ (al_cons ?_ (al_cons ?_ (al_cons ?_ (al_nil))))
    · intro LL xx ac wc sg hst hwant QQ hgo
      obtain ⟨a34_2, c34_2⟩ := xx
      exact op_val hwant hgo hst _ (exec_move rfl ((sg.yet 7 3 (sg.des 3 rfl) (by kernel_rfl)).trans so7)) rfl
    · intro LL xx ac wc sg hst hwant QQ hgo
      obtain ⟨a34_2, c34_2⟩ := xx
      exact op_val hwant hgo hst _ (exec_move rfl ((sg.free 14 (by kernel_rfl)).trans so14)) rfl
    · intro LL xx ac wc sg hst hwant QQ hgo
      obtain ⟨_, _⟩ := xx
      have se125 : ac.eval (.tmp 125) = _ := (sg.slot 0 (sg.anc 0 rfl))
      have sg125 := gt_of se125
      have se126 : ac.eval (.tmp 126) = _ := (sg.slot 1 (sg.anc 1 rfl))
      have sg126 := gt_of se126
      (try simp only [nth] at se125 sg125 se126 sg126)
      have H := Lib.hid hst
      simp only [sg.self, cond_true, cond_false] at H
      refine op_call hwant hgo 40 _ (by simp only [execOp]; go_simp) (keepRS la lc l (2 + m) wc (hp_held H (show rS la lc 2 (l.map rowOf) ∈ _ by (repeat (first | exact List.Mem.head _ | apply List.Mem.tail)))) (by omega) (by omega)) ?_
      rintro er wd ⟨a34_2, c34_2, rfl, hgv⟩
      have H2 := hp_got H hgv.2.2 hgv.1 (by decide) hgv.2.1 (by simp)
      exact ⟨_, (a34_2, c34_2), rfl, (sg.agree (x' := (a34_2, c34_2)) (n := 4) rfl (by (iterate 4 (refine ix_cons (by first | exact fun _ => rfl | exact no sg.self | exact no (sg.des _ rfl)) ?_)); exact ix_nil)), rfl, (by simp only [(show upd LL 2 2 = true from rfl), cond_true, cond_false]; exact H2.out)⟩
    · intro LL xx ac wc sg hst hwant QQ hgo
      obtain ⟨a34_2, c34_2⟩ := xx
      exact op_val hwant hgo hst _ (exec_assign rfl (sg.slot 2 (sg.anc 2 rfl))) rfl
  · exact skips [] (by kernel_rfl) (fun _ h => by cases h)
  · intro xx ac1 wz hfr hsl hst
    obtain ⟨a34_2, c34_2⟩ := xx
    exact hfin a34_2 c34_2 ac1 wz (hfr.size.trans hz) hfr.defers (fr_keep hfr [7, 125, 126, 127] (by kernel_rfl)) (hsl 3 (by decide)) (Lib.hid hst)
set_option maxRecDepth 20000 in
theorem exact6_w_r35x8 (n : Int) (rc : Nat) (acts : List ActV) (b5 : Nat) (i : Nat) (a : Option Addr) (cc : Nat) (la : Option Addr) (lc : Nat) (l : List PairV) (hi : i ≤ acts.length) (hi2 : i ≤ 100) (hll : l.length ≤ i) (z1ld : i < acts.length) (z1rd : (i : Int) < 100) (y : Addr) (x : ActV) (b9 : Nat) (z2d : ¬ (10 < (x.key.size : Int))) (m : Nat) (hm1 : m < 3) (hm : IntKind.i64.wrap ((IntKind.u64.wrap x.val).tmod 3) = (m : Int)) (a33_4 : Option Addr) (c33_4 : Nat) (a34_2 : Option Addr) (c34_2 : Nat) {wa wb : World} (H : Hid (Hp [] wa wb [rS a34_2 c34_2 2 ((l.filter (keptV (2 + m))).map rowOf), rS a33_4 c33_4 2 ((l.filter (keptV (2 + m))).map rowOf), rB b9 67 [.int .i64 x.kind, .string x.key, .int .i64 x.val], rS la lc 2 (l.map rowOf), rB b5 43 [.int .i64 (kR n), .slice a33_4 ((l.filter (keptV (2 + m))).length) c33_4], rS a cc 2 (l.map rowOf), rS (some y) rc 3 (acts.map actRow)])) (ac0 : Act) (hz : ac0.tmps.size = 143) (so5 : ac0.eval (.tmp 5) = .pointer (some ⟨b5, 0, none⟩)) (so6 : ac0.eval (.tmp 6) = .int .i64 (kR n)) (so7 : ac0.eval (.tmp 7) = .slice a34_2 ((l.filter (keptV (2 + m))).length) c34_2) {QR : Exit → Act → World → Prop} (hfin : ∀ (ac1 : Act) (wz : World), ac1.tmps.size = 143 → ac1.defers = ac0.defers → (∀ t, ([128, 129, 130, 131, 132, 133, 134, 135, 136, 137] : List Nat).contains t = false → ac1.eval (.tmp t) = ac0.eval (.tmp t)) → ac1.eval (.tmp 137) = .bool false →  Hid (Hp [] wa wz [rS a34_2 c34_2 2 ((l.filter (keptV (2 + m))).map rowOf), rS a33_4 c33_4 2 ((l.filter (keptV (2 + m))).map rowOf), rB b9 67 [.int .i64 x.kind, .string x.key, .int .i64 x.val], rS la lc 2 (l.map rowOf), rB b5 43 [.int .i64 (kR n), .slice a33_4 ((l.filter (keptV (2 + m))).length) c33_4], rS a cc 2 (l.map rowOf), rS (some y) rc 3 (acts.map actRow)]) → QR .normal ac1 wz) : (regAt Try.f8 35).wp Try.prog QR ac0 wb := by
  refine wp_region_sq (by kernel_rfl) 143 hz (by kernel_rfl) (fun (xx : Unit) jx => nth [.agg #[.int .i64 (kR n), .slice a33_4 ((l.filter (keptV (2 + m))).length) c33_4], .slice a34_2 ((l.filter (keptV (2 + m))).length) c34_2, .bool true, .bool false, .bool false, .agg #[.int .i64 (kR n), .slice a33_4 ((l.filter (keptV (2 + m))).length) c33_4], .int .i64 (kR n), .int .i64 (kR n), .bool false, .bool false] jx) (fun (LL : Nat → Bool) (xx : Unit) ww => Hp [] wa ww [rS a34_2 c34_2 2 ((l.filter (keptV (2 + m))).map rowOf), rS a33_4 c33_4 2 ((l.filter (keptV (2 + m))).map rowOf), rB b9 67 [.int .i64 x.kind, .string x.key, .int .i64 x.val], rS la lc 2 (l.map rowOf), rB b5 43 [.int .i64 (kR n), .slice a33_4 ((l.filter (keptV (2 + m))).length) c33_4], rS a cc 2 (l.map rowOf), rS (some y) rc 3 (acts.map actRow)]) () H.out ?_ (steps_al ?_) ?_ ?_
  · exact fun _ _ _ _ _ h => h
  · refine al_cons ?_ (al_cons ?_ (al_cons ?_ (al_cons ?_ (al_cons ?_ (al_cons ?_ (al_cons ?_ (al_cons ?_ (al_cons ?_ (al_cons ?_ (al_nil))))))))))
    · intro LL xx ac wc sg hst hwant QQ hgo
      have H := Lib.hid hst
      refine hpA_load tyshelf_Shelf_string__int_ H rfl ((sg.free 5 (by kernel_rfl)).trans so5) hwant (by (repeat (first | exact List.Mem.head _ | apply List.Mem.tail))) (by rfl) rfl ?_
      exact hgo _ () _ (fun _ _ => rfl) rfl hst
    · intro LL xx ac wc sg hst hwant QQ hgo
      exact op_val hwant hgo hst _ (exec_move rfl ((sg.free 7 (by kernel_rfl)).trans so7)) rfl
    · intro LL xx ac wc sg hst hwant QQ hgo
      have se128 : ac.eval (.tmp 128) = _ := (sg.slot 0 (sg.anc 0 rfl))
      have sg128 := gt_of se128
      have se129 : ac.eval (.tmp 129) = _ := (sg.slot 1 (sg.anc 1 rfl))
      have sg129 := gt_of se129
      (try simp only [nth] at se128 sg128 se129 sg129)
      have H := Lib.hid hst
      refine op_call hwant hgo 42 _ (by simp only [execOp]; go_simp) (alikeC (kR n) a33_4 c33_4 a34_2 c34_2 (l.filter (keptV (2 + m))) wc (hp_held H (show rS a33_4 c33_4 2 ((l.filter (keptV (2 + m))).map rowOf) ∈ _ by (repeat (first | exact List.Mem.head _ | apply List.Mem.tail)))) (hp_held H (show rS a34_2 c34_2 2 ((l.filter (keptV (2 + m))).map rowOf) ∈ _ by (repeat (first | exact List.Mem.head _ | apply List.Mem.tail)))) (Nat.le_trans (List.length_filter_le _ _) (by omega))) ?_
      rintro er wd ⟨rfl, hof⟩
      exact ⟨_, (), rfl, fun _ _ => rfl, rfl, Hp.quiet hst hof⟩
    · intro LL xx ac wc sg hst hwant QQ hgo
      have se130 : ac.eval (.tmp 130) = _ := (sg.slot 2 (sg.anc 2 rfl))
      have sg130 := gt_of se130
      (try simp only [nth] at se130 sg130)
      exact op_val hwant hgo hst _ (by simp only [execOp, nth]; go_simp <;> omega) rfl
    · intro LL xx ac wc sg hst hwant QQ hgo
      exact op_val hwant hgo hst _ (exec_move rfl (sg.slot 3 (sg.anc 3 rfl))) rfl
    · intro LL xx ac wc sg hst hwant QQ hgo
      have H := Lib.hid hst
      refine hpA_load tyshelf_Shelf_string__int_ H rfl ((sg.free 5 (by kernel_rfl)).trans so5) hwant (by (repeat (first | exact List.Mem.head _ | apply List.Mem.tail))) (by rfl) rfl ?_
      exact hgo _ () _ (fun _ _ => rfl) rfl hst
    · intro LL xx ac wc sg hst hwant QQ hgo
      have se133 : ac.eval (.tmp 133) = _ := (sg.slot 5 (sg.anc 5 rfl))
      have sg133 := gt_of se133
      (try simp only [nth] at se133 sg133)
      refine op_call hwant hgo 43 _ (by simp only [execOp]; go_simp) (roomC (kR n) (.slice a33_4 ((l.filter (keptV (2 + m))).length) c33_4) wc) ?_
      rintro er wd ⟨rfl, hof⟩
      exact ⟨_, (), rfl, fun _ _ => rfl, rfl, Hp.quiet hst hof⟩
    · intro LL xx ac wc sg hst hwant QQ hgo
      exact op_val hwant hgo hst _ (exec_move rfl ((sg.free 6 (by kernel_rfl)).trans so6)) rfl
    · intro LL xx ac wc sg hst hwant QQ hgo
      have se134 : ac.eval (.tmp 134) = _ := (sg.slot 6 (sg.anc 6 rfl))
      have sg134 := gt_of se134
      have se135 : ac.eval (.tmp 135) = _ := (sg.slot 7 (sg.anc 7 rfl))
      have sg135 := gt_of se135
      (try simp only [nth] at se134 sg134 se135 sg135)
      exact op_val hwant hgo hst _ (by simp only [execOp, nth]; go_simp <;> omega) rfl
    · intro LL xx ac wc sg hst hwant QQ hgo
      exact op_val hwant hgo hst (.bool false) (exec_pick (B := false) (U := undef) (V := .bool false) rfl (sg.slot 4 (sg.anc 4 rfl)) (fun h => by cases h) (fun _ => (sg.slot 8 (sg.anc 8 rfl)))) rfl
  · refine skips [5, 6, 7, 8] (by kernel_rfl) ?_
    refine List.forall_mem_cons.2 ⟨?_, List.forall_mem_cons.2 ⟨?_, List.forall_mem_cons.2 ⟨?_, List.forall_mem_cons.2 ⟨?_, fun _ h => by cases h⟩⟩⟩⟩
    · intro oo hop LL xx ac sg hwant
      cases Option.some.inj hop
      exact absurd ((want_f rfl rfl (sg.slot 4 (sg.anc 4 rfl))).symm.trans hwant) (by decide)
    · intro oo hop LL xx ac sg hwant
      cases Option.some.inj hop
      exact absurd ((want_f rfl rfl (sg.slot 4 (sg.anc 4 rfl))).symm.trans hwant) (by decide)
    · intro oo hop LL xx ac sg hwant
      cases Option.some.inj hop
      exact absurd ((want_f rfl rfl (sg.slot 4 (sg.anc 4 rfl))).symm.trans hwant) (by decide)
    · intro oo hop LL xx ac sg hwant
      cases Option.some.inj hop
      exact absurd ((want_f rfl rfl (sg.slot 4 (sg.anc 4 rfl))).symm.trans hwant) (by decide)
  · intro xx ac1 wz hfr hsl hst
    exact hfin ac1 wz (hfr.size.trans hz) hfr.defers (fr_keep hfr [128, 129, 130, 131, 132, 133, 134, 135, 136, 137] (by kernel_rfl)) (hsl 9 (by decide)) (Lib.hid hst)
set_option maxRecDepth 20000 in
theorem exact6_w_r10x8 (n : Int) (rc : Nat) (acts : List ActV) (b5 : Nat) (i : Nat) (a : Option Addr) (cc : Nat) (la : Option Addr) (lc : Nat) (l : List PairV) (hi : i ≤ acts.length) (hi2 : i ≤ 100) (hll : l.length ≤ i) (z1ld : i < acts.length) (z1rd : (i : Int) < 100) (y : Addr) (x : ActV) (b9 : Nat) (z2d : ¬ (10 < (x.key.size : Int))) (m : Nat) (hm1 : m < 3) (hm : IntKind.i64.wrap ((IntKind.u64.wrap x.val).tmod 3) = (m : Int)) (a33_4 : Option Addr) (c33_4 : Nat) (a34_2 : Option Addr) (c34_2 : Nat) {wa wb : World} (H : Hid (Hp [] wa wb [rS a34_2 c34_2 2 ((l.filter (keptV (2 + m))).map rowOf), rS a33_4 c33_4 2 ((l.filter (keptV (2 + m))).map rowOf), rB b9 67 [.int .i64 x.kind, .string x.key, .int .i64 x.val], rS la lc 2 (l.map rowOf), rB b5 43 [.int .i64 (kR n), .slice a33_4 ((l.filter (keptV (2 + m))).length) c33_4], rS a cc 2 (l.map rowOf), rS (some y) rc 3 (acts.map actRow)])) (ac0 : Act) (hz : ac0.tmps.size = 143) (so8 : ac0.eval (.tmp 8) = .int .i64 i) {QR : Exit → Act → World → Prop} (hfin : ∀ (ac1 : Act) (wz : World), ac1.tmps.size = 143 → ac1.defers = ac0.defers → (∀ t, ([8, 40, 41] : List Nat).contains t = false → ac1.eval (.tmp t) = ac0.eval (.tmp t)) → ac1.eval (.tmp 8) = .int .i64 (i + 1) →  Hid (Hp [] wa wz [rS a34_2 c34_2 2 ((l.filter (keptV (2 + m))).map rowOf), rS a33_4 c33_4 2 ((l.filter (keptV (2 + m))).map rowOf), rB b9 67 [.int .i64 x.kind, .string x.key, .int .i64 x.val], rS la lc 2 (l.map rowOf), rB b5 43 [.int .i64 (kR n), .slice a33_4 ((l.filter (keptV (2 + m))).length) c33_4], rS a cc 2 (l.map rowOf), rS (some y) rc 3 (acts.map actRow)]) → QR .normal ac1 wz) : (regAt Try.f8 10).wp Try.prog QR ac0 wb := by
  refine wp_region_sq (by kernel_rfl) 143 hz (by kernel_rfl) (fun (xx : Unit) jx => nth [.int .i64 i, .int .i64 (i + 1), .int .i64 (i + 1)] jx) (fun (LL : Nat → Bool) (xx : Unit) ww => Hp [] wa ww [rS a34_2 c34_2 2 ((l.filter (keptV (2 + m))).map rowOf), rS a33_4 c33_4 2 ((l.filter (keptV (2 + m))).map rowOf), rB b9 67 [.int .i64 x.kind, .string x.key, .int .i64 x.val], rS la lc 2 (l.map rowOf), rB b5 43 [.int .i64 (kR n), .slice a33_4 ((l.filter (keptV (2 + m))).length) c33_4], rS a cc 2 (l.map rowOf), rS (some y) rc 3 (acts.map actRow)]) () H.out ?_ (steps_al ?_) ?_ ?_
  · exact fun _ _ _ _ _ h => h
  · refine al_cons ?_ (al_cons ?_ (al_cons ?_ (al_nil)))
    · intro LL xx ac wc sg hst hwant QQ hgo
      exact op_val hwant hgo hst _ (exec_move rfl ((sg.yet 8 2 (sg.des 2 rfl) (by kernel_rfl)).trans so8)) rfl
    · intro LL xx ac wc sg hst hwant QQ hgo
      have se40 : ac.eval (.tmp 40) = _ := (sg.slot 0 (sg.anc 0 rfl))
      have sg40 := gt_of se40
      (try simp only [nth] at se40 sg40)
      have hnw : IntKind.i64.wrap (i + 1 : Int) = i + 1 := IntWalk.i64_in _ (by omega)
      exact op_val hwant hgo hst _ (by simp only [execOp, nth]; go_simp <;> omega) rfl
    · intro LL xx ac wc sg hst hwant QQ hgo
      exact op_val hwant hgo hst _ (exec_assign rfl (sg.slot 1 (sg.anc 1 rfl))) rfl
  · exact skips [] (by kernel_rfl) (fun _ h => by cases h)
  · intro xx ac1 wz hfr hsl hst
    exact hfin ac1 wz (hfr.size.trans hz) hfr.defers (fr_keep hfr [8, 40, 41] (by kernel_rfl)) (hsl 2 (by decide)) (Lib.hid hst)
set_option maxRecDepth 20000 in
theorem exact6_w_r15x1 (n : Int) (rc : Nat) (acts : List ActV) (b5 : Nat) (i : Nat) (a : Option Addr) (cc : Nat) (la : Option Addr) (lc : Nat) (l : List PairV) (hi : i ≤ acts.length) (hi2 : i ≤ 100) (hll : l.length ≤ i) (hs : Hid (Sorted l)) (z1ld : i < acts.length) (z1rd : (i : Int) < 100) (y : Addr) (x : ActV) (b9 : Nat) (z2d : ¬ (10 < (x.key.size : Int))) {wa wb : World} (H : Hid (Hp [] wa wb [rB b9 67 [.int .i64 x.kind, .string x.key, .int .i64 x.val], rS la lc 2 (l.map rowOf), rB b5 43 [.int .i64 (kR n), .slice a l.length cc], rS a cc 2 (l.map rowOf), rS (some y) rc 3 (acts.map actRow)])) (ac0 : Act) (hz : ac0.tmps.size = 143) (so5 : ac0.eval (.tmp 5) = .pointer (some ⟨b5, 0, none⟩)) (so9 : ac0.eval (.tmp 9) = .pointer (some ⟨b9, 0, none⟩)) {QR : Exit → Act → World → Prop} (hfin : ∀ (ac1 : Act) (wz : World), ac1.tmps.size = 143 → ac1.defers = ac0.defers → (∀ t, ([15, 16, 52, 53, 54, 55, 56, 57, 58] : List Nat).contains t = false → ac1.eval (.tmp t) = ac0.eval (.tmp t)) → ac1.eval (.tmp 15) = .int .i64 ((getR x.key l).1) → ac1.eval (.tmp 16) = .bool ((getR x.key l).2) →  Hid (Hp [] wa wz [rB b9 67 [.int .i64 x.kind, .string x.key, .int .i64 x.val], rS la lc 2 (l.map rowOf), rB b5 43 [.int .i64 (kR n), .slice a l.length cc], rS a cc 2 (l.map rowOf), rS (some y) rc 3 (acts.map actRow)]) → QR .normal ac1 wz) : (regAt Try.f8 15).wp Try.prog QR ac0 wb := by
  refine wp_region_sq (by kernel_rfl) 143 hz (by kernel_rfl) (fun (xx : Unit) jx => nth [.agg #[.int .i64 (kR n), .slice a l.length cc], .pointer (some ⟨b9, 1, none⟩), .string x.key, .tuple #[.int .i64 ((getR x.key l).1), .bool ((getR x.key l).2)], .tuple #[.int .i64 ((getR x.key l).1), .bool ((getR x.key l).2)], .int .i64 ((getR x.key l).1), .bool ((getR x.key l).2), .int .i64 ((getR x.key l).1), .bool ((getR x.key l).2)] jx) (fun (LL : Nat → Bool) (xx : Unit) ww => Hp [] wa ww [rB b9 67 [.int .i64 x.kind, .string x.key, .int .i64 x.val], rS la lc 2 (l.map rowOf), rB b5 43 [.int .i64 (kR n), .slice a l.length cc], rS a cc 2 (l.map rowOf), rS (some y) rc 3 (acts.map actRow)]) () H.out ?_ (steps_al ?_) ?_ ?_
  · exact fun _ _ _ _ _ h => h
  · refine al_cons ?_ (al_cons ?_ (al_cons ?_ (al_cons ?_ (al_cons ?_ (al_cons ?_ (al_cons ?_ (al_cons ?_ (al_cons ?_ (al_nil)))))))))
    · intro LL xx ac wc sg hst hwant QQ hgo
      have H := Lib.hid hst
      refine hpA_load tyshelf_Shelf_string__int_ H rfl ((sg.free 5 (by kernel_rfl)).trans so5) hwant (by (repeat (first | exact List.Mem.head _ | apply List.Mem.tail))) (by rfl) rfl ?_
      exact hgo _ () _ (fun _ _ => rfl) rfl hst
    · intro LL xx ac wc sg hst hwant QQ hgo
      have se9 : ac.eval (.tmp 9) = _ := ((sg.free 9 (by kernel_rfl)).trans so9)
      have sg9 := gt_of se9
      exact op_val hwant hgo hst _ (by simp only [execOp, nth]; go_simp <;> omega) rfl
    · intro LL xx ac wc sg hst hwant QQ hgo
      have H := Lib.hid hst
      refine hpA_load1 tystring H rfl (sg.slot 1 (sg.anc 1 rfl)) hwant (by (repeat (first | exact List.Mem.head _ | apply List.Mem.tail))) (by rfl) ?_
      exact hgo _ () _ (fun _ _ => rfl) rfl hst
    · intro LL xx ac wc sg hst hwant QQ hgo
      have se53 : ac.eval (.tmp 53) = _ := (sg.slot 0 (sg.anc 0 rfl))
      have sg53 := gt_of se53
      have se55 : ac.eval (.tmp 55) = _ := (sg.slot 2 (sg.anc 2 rfl))
      have sg55 := gt_of se55
      (try simp only [nth] at se53 sg53 se55 sg55)
      have H := Lib.hid hst
      refine op_call hwant hgo 29 _ (by simp only [execOp]; go_simp) (sGet (kR n) a cc l x.key wc (hp_held H (show rS a cc 2 (l.map rowOf) ∈ _ by (repeat (first | exact List.Mem.head _ | apply List.Mem.tail)))) hs.out (by omega)) ?_
      rintro er wd ⟨rfl, hof⟩
      exact ⟨_, (), rfl, fun _ _ => rfl, rfl, Hp.quiet hst hof⟩
    · intro LL xx ac wc sg hst hwant QQ hgo
      exact op_val hwant hgo hst _ (exec_move rfl (sg.slot 3 (sg.anc 3 rfl))) rfl
    · intro LL xx ac wc sg hst hwant QQ hgo
      have se52 : ac.eval (.tmp 52) = _ := (sg.slot 4 (sg.anc 4 rfl))
      have sg52 := gt_of se52
      (try simp only [nth] at se52 sg52)
      exact op_val hwant hgo hst _ (by simp only [execOp, nth]; go_simp <;> omega) rfl
    · intro LL xx ac wc sg hst hwant QQ hgo
      have se52 : ac.eval (.tmp 52) = _ := (sg.slot 4 (sg.anc 4 rfl))
      have sg52 := gt_of se52
      (try simp only [nth] at se52 sg52)
      exact op_val hwant hgo hst _ (by simp only [execOp, nth]; go_simp <;> omega) rfl
    · intro LL xx ac wc sg hst hwant QQ hgo
      exact op_val hwant hgo hst _ (exec_assign rfl (sg.slot 5 (sg.anc 5 rfl))) rfl
    · intro LL xx ac wc sg hst hwant QQ hgo
      exact op_val hwant hgo hst _ (exec_assign rfl (sg.slot 6 (sg.anc 6 rfl))) rfl
  · exact skips [] (by kernel_rfl) (fun _ h => by cases h)
  · intro xx ac1 wz hfr hsl hst
    exact hfin ac1 wz (hfr.size.trans hz) hfr.defers (fr_keep hfr [15, 16, 52, 53, 54, 55, 56, 57, 58] (by kernel_rfl)) (hsl 7 (by decide)) (hsl 8 (by decide)) (Lib.hid hst)
set_option maxRecDepth 20000 in
theorem exact6_w_r16x1 (n : Int) (rc : Nat) (acts : List ActV) (b5 : Nat) (i : Nat) (a : Option Addr) (cc : Nat) (la : Option Addr) (lc : Nat) (l : List PairV) (hi : i ≤ acts.length) (hi2 : i ≤ 100) (hll : l.length ≤ i) (z1ld : i < acts.length) (z1rd : (i : Int) < 100) (y : Addr) (x : ActV) (b9 : Nat) (z2d : ¬ (10 < (x.key.size : Int))) {wa wb : World} (H : Hid (Hp [] wa wb [rB b9 67 [.int .i64 x.kind, .string x.key, .int .i64 x.val], rS la lc 2 (l.map rowOf), rB b5 43 [.int .i64 (kR n), .slice a l.length cc], rS a cc 2 (l.map rowOf), rS (some y) rc 3 (acts.map actRow)])) (ac0 : Act) (hz : ac0.tmps.size = 143) (so7 : ac0.eval (.tmp 7) = .slice la l.length lc) (so9 : ac0.eval (.tmp 9) = .pointer (some ⟨b9, 0, none⟩)) {QR : Exit → Act → World → Prop} (hfin : ∀ (ac1 : Act) (wz : World), ac1.tmps.size = 143 → ac1.defers = ac0.defers → (∀ t, ([17, 18, 59, 60, 61, 62, 63, 64, 65] : List Nat).contains t = false → ac1.eval (.tmp t) = ac0.eval (.tmp t)) → ac1.eval (.tmp 17) = .int .i64 ((getR x.key l).1) → ac1.eval (.tmp 18) = .bool ((getR x.key l).2) →  Hid (Hp [] wa wz [rB b9 67 [.int .i64 x.kind, .string x.key, .int .i64 x.val], rS la lc 2 (l.map rowOf), rB b5 43 [.int .i64 (kR n), .slice a l.length cc], rS a cc 2 (l.map rowOf), rS (some y) rc 3 (acts.map actRow)]) → QR .normal ac1 wz) : (regAt Try.f8 16).wp Try.prog QR ac0 wb := by
  refine wp_region_sq (by kernel_rfl) 143 hz (by kernel_rfl) (fun (xx : Unit) jx => nth [.slice la l.length lc, .pointer (some ⟨b9, 1, none⟩), .string x.key, .tuple #[.int .i64 ((getR x.key l).1), .bool ((getR x.key l).2)], .tuple #[.int .i64 ((getR x.key l).1), .bool ((getR x.key l).2)], .int .i64 ((getR x.key l).1), .bool ((getR x.key l).2), .int .i64 ((getR x.key l).1), .bool ((getR x.key l).2)] jx) (fun (LL : Nat → Bool) (xx : Unit) ww => Hp [] wa ww [rB b9 67 [.int .i64 x.kind, .string x.key, .int .i64 x.val], rS la lc 2 (l.map rowOf), rB b5 43 [.int .i64 (kR n), .slice a l.length cc], rS a cc 2 (l.map rowOf), rS (some y) rc 3 (acts.map actRow)]) () H.out ?_ (steps_al ?_) ?_ ?_
  · exact fun _ _ _ _ _ h => h
  · refine al_cons ?_ (al_cons ?_ (al_cons ?_ (al_cons ?_ (al_cons ?_ (al_cons ?_ (al_cons ?_ (al_cons ?_ (al_cons ?_ (al_nil)))))))))
    · intro LL xx ac wc sg hst hwant QQ hgo
      exact op_val hwant hgo hst _ (exec_move rfl ((sg.free 7 (by kernel_rfl)).trans so7)) rfl
    · intro LL xx ac wc sg hst hwant QQ hgo
      have se9 : ac.eval (.tmp 9) = _ := ((sg.free 9 (by kernel_rfl)).trans so9)
      have sg9 := gt_of se9
      exact op_val hwant hgo hst _ (by simp only [execOp, nth]; go_simp <;> omega) rfl
    · intro LL xx ac wc sg hst hwant QQ hgo
      have H := Lib.hid hst
      refine hpA_load1 tystring H rfl (sg.slot 1 (sg.anc 1 rfl)) hwant (by (repeat (first | exact List.Mem.head _ | apply List.Mem.tail))) (by rfl) ?_
      exact hgo _ () _ (fun _ _ => rfl) rfl hst
    · intro LL xx ac wc sg hst hwant QQ hgo
      have se60 : ac.eval (.tmp 60) = _ := (sg.slot 0 (sg.anc 0 rfl))
      have sg60 := gt_of se60
      have se62 : ac.eval (.tmp 62) = _ := (sg.slot 2 (sg.anc 2 rfl))
      have sg62 := gt_of se62
      (try simp only [nth] at se60 sg60 se62 sg62)
      have H := Lib.hid hst
      refine op_call hwant hgo 41 _ (by simp only [execOp]; go_simp) (getRC la lc l x.key wc (hp_held H (show rS la lc 2 (l.map rowOf) ∈ _ by (repeat (first | exact List.Mem.head _ | apply List.Mem.tail)))) (by omega)) ?_
      rintro er wd ⟨rfl, hof⟩
      exact ⟨_, (), rfl, fun _ _ => rfl, rfl, Hp.quiet hst hof⟩
    · intro LL xx ac wc sg hst hwant QQ hgo
      exact op_val hwant hgo hst _ (exec_move rfl (sg.slot 3 (sg.anc 3 rfl))) rfl
    · intro LL xx ac wc sg hst hwant QQ hgo
      have se59 : ac.eval (.tmp 59) = _ := (sg.slot 4 (sg.anc 4 rfl))
      have sg59 := gt_of se59
      (try simp only [nth] at se59 sg59)
      exact op_val hwant hgo hst _ (by simp only [execOp, nth]; go_simp <;> omega) rfl
    · intro LL xx ac wc sg hst hwant QQ hgo
      have se59 : ac.eval (.tmp 59) = _ := (sg.slot 4 (sg.anc 4 rfl))
      have sg59 := gt_of se59
      (try simp only [nth] at se59 sg59)
      exact op_val hwant hgo hst _ (by simp only [execOp, nth]; go_simp <;> omega) rfl
    · intro LL xx ac wc sg hst hwant QQ hgo
      exact op_val hwant hgo hst _ (exec_assign rfl (sg.slot 5 (sg.anc 5 rfl))) rfl
    · intro LL xx ac wc sg hst hwant QQ hgo
      exact op_val hwant hgo hst _ (exec_assign rfl (sg.slot 6 (sg.anc 6 rfl))) rfl
  · exact skips [] (by kernel_rfl) (fun _ h => by cases h)
  · intro xx ac1 wz hfr hsl hst
    exact hfin ac1 wz (hfr.size.trans hz) hfr.defers (fr_keep hfr [17, 18, 59, 60, 61, 62, 63, 64, 65] (by kernel_rfl)) (hsl 7 (by decide)) (hsl 8 (by decide)) (Lib.hid hst)
set_option maxRecDepth 20000 in
theorem exact6_w_r17x1 (n : Int) (rc : Nat) (acts : List ActV) (b5 : Nat) (i : Nat) (a : Option Addr) (cc : Nat) (la : Option Addr) (lc : Nat) (l : List PairV) (hi : i ≤ acts.length) (hi2 : i ≤ 100) (hll : l.length ≤ i) (z1ld : i < acts.length) (z1rd : (i : Int) < 100) (y : Addr) (x : ActV) (b9 : Nat) (z2d : ¬ (10 < (x.key.size : Int))) {wa wb : World} (H : Hid (Hp [] wa wb [rB b9 67 [.int .i64 x.kind, .string x.key, .int .i64 x.val], rS la lc 2 (l.map rowOf), rB b5 43 [.int .i64 (kR n), .slice a l.length cc], rS a cc 2 (l.map rowOf), rS (some y) rc 3 (acts.map actRow)])) (ac0 : Act) (hz : ac0.tmps.size = 143) (so15 : ac0.eval (.tmp 15) = .int .i64 ((getR x.key l).1)) (so16 : ac0.eval (.tmp 16) = .bool ((getR x.key l).2)) (so17 : ac0.eval (.tmp 17) = .int .i64 ((getR x.key l).1)) (so18 : ac0.eval (.tmp 18) = .bool ((getR x.key l).2)) {QR : Exit → Act → World → Prop} (hfin : ∀ (ac1 : Act) (wz : World), ac1.tmps.size = 143 → ac1.defers = ac0.defers → (∀ t, ([66, 67, 68, 69, 70, 71, 72, 73] : List Nat).contains t = false → ac1.eval (.tmp t) = ac0.eval (.tmp t)) → ac1.eval (.tmp 73) = .bool false →  Hid (Hp [] wa wz [rB b9 67 [.int .i64 x.kind, .string x.key, .int .i64 x.val], rS la lc 2 (l.map rowOf), rB b5 43 [.int .i64 (kR n), .slice a l.length cc], rS a cc 2 (l.map rowOf), rS (some y) rc 3 (acts.map actRow)]) → QR .normal ac1 wz) : (regAt Try.f8 17).wp Try.prog QR ac0 wb := by
  refine wp_region_sq (by kernel_rfl) 143 hz (by kernel_rfl) (fun (xx : Unit) jx => nth [.int .i64 ((getR x.key l).1), .int .i64 ((getR x.key l).1), .bool false, .bool false, .bool ((getR x.key l).2), .bool ((getR x.key l).2), .bool false, .bool false] jx) (fun (LL : Nat → Bool) (xx : Unit) ww => Hp [] wa ww [rB b9 67 [.int .i64 x.kind, .string x.key, .int .i64 x.val], rS la lc 2 (l.map rowOf), rB b5 43 [.int .i64 (kR n), .slice a l.length cc], rS a cc 2 (l.map rowOf), rS (some y) rc 3 (acts.map actRow)]) () H.out ?_ (steps_al ?_) ?_ ?_
  · exact fun _ _ _ _ _ h => h
  · refine al_cons ?_ (al_cons ?_ (al_cons ?_ (al_cons ?_ (al_cons ?_ (al_cons ?_ (al_cons ?_ (al_cons ?_ (al_nil))))))))
    · intro LL xx ac wc sg hst hwant QQ hgo
      exact op_val hwant hgo hst _ (exec_move rfl ((sg.free 15 (by kernel_rfl)).trans so15)) rfl
    · intro LL xx ac wc sg hst hwant QQ hgo
      exact op_val hwant hgo hst _ (exec_move rfl ((sg.free 17 (by kernel_rfl)).trans so17)) rfl
    · intro LL xx ac wc sg hst hwant QQ hgo
      have se66 : ac.eval (.tmp 66) = _ := (sg.slot 0 (sg.anc 0 rfl))
      have sg66 := gt_of se66
      have se67 : ac.eval (.tmp 67) = _ := (sg.slot 1 (sg.anc 1 rfl))
      have sg67 := gt_of se67
      (try simp only [nth] at se66 sg66 se67 sg67)
      exact op_val hwant hgo hst _ (by simp only [execOp, nth]; go_simp <;> omega) rfl
    · intro LL xx ac wc sg hst hwant QQ hgo
      exact op_val hwant hgo hst _ (exec_move rfl (sg.slot 2 (sg.anc 2 rfl))) rfl
    · intro LL xx ac wc sg hst hwant QQ hgo
      exact op_val hwant hgo hst _ (exec_move rfl ((sg.free 16 (by kernel_rfl)).trans so16)) rfl
    · intro LL xx ac wc sg hst hwant QQ hgo
      exact op_val hwant hgo hst _ (exec_move rfl ((sg.free 18 (by kernel_rfl)).trans so18)) rfl
    · intro LL xx ac wc sg hst hwant QQ hgo
      have se70 : ac.eval (.tmp 70) = _ := (sg.slot 4 (sg.anc 4 rfl))
      have sg70 := gt_of se70
      have se71 : ac.eval (.tmp 71) = _ := (sg.slot 5 (sg.anc 5 rfl))
      have sg71 := gt_of se71
      (try simp only [nth] at se70 sg70 se71 sg71)
      exact op_val hwant hgo hst _ (by simp only [execOp, nth]; go_simp <;> omega) rfl
    · intro LL xx ac wc sg hst hwant QQ hgo
      exact op_val hwant hgo hst (.bool false) (exec_pick (B := false) (U := undef) (V := .bool false) rfl (sg.slot 3 (sg.anc 3 rfl)) (fun h => by cases h) (fun _ => (sg.slot 6 (sg.anc 6 rfl)))) rfl
  · refine skips [4, 5, 6] (by kernel_rfl) ?_
    refine List.forall_mem_cons.2 ⟨?_, List.forall_mem_cons.2 ⟨?_, List.forall_mem_cons.2 ⟨?_, fun _ h => by cases h⟩⟩⟩
    · intro oo hop LL xx ac sg hwant
      cases Option.some.inj hop
      exact absurd ((want_f rfl rfl (sg.slot 3 (sg.anc 3 rfl))).symm.trans hwant) (by decide)
    · intro oo hop LL xx ac sg hwant
      cases Option.some.inj hop
      exact absurd ((want_f rfl rfl (sg.slot 3 (sg.anc 3 rfl))).symm.trans hwant) (by decide)
    · intro oo hop LL xx ac sg hwant
      cases Option.some.inj hop
      exact absurd ((want_f rfl rfl (sg.slot 3 (sg.anc 3 rfl))).symm.trans hwant) (by decide)
  · intro xx ac1 wz hfr hsl hst
    exact hfin ac1 wz (hfr.size.trans hz) hfr.defers (fr_keep hfr [66, 67, 68, 69, 70, 71, 72, 73] (by kernel_rfl)) (hsl 7 (by decide)) (Lib.hid hst)
set_option maxRecDepth 20000 in
theorem exact6_w_r35x9 (n : Int) (rc : Nat) (acts : List ActV) (b5 : Nat) (i : Nat) (a : Option Addr) (cc : Nat) (la : Option Addr) (lc : Nat) (l : List PairV) (hi : i ≤ acts.length) (hi2 : i ≤ 100) (hll : l.length ≤ i) (z1ld : i < acts.length) (z1rd : (i : Int) < 100) (y : Addr) (x : ActV) (b9 : Nat) (z2d : ¬ (10 < (x.key.size : Int))) {wa wb : World} (H : Hid (Hp [] wa wb [rB b9 67 [.int .i64 x.kind, .string x.key, .int .i64 x.val], rS la lc 2 (l.map rowOf), rB b5 43 [.int .i64 (kR n), .slice a l.length cc], rS a cc 2 (l.map rowOf), rS (some y) rc 3 (acts.map actRow)])) (ac0 : Act) (hz : ac0.tmps.size = 143) (so5 : ac0.eval (.tmp 5) = .pointer (some ⟨b5, 0, none⟩)) (so6 : ac0.eval (.tmp 6) = .int .i64 (kR n)) (so7 : ac0.eval (.tmp 7) = .slice la l.length lc) {QR : Exit → Act → World → Prop} (hfin : ∀ (ac1 : Act) (wz : World), ac1.tmps.size = 143 → ac1.defers = ac0.defers → (∀ t, ([128, 129, 130, 131, 132, 133, 134, 135, 136, 137] : List Nat).contains t = false → ac1.eval (.tmp t) = ac0.eval (.tmp t)) → ac1.eval (.tmp 137) = .bool false →  Hid (Hp [] wa wz [rB b9 67 [.int .i64 x.kind, .string x.key, .int .i64 x.val], rS la lc 2 (l.map rowOf), rB b5 43 [.int .i64 (kR n), .slice a l.length cc], rS a cc 2 (l.map rowOf), rS (some y) rc 3 (acts.map actRow)]) → QR .normal ac1 wz) : (regAt Try.f8 35).wp Try.prog QR ac0 wb := by
  refine wp_region_sq (by kernel_rfl) 143 hz (by kernel_rfl) (fun (xx : Unit) jx => nth [.agg #[.int .i64 (kR n), .slice a l.length cc], .slice la l.length lc, .bool true, .bool false, .bool false, .agg #[.int .i64 (kR n), .slice a l.length cc], .int .i64 (kR n), .int .i64 (kR n), .bool false, .bool false] jx) (fun (LL : Nat → Bool) (xx : Unit) ww => Hp [] wa ww [rB b9 67 [.int .i64 x.kind, .string x.key, .int .i64 x.val], rS la lc 2 (l.map rowOf), rB b5 43 [.int .i64 (kR n), .slice a l.length cc], rS a cc 2 (l.map rowOf), rS (some y) rc 3 (acts.map actRow)]) () H.out ?_ (steps_al ?_) ?_ ?_
  · exact fun _ _ _ _ _ h => h
  · refine al_cons ?_ (al_cons ?_ (al_cons ?_ (al_cons ?_ (al_cons ?_ (al_cons ?_ (al_cons ?_ (al_cons ?_ (al_cons ?_ (al_cons ?_ (al_nil))))))))))
    · intro LL xx ac wc sg hst hwant QQ hgo
      have H := Lib.hid hst
      refine hpA_load tyshelf_Shelf_string__int_ H rfl ((sg.free 5 (by kernel_rfl)).trans so5) hwant (by (repeat (first | exact List.Mem.head _ | apply List.Mem.tail))) (by rfl) rfl ?_
      exact hgo _ () _ (fun _ _ => rfl) rfl hst
    · intro LL xx ac wc sg hst hwant QQ hgo
      exact op_val hwant hgo hst _ (exec_move rfl ((sg.free 7 (by kernel_rfl)).trans so7)) rfl
    · intro LL xx ac wc sg hst hwant QQ hgo
      have se128 : ac.eval (.tmp 128) = _ := (sg.slot 0 (sg.anc 0 rfl))
      have sg128 := gt_of se128
      have se129 : ac.eval (.tmp 129) = _ := (sg.slot 1 (sg.anc 1 rfl))
      have sg129 := gt_of se129
      (try simp only [nth] at se128 sg128 se129 sg129)
      have H := Lib.hid hst
      refine op_call hwant hgo 42 _ (by simp only [execOp]; go_simp) (alikeC (kR n) a cc la lc l wc (hp_held H (show rS a cc 2 (l.map rowOf) ∈ _ by (repeat (first | exact List.Mem.head _ | apply List.Mem.tail)))) (hp_held H (show rS la lc 2 (l.map rowOf) ∈ _ by (repeat (first | exact List.Mem.head _ | apply List.Mem.tail)))) (by omega)) ?_
      rintro er wd ⟨rfl, hof⟩
      exact ⟨_, (), rfl, fun _ _ => rfl, rfl, Hp.quiet hst hof⟩
    · intro LL xx ac wc sg hst hwant QQ hgo
      have se130 : ac.eval (.tmp 130) = _ := (sg.slot 2 (sg.anc 2 rfl))
      have sg130 := gt_of se130
      (try simp only [nth] at se130 sg130)
      exact op_val hwant hgo hst _ (by simp only [execOp, nth]; go_simp <;> omega) rfl
    · intro LL xx ac wc sg hst hwant QQ hgo
      exact op_val hwant hgo hst _ (exec_move rfl (sg.slot 3 (sg.anc 3 rfl))) rfl
    · intro LL xx ac wc sg hst hwant QQ hgo
      have H := Lib.hid hst
      refine hpA_load tyshelf_Shelf_string__int_ H rfl ((sg.free 5 (by kernel_rfl)).trans so5) hwant (by (repeat (first | exact List.Mem.head _ | apply List.Mem.tail))) (by rfl) rfl ?_
      exact hgo _ () _ (fun _ _ => rfl) rfl hst
    · intro LL xx ac wc sg hst hwant QQ hgo
      have se133 : ac.eval (.tmp 133) = _ := (sg.slot 5 (sg.anc 5 rfl))
      have sg133 := gt_of se133
      (try simp only [nth] at se133 sg133)
      refine op_call hwant hgo 43 _ (by simp only [execOp]; go_simp) (roomC (kR n) (.slice a l.length cc) wc) ?_
      rintro er wd ⟨rfl, hof⟩
      exact ⟨_, (), rfl, fun _ _ => rfl, rfl, Hp.quiet hst hof⟩
    · intro LL xx ac wc sg hst hwant QQ hgo
      exact op_val hwant hgo hst _ (exec_move rfl ((sg.free 6 (by kernel_rfl)).trans so6)) rfl
    · intro LL xx ac wc sg hst hwant QQ hgo
      have se134 : ac.eval (.tmp 134) = _ := (sg.slot 6 (sg.anc 6 rfl))
      have sg134 := gt_of se134
      have se135 : ac.eval (.tmp 135) = _ := (sg.slot 7 (sg.anc 7 rfl))
      have sg135 := gt_of se135
      (try simp only [nth] at se134 sg134 se135 sg135)
      exact op_val hwant hgo hst _ (by simp only [execOp, nth]; go_simp <;> omega) rfl
    · intro LL xx ac wc sg hst hwant QQ hgo
      exact op_val hwant hgo hst (.bool false) (exec_pick (B := false) (U := undef) (V := .bool false) rfl (sg.slot 4 (sg.anc 4 rfl)) (fun h => by cases h) (fun _ => (sg.slot 8 (sg.anc 8 rfl)))) rfl
  · refine skips [5, 6, 7, 8] (by kernel_rfl) ?_
    refine List.forall_mem_cons.2 ⟨?_, List.forall_mem_cons.2 ⟨?_, List.forall_mem_cons.2 ⟨?_, List.forall_mem_cons.2 ⟨?_, fun _ h => by cases h⟩⟩⟩⟩
    · intro oo hop LL xx ac sg hwant
      cases Option.some.inj hop
      exact absurd ((want_f rfl rfl (sg.slot 4 (sg.anc 4 rfl))).symm.trans hwant) (by decide)
    · intro oo hop LL xx ac sg hwant
      cases Option.some.inj hop
      exact absurd ((want_f rfl rfl (sg.slot 4 (sg.anc 4 rfl))).symm.trans hwant) (by decide)
    · intro oo hop LL xx ac sg hwant
      cases Option.some.inj hop
      exact absurd ((want_f rfl rfl (sg.slot 4 (sg.anc 4 rfl))).symm.trans hwant) (by decide)
    · intro oo hop LL xx ac sg hwant
      cases Option.some.inj hop
      exact absurd ((want_f rfl rfl (sg.slot 4 (sg.anc 4 rfl))).symm.trans hwant) (by decide)
  · intro xx ac1 wz hfr hsl hst
    exact hfin ac1 wz (hfr.size.trans hz) hfr.defers (fr_keep hfr [128, 129, 130, 131, 132, 133, 134, 135, 136, 137] (by kernel_rfl)) (hsl 9 (by decide)) (Lib.hid hst)
set_option maxRecDepth 20000 in
theorem exact6_w_r10x9 (n : Int) (rc : Nat) (acts : List ActV) (b5 : Nat) (i : Nat) (a : Option Addr) (cc : Nat) (la : Option Addr) (lc : Nat) (l : List PairV) (hi : i ≤ acts.length) (hi2 : i ≤ 100) (hll : l.length ≤ i) (z1ld : i < acts.length) (z1rd : (i : Int) < 100) (y : Addr) (x : ActV) (b9 : Nat) (z2d : ¬ (10 < (x.key.size : Int))) {wa wb : World} (H : Hid (Hp [] wa wb [rB b9 67 [.int .i64 x.kind, .string x.key, .int .i64 x.val], rS la lc 2 (l.map rowOf), rB b5 43 [.int .i64 (kR n), .slice a l.length cc], rS a cc 2 (l.map rowOf), rS (some y) rc 3 (acts.map actRow)])) (ac0 : Act) (hz : ac0.tmps.size = 143) (so8 : ac0.eval (.tmp 8) = .int .i64 i) {QR : Exit → Act → World → Prop} (hfin : ∀ (ac1 : Act) (wz : World), ac1.tmps.size = 143 → ac1.defers = ac0.defers → (∀ t, ([8, 40, 41] : List Nat).contains t = false → ac1.eval (.tmp t) = ac0.eval (.tmp t)) → ac1.eval (.tmp 8) = .int .i64 (i + 1) →  Hid (Hp [] wa wz [rB b9 67 [.int .i64 x.kind, .string x.key, .int .i64 x.val], rS la lc 2 (l.map rowOf), rB b5 43 [.int .i64 (kR n), .slice a l.length cc], rS a cc 2 (l.map rowOf), rS (some y) rc 3 (acts.map actRow)]) → QR .normal ac1 wz) : (regAt Try.f8 10).wp Try.prog QR ac0 wb := by
  refine wp_region_sq (by kernel_rfl) 143 hz (by kernel_rfl) (fun (xx : Unit) jx => nth [.int .i64 i, .int .i64 (i + 1), .int .i64 (i + 1)] jx) (fun (LL : Nat → Bool) (xx : Unit) ww => Hp [] wa ww [rB b9 67 [.int .i64 x.kind, .string x.key, .int .i64 x.val], rS la lc 2 (l.map rowOf), rB b5 43 [.int .i64 (kR n), .slice a l.length cc], rS a cc 2 (l.map rowOf), rS (some y) rc 3 (acts.map actRow)]) () H.out ?_ (steps_al ?_) ?_ ?_
  · exact fun _ _ _ _ _ h => h
  · refine al_cons ?_ (al_cons ?_ (al_cons ?_ (al_nil)))
    · intro LL xx ac wc sg hst hwant QQ hgo
      exact op_val hwant hgo hst _ (exec_move rfl ((sg.yet 8 2 (sg.des 2 rfl) (by kernel_rfl)).trans so8)) rfl
    · intro LL xx ac wc sg hst hwant QQ hgo
      have se40 : ac.eval (.tmp 40) = _ := (sg.slot 0 (sg.anc 0 rfl))
      have sg40 := gt_of se40
      (try simp only [nth] at se40 sg40)
      have hnw : IntKind.i64.wrap (i + 1 : Int) = i + 1 := IntWalk.i64_in _ (by omega)
      exact op_val hwant hgo hst _ (by simp only [execOp, nth]; go_simp <;> omega) rfl
    · intro LL xx ac wc sg hst hwant QQ hgo
      exact op_val hwant hgo hst _ (exec_assign rfl (sg.slot 1 (sg.anc 1 rfl))) rfl
  · exact skips [] (by kernel_rfl) (fun _ h => by cases h)
  · intro xx ac1 wz hfr hsl hst
    exact hfin ac1 wz (hfr.size.trans hz) hfr.defers (fr_keep hfr [8, 40, 41] (by kernel_rfl)) (hsl 2 (by decide)) (Lib.hid hst)
set_option maxRecDepth 20000 in
theorem exact6_w_r21 (n : Int) (rc : Nat) (acts : List ActV) (b5 : Nat) (i : Nat) (a : Option Addr) (cc : Nat) (la : Option Addr) (lc : Nat) (l : List PairV) (hi : i ≤ acts.length) (hi2 : i ≤ 100) (hll : l.length ≤ i) (z1ld : i < acts.length) (z1rd : (i : Int) < 100) (y : Addr) (x : ActV) (b9 : Nat) (z2d : ¬ (10 < (x.key.size : Int))) {wa wb : World} (H : Hid (Hp [] wa wb [rB b9 67 [.int .i64 x.kind, .string x.key, .int .i64 x.val], rS la lc 2 (l.map rowOf), rB b5 43 [.int .i64 (kR n), .slice a l.length cc], rS a cc 2 (l.map rowOf), rS (some y) rc 3 (acts.map actRow)])) (ac0 : Act) (hz : ac0.tmps.size = 143) (so51 : ac0.eval (.tmp 51) = .int .i64 x.kind) {QR : Exit → Act → World → Prop} (hfin : ∀ (ac1 : Act) (wz : World), ac1.tmps.size = 143 → ac1.defers = ac0.defers → (∀ t, ([74, 77] : List Nat).contains t = false → ac1.eval (.tmp t) = ac0.eval (.tmp t)) → ac1.eval (.tmp 74) = .bool (x.kind == 3) →  Hid (Hp [] wa wz [rB b9 67 [.int .i64 x.kind, .string x.key, .int .i64 x.val], rS la lc 2 (l.map rowOf), rB b5 43 [.int .i64 (kR n), .slice a l.length cc], rS a cc 2 (l.map rowOf), rS (some y) rc 3 (acts.map actRow)]) → QR .normal ac1 wz) : (regAt Try.f8 21).wp Try.prog QR ac0 wb := by
  refine wp_region_sq (by kernel_rfl) 143 hz (by kernel_rfl) (fun (xx : Unit) jx => nth [.bool (x.kind == 3), .bool (x.kind == 3)] jx) (fun (LL : Nat → Bool) (xx : Unit) ww => Hp [] wa ww [rB b9 67 [.int .i64 x.kind, .string x.key, .int .i64 x.val], rS la lc 2 (l.map rowOf), rB b5 43 [.int .i64 (kR n), .slice a l.length cc], rS a cc 2 (l.map rowOf), rS (some y) rc 3 (acts.map actRow)]) () H.out ?_ (steps_al ?_) ?_ ?_
  · exact fun _ _ _ _ _ h => h
  · refine al_cons ?_ (al_cons ?_ (al_nil))
    · intro LL xx ac wc sg hst hwant QQ hgo
      have se51 : ac.eval (.tmp 51) = _ := ((sg.free 51 (by kernel_rfl)).trans so51)
      have sg51 := gt_of se51
      exact op_val hwant hgo hst _ (by simp only [execOp, nth]; go_simp <;> omega) rfl
    · intro LL xx ac wc sg hst hwant QQ hgo
      exact op_val hwant hgo hst _ (exec_assign rfl (sg.slot 0 (sg.anc 0 rfl))) rfl
  · exact skips [] (by kernel_rfl) (fun _ h => by cases h)
  · intro xx ac1 wz hfr hsl hst
    exact hfin ac1 wz (hfr.size.trans hz) hfr.defers (fr_keep hfr [74, 77] (by kernel_rfl)) (hsl 1 (by decide)) (Lib.hid hst)
set_option maxRecDepth 20000 in
theorem exact6_w_r22x4 (n : Int) (rc : Nat) (acts : List ActV) (b5 : Nat) (i : Nat) (a : Option Addr) (cc : Nat) (la : Option Addr) (lc : Nat) (l : List PairV) (hi : i ≤ acts.length) (hi2 : i ≤ 100) (hll : l.length ≤ i) (hs : Hid (Sorted l)) (hrm : Hid (((l.length : Nat) : Int) ≤ kR n)) (z1ld : i < acts.length) (z1rd : (i : Int) < 100) (y : Addr) (x : ActV) (b9 : Nat) (z2d : ¬ (10 < (x.key.size : Int))) (y14 : ((!(getR x.key l).2) && (decide (kR n ≤ (l.length : Int)))) = true) {wa wb : World} (H : Hid (Hp [] wa wb [rB b9 67 [.int .i64 x.kind, .string x.key, .int .i64 x.val], rS la lc 2 (l.map rowOf), rB b5 43 [.int .i64 (kR n), .slice a l.length cc], rS a cc 2 (l.map rowOf), rS (some y) rc 3 (acts.map actRow)])) (ac0 : Act) (hz : ac0.tmps.size = 143) (so5 : ac0.eval (.tmp 5) = .pointer (some ⟨b5, 0, none⟩)) (so9 : ac0.eval (.tmp 9) = .pointer (some ⟨b9, 0, none⟩)) {QR : Exit → Act → World → Prop} (hfin : ∀ (a22_5 : Option Addr) (c22_5 : Nat) (b10 : Nat) (ac1 : Act) (wz : World), ac1.tmps.size = 143 → ac1.defers = ac0.defers → (∀ t, ([10, 11, 78, 79, 80, 81, 82, 83, 84, 85, 86] : List Nat).contains t = false → ac1.eval (.tmp t) = ac0.eval (.tmp t)) → ac1.eval (.tmp 10) = .pointer (some ⟨b10, 0, none⟩) → ac1.eval (.tmp 11) = .bool false →  Hid (Hp [] wa wz [rB b10 43 [.int .i64 (kR n), .slice a22_5 l.length c22_5], rS a22_5 c22_5 2 (l.map rowOf), rB b9 67 [.int .i64 x.kind, .string x.key, .int .i64 x.val], rS la lc 2 (l.map rowOf), rB b5 43 [.int .i64 (kR n), .slice a l.length cc], rS a cc 2 (l.map rowOf), rS (some y) rc 3 (acts.map actRow)]) → QR .normal ac1 wz) : (regAt Try.f8 22).wp Try.prog QR ac0 wb := by
  refine wp_region_sq (by kernel_rfl) 143 hz (by kernel_rfl) (fun (xx : Option Addr × Nat × Nat) jx => match xx with | (a22_5, c22_5, b10) => nth [.agg #[.int .i64 (kR n), .slice a l.length cc], .pointer (some ⟨b9, 1, none⟩), .string x.key, .pointer (some ⟨b9, 2, none⟩), .int .i64 x.val, .tuple #[.agg #[.int .i64 (kR n), .slice a22_5 l.length c22_5], .bool false], .tuple #[.agg #[.int .i64 (kR n), .slice a22_5 l.length c22_5], .bool false], .agg #[.int .i64 (kR n), .slice a22_5 l.length c22_5], .bool false, .pointer (some ⟨b10, 0, none⟩), undef, .bool false] jx) (fun (LL : Nat → Bool) (xx : Option Addr × Nat × Nat) ww => match xx with | (a22_5, c22_5, b10) => Hp [] wa ww (bif LL 10 then [rB b10 43 [.int .i64 (kR n), .slice a22_5 l.length c22_5], rS a22_5 c22_5 2 (l.map rowOf), rB b9 67 [.int .i64 x.kind, .string x.key, .int .i64 x.val], rS la lc 2 (l.map rowOf), rB b5 43 [.int .i64 (kR n), .slice a l.length cc], rS a cc 2 (l.map rowOf), rS (some y) rc 3 (acts.map actRow)] else (bif LL 9 then [rB b10 43 [.int .i64 0, .slice none 0 0], rS a22_5 c22_5 2 (l.map rowOf), rB b9 67 [.int .i64 x.kind, .string x.key, .int .i64 x.val], rS la lc 2 (l.map rowOf), rB b5 43 [.int .i64 (kR n), .slice a l.length cc], rS a cc 2 (l.map rowOf), rS (some y) rc 3 (acts.map actRow)] else (bif LL 5 then [rS a22_5 c22_5 2 (l.map rowOf), rB b9 67 [.int .i64 x.kind, .string x.key, .int .i64 x.val], rS la lc 2 (l.map rowOf), rB b5 43 [.int .i64 (kR n), .slice a l.length cc], rS a cc 2 (l.map rowOf), rS (some y) rc 3 (acts.map actRow)] else [rB b9 67 [.int .i64 x.kind, .string x.key, .int .i64 x.val], rS la lc 2 (l.map rowOf), rB b5 43 [.int .i64 (kR n), .slice a l.length cc], rS a cc 2 (l.map rowOf), rS (some y) rc 3 (acts.map actRow)])))) (default, default, default) H.out ?_ (steps_al ?_) ?_ ?_
  · intro L1 L2 xx ww hL sg
    have lh5 := hL 5 (by decide)
    have lh9 := hL 9 (by decide)
    have lh10 := hL 10 (by decide)
    simp only [lh5, lh9, lh10] at sg
    exact sg
  · refine al_cons ?_ (al_cons ?_ (al_cons ?_ (al_cons ?_ (al_cons ?_ (al_cons ?_ (al_cons ?_ (al_cons ?_ (al_cons ?_ (al_cons ?_ (al_cons ?_ (al_cons ?_ (al_nil))))))))))))
    · intro LL xx ac wc sg hst hwant QQ hgo
      obtain ⟨a22_5, c22_5, b10⟩ := xx
      have H := Lib.hid hst
      simp only [sg.des 5 rfl, sg.des 9 rfl, sg.des 10 rfl, cond_true, cond_false] at H
      refine hpA_load tyshelf_Shelf_string__int_ H rfl ((sg.free 5 (by kernel_rfl)).trans so5) hwant (by (repeat (first | exact List.Mem.head _ | apply List.Mem.tail))) (by rfl) rfl ?_
      exact hgo _ (a22_5, c22_5, b10) _ (fun _ _ => rfl) rfl hst
    · intro LL xx ac wc sg hst hwant QQ hgo
      obtain ⟨a22_5, c22_5, b10⟩ := xx
      have se9 : ac.eval (.tmp 9) = _ := ((sg.free 9 (by kernel_rfl)).trans so9)
      have sg9 := gt_of se9
      exact op_val hwant hgo hst _ (by simp only [execOp, nth]; go_simp <;> omega) rfl
    · intro LL xx ac wc sg hst hwant QQ hgo
      obtain ⟨a22_5, c22_5, b10⟩ := xx
      have H := Lib.hid hst
      simp only [sg.des 5 rfl, sg.des 9 rfl, sg.des 10 rfl, cond_true, cond_false] at H
      refine hpA_load1 tystring H rfl (sg.slot 1 (sg.anc 1 rfl)) hwant (by (repeat (first | exact List.Mem.head _ | apply List.Mem.tail))) (by rfl) ?_
      exact hgo _ (a22_5, c22_5, b10) _ (fun _ _ => rfl) rfl hst
    · intro LL xx ac wc sg hst hwant QQ hgo
      obtain ⟨a22_5, c22_5, b10⟩ := xx
      have se9 : ac.eval (.tmp 9) = _ := ((sg.free 9 (by kernel_rfl)).trans so9)
      have sg9 := gt_of se9
      exact op_val hwant hgo hst _ (by simp only [execOp, nth]; go_simp <;> omega) rfl
    · intro LL xx ac wc sg hst hwant QQ hgo
      obtain ⟨a22_5, c22_5, b10⟩ := xx
      have H := Lib.hid hst
      simp only [sg.des 5 rfl, sg.des 9 rfl, sg.des 10 rfl, cond_true, cond_false] at H
      refine hpA_load1 tyint H rfl (sg.slot 3 (sg.anc 3 rfl)) hwant (by (repeat (first | exact List.Mem.head _ | apply List.Mem.tail))) (by rfl) ?_
      exact hgo _ (a22_5, c22_5, b10) _ (fun _ _ => rfl) rfl hst
    · intro LL xx ac wc sg hst hwant QQ hgo
      obtain ⟨_, _, b10⟩ := xx
      have se79 : ac.eval (.tmp 79) = _ := (sg.slot 0 (sg.anc 0 rfl))
      have sg79 := gt_of se79
      have se81 : ac.eval (.tmp 81) = _ := (sg.slot 2 (sg.anc 2 rfl))
      have sg81 := gt_of se81
      have se83 : ac.eval (.tmp 83) = _ := (sg.slot 4 (sg.anc 4 rfl))
      have sg83 := gt_of se83
      (try simp only [nth] at se79 sg79 se81 sg81 se83 sg83)
      have H := Lib.hid hst
      simp only [sg.self, sg.des 9 rfl, sg.des 10 rfl, cond_true, cond_false] at H
      refine op_call hwant hgo 27 _ (by simp only [execOp]; go_simp) (sWithNo (kR n) a cc l x.key x.val wc (hp_held H (show rS a cc 2 (l.map rowOf) ∈ _ by (repeat (first | exact List.Mem.head _ | apply List.Mem.tail)))) hs.out (by omega) hrm.out y14) ?_
      rintro er wd ⟨a22_5, c22_5, rfl, hgv⟩
      have H2 := hp_got H hgv.2.2 hgv.1 (by decide) hgv.2.1 (by simp)
      exact ⟨_, (a22_5, c22_5, b10), rfl, (sg.agree (x' := (a22_5, c22_5, b10)) (n := 12) rfl (by (iterate 12 (refine ix_cons (by first | exact fun _ => rfl | exact no sg.self | exact no (sg.des _ rfl)) ?_)); exact ix_nil)), rfl, (by simp only [(show upd LL 5 5 = true from rfl), (show upd LL 5 9 = LL 9 from rfl), sg.des 9 rfl, (show upd LL 5 10 = LL 10 from rfl), sg.des 10 rfl, cond_true, cond_false]; exact H2.out)⟩
    · intro LL xx ac wc sg hst hwant QQ hgo
      obtain ⟨a22_5, c22_5, b10⟩ := xx
      exact op_val hwant hgo hst _ (exec_move rfl (sg.slot 5 (sg.anc 5 rfl))) rfl
    · intro LL xx ac wc sg hst hwant QQ hgo
      obtain ⟨a22_5, c22_5, b10⟩ := xx
      have se78 : ac.eval (.tmp 78) = _ := (sg.slot 6 (sg.anc 6 rfl))
      have sg78 := gt_of se78
      (try simp only [nth] at se78 sg78)
      exact op_val hwant hgo hst _ (by simp only [execOp, nth]; go_simp <;> omega) rfl
    · intro LL xx ac wc sg hst hwant QQ hgo
      obtain ⟨a22_5, c22_5, b10⟩ := xx
      have se78 : ac.eval (.tmp 78) = _ := (sg.slot 6 (sg.anc 6 rfl))
      have sg78 := gt_of se78
      (try simp only [nth] at se78 sg78)
      exact op_val hwant hgo hst _ (by simp only [execOp, nth]; go_simp <;> omega) rfl
    · intro LL xx ac wc sg hst hwant QQ hgo
      obtain ⟨a22_5, c22_5, _⟩ := xx
      have H := Lib.hid hst
      simp only [sg.anc 5 rfl, sg.self, sg.des 10 rfl, cond_true, cond_false] at H
      refine hpA_alloc tyshelf_Shelf_string__int_ H rfl rfl ?_
      intro wd b10 H2
      exact hgo _ (a22_5, c22_5, b10) _ (sg.agree (x' := (a22_5, c22_5, b10)) (n := 12) rfl (by (iterate 12 (refine ix_cons (by first | exact fun _ => rfl | exact no sg.self | exact no (sg.des _ rfl)) ?_)); exact ix_nil)) rfl (by simp only [(show upd LL 9 5 = LL 5 from rfl), sg.anc 5 rfl, (show upd LL 9 9 = true from rfl), (show upd LL 9 10 = LL 10 from rfl), sg.des 10 rfl, cond_true, cond_false]; exact H2.out)
    · intro LL xx ac wc sg hst hwant QQ hgo
      obtain ⟨a22_5, c22_5, b10⟩ := xx
      have H := Lib.hid hst
      simp only [sg.anc 5 rfl, sg.anc 9 rfl, sg.self, cond_true, cond_false] at H
      refine hpA_store tyshelf_Shelf_string__int_ H rfl rfl (sg.slot 9 (sg.anc 9 rfl)) (sg.slot 7 (sg.anc 7 rfl)) rfl (by repeat (first | apply Put.head | apply Put.tail)) (by simp [List.length_cons]) (by simp [List.length_cons, Value.oneCell']) (by first | rfl | (simp only [spl]; rfl)) rfl ?_
      intro wd H2
      exact hgo _ (a22_5, c22_5, b10) _ (sg.agree (x' := (a22_5, c22_5, b10)) (n := 12) rfl (by (iterate 12 (refine ix_cons (by first | exact fun _ => rfl | exact no sg.self | exact no (sg.des _ rfl)) ?_)); exact ix_nil)) rfl (by simp only [(show upd LL 10 5 = LL 5 from rfl), sg.anc 5 rfl, (show upd LL 10 9 = LL 9 from rfl), sg.anc 9 rfl, (show upd LL 10 10 = true from rfl), cond_true, cond_false]; exact H2.out)
    · intro LL xx ac wc sg hst hwant QQ hgo
      obtain ⟨a22_5, c22_5, b10⟩ := xx
      exact op_val hwant hgo hst _ (exec_assign rfl (sg.slot 8 (sg.anc 8 rfl))) rfl
  · exact skips [] (by kernel_rfl) (fun _ h => by cases h)
  · intro xx ac1 wz hfr hsl hst
    obtain ⟨a22_5, c22_5, b10⟩ := xx
    exact hfin a22_5 c22_5 b10 ac1 wz (hfr.size.trans hz) hfr.defers (fr_keep hfr [10, 11, 78, 79, 80, 81, 82, 83, 84, 85, 86] (by kernel_rfl)) (hsl 9 (by decide)) (hsl 11 (by decide)) (Lib.hid hst)
set_option maxRecDepth 20000 in
theorem exact6_w_r23x4 (n : Int) (rc : Nat) (acts : List ActV) (b5 : Nat) (i : Nat) (a : Option Addr) (cc : Nat) (la : Option Addr) (lc : Nat) (l : List PairV) (hi : i ≤ acts.length) (hi2 : i ≤ 100) (hll : l.length ≤ i) (z1ld : i < acts.length) (z1rd : (i : Int) < 100) (y : Addr) (x : ActV) (b9 : Nat) (z2d : ¬ (10 < (x.key.size : Int))) (y14 : ((!(getR x.key l).2) && (decide (kR n ≤ (l.length : Int)))) = true) (a22_5 : Option Addr) (c22_5 : Nat) (b10 : Nat) {wa wb : World} (H : Hid (Hp [] wa wb [rB b10 43 [.int .i64 (kR n), .slice a22_5 l.length c22_5], rS a22_5 c22_5 2 (l.map rowOf), rB b9 67 [.int .i64 x.kind, .string x.key, .int .i64 x.val], rS la lc 2 (l.map rowOf), rB b5 43 [.int .i64 (kR n), .slice a l.length cc], rS a cc 2 (l.map rowOf), rS (some y) rc 3 (acts.map actRow)])) (ac0 : Act) (hz : ac0.tmps.size = 143) (so6 : ac0.eval (.tmp 6) = .int .i64 (kR n)) (so7 : ac0.eval (.tmp 7) = .slice la l.length lc) (so9 : ac0.eval (.tmp 9) = .pointer (some ⟨b9, 0, none⟩)) {QR : Exit → Act → World → Prop} (hfin : ∀ (ac1 : Act) (wz : World), ac1.tmps.size = 143 → ac1.defers = ac0.defers → (∀ t, ([12, 13, 87, 88, 89, 90, 91, 92, 93, 94, 95, 96] : List Nat).contains t = false → ac1.eval (.tmp t) = ac0.eval (.tmp t)) → ac1.eval (.tmp 12) = .slice la l.length lc → ac1.eval (.tmp 13) = .bool false →  Hid (Hp [] wa wz [rB b10 43 [.int .i64 (kR n), .slice a22_5 l.length c22_5], rS a22_5 c22_5 2 (l.map rowOf), rB b9 67 [.int .i64 x.kind, .string x.key, .int .i64 x.val], rS la lc 2 (l.map rowOf), rB b5 43 [.int .i64 (kR n), .slice a l.length cc], rS a cc 2 (l.map rowOf), rS (some y) rc 3 (acts.map actRow)]) → QR .normal ac1 wz) : (regAt Try.f8 23).wp Try.prog QR ac0 wb := by
  refine wp_region_sq (by kernel_rfl) 143 hz (by kernel_rfl) (fun (xx : Unit) jx => nth [.slice la l.length lc, .int .i64 (kR n), .pointer (some ⟨b9, 1, none⟩), .string x.key, .pointer (some ⟨b9, 2, none⟩), .int .i64 x.val, .tuple #[.slice la l.length lc, .bool false], .tuple #[.slice la l.length lc, .bool false], .slice la l.length lc, .bool false, .slice la l.length lc, .bool false] jx) (fun (LL : Nat → Bool) (xx : Unit) ww => Hp [] wa ww [rB b10 43 [.int .i64 (kR n), .slice a22_5 l.length c22_5], rS a22_5 c22_5 2 (l.map rowOf), rB b9 67 [.int .i64 x.kind, .string x.key, .int .i64 x.val], rS la lc 2 (l.map rowOf), rB b5 43 [.int .i64 (kR n), .slice a l.length cc], rS a cc 2 (l.map rowOf), rS (some y) rc 3 (acts.map actRow)]) () H.out ?_ (steps_al ?_) ?_ ?_
  · exact fun _ _ _ _ _ h => h
  · refine al_cons ?_ (al_cons ?_ (al_cons ?_ (al_cons ?_ (al_cons ?_ (al_cons ?_ (al_cons ?_ (al_cons ?_ (al_cons ?_ (al_cons ?_ (al_cons ?_ (al_cons ?_ (al_nil))))))))))))
    · intro LL xx ac wc sg hst hwant QQ hgo
      exact op_val hwant hgo hst _ (exec_move rfl ((sg.free 7 (by kernel_rfl)).trans so7)) rfl
    · intro LL xx ac wc sg hst hwant QQ hgo
      exact op_val hwant hgo hst _ (exec_move rfl ((sg.free 6 (by kernel_rfl)).trans so6)) rfl
    · intro LL xx ac wc sg hst hwant QQ hgo
      have se9 : ac.eval (.tmp 9) = _ := ((sg.free 9 (by kernel_rfl)).trans so9)
      have sg9 := gt_of se9
      exact op_val hwant hgo hst _ (by simp only [execOp, nth]; go_simp <;> omega) rfl
    · intro LL xx ac wc sg hst hwant QQ hgo
      have H := Lib.hid hst
      refine hpA_load1 tystring H rfl (sg.slot 2 (sg.anc 2 rfl)) hwant (by (repeat (first | exact List.Mem.head _ | apply List.Mem.tail))) (by rfl) ?_
      exact hgo _ () _ (fun _ _ => rfl) rfl hst
    · intro LL xx ac wc sg hst hwant QQ hgo
      have se9 : ac.eval (.tmp 9) = _ := ((sg.free 9 (by kernel_rfl)).trans so9)
      have sg9 := gt_of se9
      exact op_val hwant hgo hst _ (by simp only [execOp, nth]; go_simp <;> omega) rfl
    · intro LL xx ac wc sg hst hwant QQ hgo
      have H := Lib.hid hst
      refine hpA_load1 tyint H rfl (sg.slot 4 (sg.anc 4 rfl)) hwant (by (repeat (first | exact List.Mem.head _ | apply List.Mem.tail))) (by rfl) ?_
      exact hgo _ () _ (fun _ _ => rfl) rfl hst
    · intro LL xx ac wc sg hst hwant QQ hgo
      have se88 : ac.eval (.tmp 88) = _ := (sg.slot 0 (sg.anc 0 rfl))
      have sg88 := gt_of se88
      have se89 : ac.eval (.tmp 89) = _ := (sg.slot 1 (sg.anc 1 rfl))
      have sg89 := gt_of se89
      have se91 : ac.eval (.tmp 91) = _ := (sg.slot 3 (sg.anc 3 rfl))
      have sg91 := gt_of se91
      have se93 : ac.eval (.tmp 93) = _ := (sg.slot 5 (sg.anc 5 rfl))
      have sg93 := gt_of se93
      (try simp only [nth] at se88 sg88 se89 sg89 se91 sg91 se93 sg93)
      have H := Lib.hid hst
      refine op_call hwant hgo 38 _ (by simp only [execOp]; go_simp) (withRno6 la lc l (kR n) x.key x.val wc (hp_held H (show rS la lc 2 (l.map rowOf) ∈ _ by (repeat (first | exact List.Mem.head _ | apply List.Mem.tail)))) (by omega) y14) ?_
      rintro er wd ⟨rfl, hof⟩
      exact ⟨_, (), rfl, fun _ _ => rfl, rfl, Hp.quiet hst hof⟩
    · intro LL xx ac wc sg hst hwant QQ hgo
      exact op_val hwant hgo hst _ (exec_move rfl (sg.slot 6 (sg.anc 6 rfl))) rfl
    · intro LL xx ac wc sg hst hwant QQ hgo
      have se87 : ac.eval (.tmp 87) = _ := (sg.slot 7 (sg.anc 7 rfl))
      have sg87 := gt_of se87
      (try simp only [nth] at se87 sg87)
      exact op_val hwant hgo hst _ (by simp only [execOp, nth]; go_simp <;> omega) rfl
    · intro LL xx ac wc sg hst hwant QQ hgo
      have se87 : ac.eval (.tmp 87) = _ := (sg.slot 7 (sg.anc 7 rfl))
      have sg87 := gt_of se87
      (try simp only [nth] at se87 sg87)
      exact op_val hwant hgo hst _ (by simp only [execOp, nth]; go_simp <;> omega) rfl
    · intro LL xx ac wc sg hst hwant QQ hgo
      exact op_val hwant hgo hst _ (exec_assign rfl (sg.slot 8 (sg.anc 8 rfl))) rfl
    · intro LL xx ac wc sg hst hwant QQ hgo
      exact op_val hwant hgo hst _ (exec_assign rfl (sg.slot 9 (sg.anc 9 rfl))) rfl
  · exact skips [] (by kernel_rfl) (fun _ h => by cases h)
  · intro xx ac1 wz hfr hsl hst
    exact hfin ac1 wz (hfr.size.trans hz) hfr.defers (fr_keep hfr [12, 13, 87, 88, 89, 90, 91, 92, 93, 94, 95, 96] (by kernel_rfl)) (hsl 10 (by decide)) (hsl 11 (by decide)) (Lib.hid hst)
set_option maxRecDepth 20000 in
theorem exact6_w_r24x4 (n : Int) (rc : Nat) (acts : List ActV) (b5 : Nat) (i : Nat) (a : Option Addr) (cc : Nat) (la : Option Addr) (lc : Nat) (l : List PairV) (hi : i ≤ acts.length) (hi2 : i ≤ 100) (hll : l.length ≤ i) (z1ld : i < acts.length) (z1rd : (i : Int) < 100) (y : Addr) (x : ActV) (b9 : Nat) (z2d : ¬ (10 < (x.key.size : Int))) (a22_5 : Option Addr) (c22_5 : Nat) (b10 : Nat) {wa wb : World} (H : Hid (Hp [] wa wb [rB b10 43 [.int .i64 (kR n), .slice a22_5 l.length c22_5], rS a22_5 c22_5 2 (l.map rowOf), rB b9 67 [.int .i64 x.kind, .string x.key, .int .i64 x.val], rS la lc 2 (l.map rowOf), rB b5 43 [.int .i64 (kR n), .slice a l.length cc], rS a cc 2 (l.map rowOf), rS (some y) rc 3 (acts.map actRow)])) (ac0 : Act) (hz : ac0.tmps.size = 143) (so11 : ac0.eval (.tmp 11) = .bool false) (so13 : ac0.eval (.tmp 13) = .bool false) {QR : Exit → Act → World → Prop} (hfin : ∀ (ac1 : Act) (wz : World), ac1.tmps.size = 143 → ac1.defers = ac0.defers → (∀ t, ([97, 98, 99] : List Nat).contains t = false → ac1.eval (.tmp t) = ac0.eval (.tmp t)) → ac1.eval (.tmp 99) = .bool false →  Hid (Hp [] wa wz [rB b10 43 [.int .i64 (kR n), .slice a22_5 l.length c22_5], rS a22_5 c22_5 2 (l.map rowOf), rB b9 67 [.int .i64 x.kind, .string x.key, .int .i64 x.val], rS la lc 2 (l.map rowOf), rB b5 43 [.int .i64 (kR n), .slice a l.length cc], rS a cc 2 (l.map rowOf), rS (some y) rc 3 (acts.map actRow)]) → QR .normal ac1 wz) : (regAt Try.f8 24).wp Try.prog QR ac0 wb := by
  refine wp_region_sq (by kernel_rfl) 143 hz (by kernel_rfl) (fun (xx : Unit) jx => nth [.bool false, .bool false, .bool false] jx) (fun (LL : Nat → Bool) (xx : Unit) ww => Hp [] wa ww [rB b10 43 [.int .i64 (kR n), .slice a22_5 l.length c22_5], rS a22_5 c22_5 2 (l.map rowOf), rB b9 67 [.int .i64 x.kind, .string x.key, .int .i64 x.val], rS la lc 2 (l.map rowOf), rB b5 43 [.int .i64 (kR n), .slice a l.length cc], rS a cc 2 (l.map rowOf), rS (some y) rc 3 (acts.map actRow)]) () H.out ?_ (steps_al ?_) ?_ ?_
  · exact fun _ _ _ _ _ h => h
  · refine al_cons ?_ (al_cons ?_ (al_cons ?_ (al_nil)))
    · intro LL xx ac wc sg hst hwant QQ hgo
      exact op_val hwant hgo hst _ (exec_move rfl ((sg.free 11 (by kernel_rfl)).trans so11)) rfl
    · intro LL xx ac wc sg hst hwant QQ hgo
      exact op_val hwant hgo hst _ (exec_move rfl ((sg.free 13 (by kernel_rfl)).trans so13)) rfl
    · intro LL xx ac wc sg hst hwant QQ hgo
      have se97 : ac.eval (.tmp 97) = _ := (sg.slot 0 (sg.anc 0 rfl))
      have sg97 := gt_of se97
      have se98 : ac.eval (.tmp 98) = _ := (sg.slot 1 (sg.anc 1 rfl))
      have sg98 := gt_of se98
      (try simp only [nth] at se97 sg97 se98 sg98)
      exact op_val hwant hgo hst _ (by simp only [execOp, nth]; go_simp <;> omega) rfl
  · exact skips [] (by kernel_rfl) (fun _ h => by cases h)
  · intro xx ac1 wz hfr hsl hst
    exact hfin ac1 wz (hfr.size.trans hz) hfr.defers (fr_keep hfr [97, 98, 99] (by kernel_rfl)) (hsl 2 (by decide)) (Lib.hid hst)
set_option maxRecDepth 20000 in
theorem exact6_w_r26x4 (n : Int) (rc : Nat) (acts : List ActV) (b5 : Nat) (i : Nat) (a : Option Addr) (cc : Nat) (la : Option Addr) (lc : Nat) (l : List PairV) (hi : i ≤ acts.length) (hi2 : i ≤ 100) (hll : l.length ≤ i) (z1ld : i < acts.length) (z1rd : (i : Int) < 100) (y : Addr) (x : ActV) (b9 : Nat) (z2d : ¬ (10 < (x.key.size : Int))) (a22_5 : Option Addr) (c22_5 : Nat) (b10 : Nat) {wa wb : World} (H : Hid (Hp [] wa wb [rB b10 43 [.int .i64 (kR n), .slice a22_5 l.length c22_5], rS a22_5 c22_5 2 (l.map rowOf), rB b9 67 [.int .i64 x.kind, .string x.key, .int .i64 x.val], rS la lc 2 (l.map rowOf), rB b5 43 [.int .i64 (kR n), .slice a l.length cc], rS a cc 2 (l.map rowOf), rS (some y) rc 3 (acts.map actRow)])) (ac0 : Act) (hz : ac0.tmps.size = 143) (so5 : ac0.eval (.tmp 5) = .pointer (some ⟨b5, 0, none⟩)) (so10 : ac0.eval (.tmp 10) = .pointer (some ⟨b10, 0, none⟩)) {QR : Exit → Act → World → Prop} (hfin : ∀ (ac1 : Act) (wz : World), ac1.tmps.size = 143 → ac1.defers = ac0.defers → (∀ t, ([100] : List Nat).contains t = false → ac1.eval (.tmp t) = ac0.eval (.tmp t)) →  Hid (Hp [] wa wz [rB b10 43 [.int .i64 (kR n), .slice a22_5 l.length c22_5], rS a22_5 c22_5 2 (l.map rowOf), rB b9 67 [.int .i64 x.kind, .string x.key, .int .i64 x.val], rS la lc 2 (l.map rowOf), rB b5 43 [.int .i64 (kR n), .slice a22_5 l.length c22_5], rS a cc 2 (l.map rowOf), rS (some y) rc 3 (acts.map actRow)]) → QR .normal ac1 wz) : (regAt Try.f8 26).wp Try.prog QR ac0 wb := by
  refine wp_region_sq (by kernel_rfl) 143 hz (by kernel_rfl) (fun (xx : Unit) jx => nth [.agg #[.int .i64 (kR n), .slice a22_5 l.length c22_5], undef] jx) (fun (LL : Nat → Bool) (xx : Unit) ww => Hp [] wa ww (bif LL 1 then [rB b10 43 [.int .i64 (kR n), .slice a22_5 l.length c22_5], rS a22_5 c22_5 2 (l.map rowOf), rB b9 67 [.int .i64 x.kind, .string x.key, .int .i64 x.val], rS la lc 2 (l.map rowOf), rB b5 43 [.int .i64 (kR n), .slice a22_5 l.length c22_5], rS a cc 2 (l.map rowOf), rS (some y) rc 3 (acts.map actRow)] else [rB b10 43 [.int .i64 (kR n), .slice a22_5 l.length c22_5], rS a22_5 c22_5 2 (l.map rowOf), rB b9 67 [.int .i64 x.kind, .string x.key, .int .i64 x.val], rS la lc 2 (l.map rowOf), rB b5 43 [.int .i64 (kR n), .slice a l.length cc], rS a cc 2 (l.map rowOf), rS (some y) rc 3 (acts.map actRow)])) () H.out ?_ (steps_al ?_) ?_ ?_
  · intro L1 L2 xx ww hL sg
    have lh1 := hL 1 (by decide)
    simp only [lh1] at sg
    exact sg
  · refine al_cons ?_ (al_cons ?_ (al_nil))
    · intro LL xx ac wc sg hst hwant QQ hgo
      have H := Lib.hid hst
      simp only [sg.des 1 rfl, cond_true, cond_false] at H
      refine hpA_load tyshelf_Shelf_string__int_ H rfl ((sg.free 10 (by kernel_rfl)).trans so10) hwant (by (repeat (first | exact List.Mem.head _ | apply List.Mem.tail))) (by rfl) rfl ?_
      exact hgo _ () _ (fun _ _ => rfl) rfl hst
    · intro LL xx ac wc sg hst hwant QQ hgo
      have H := Lib.hid hst
      simp only [sg.self, cond_true, cond_false] at H
      refine hpA_store tyshelf_Shelf_string__int_ H rfl rfl ((sg.free 5 (by kernel_rfl)).trans so5) (sg.slot 0 (sg.anc 0 rfl)) rfl (by repeat (first | apply Put.head | apply Put.tail)) (by simp [List.length_cons]) (by simp [List.length_cons, Value.oneCell']) (by first | rfl | (simp only [spl]; rfl)) rfl ?_
      intro wd H2
      exact hgo _ () _ (fun _ _ => rfl) rfl (by simp only [(show upd LL 1 1 = true from rfl), cond_true, cond_false]; exact H2.out)
  · exact skips [] (by kernel_rfl) (fun _ h => by cases h)
  · intro xx ac1 wz hfr hsl hst
    exact hfin ac1 wz (hfr.size.trans hz) hfr.defers (fr_keep hfr [100] (by kernel_rfl)) (Lib.hid hst)
set_option maxRecDepth 20000 in
theorem exact6_w_r27x4 (n : Int) (rc : Nat) (acts : List ActV) (b5 : Nat) (i : Nat) (a : Option Addr) (cc : Nat) (la : Option Addr) (lc : Nat) (l : List PairV) (hi : i ≤ acts.length) (hi2 : i ≤ 100) (hll : l.length ≤ i) (z1ld : i < acts.length) (z1rd : (i : Int) < 100) (y : Addr) (x : ActV) (b9 : Nat) (z2d : ¬ (10 < (x.key.size : Int))) (a22_5 : Option Addr) (c22_5 : Nat) (b10 : Nat) {wa wb : World} (H : Hid (Hp [] wa wb [rB b10 43 [.int .i64 (kR n), .slice a22_5 l.length c22_5], rS a22_5 c22_5 2 (l.map rowOf), rB b9 67 [.int .i64 x.kind, .string x.key, .int .i64 x.val], rS la lc 2 (l.map rowOf), rB b5 43 [.int .i64 (kR n), .slice a22_5 l.length c22_5], rS a cc 2 (l.map rowOf), rS (some y) rc 3 (acts.map actRow)])) (ac0 : Act) (hz : ac0.tmps.size = 143) (so12 : ac0.eval (.tmp 12) = .slice la l.length lc) {QR : Exit → Act → World → Prop} (hfin : ∀ (ac1 : Act) (wz : World), ac1.tmps.size = 143 → ac1.defers = ac0.defers → (∀ t, ([7, 101] : List Nat).contains t = false → ac1.eval (.tmp t) = ac0.eval (.tmp t)) → ac1.eval (.tmp 7) = .slice la l.length lc →  Hid (Hp [] wa wz [rB b10 43 [.int .i64 (kR n), .slice a22_5 l.length c22_5], rS a22_5 c22_5 2 (l.map rowOf), rB b9 67 [.int .i64 x.kind, .string x.key, .int .i64 x.val], rS la lc 2 (l.map rowOf), rB b5 43 [.int .i64 (kR n), .slice a22_5 l.length c22_5], rS a cc 2 (l.map rowOf), rS (some y) rc 3 (acts.map actRow)]) → QR .normal ac1 wz) : (regAt Try.f8 27).wp Try.prog QR ac0 wb := by
  refine wp_region_sq (by kernel_rfl) 143 hz (by kernel_rfl) (fun (xx : Unit) jx => nth [.slice la l.length lc, .slice la l.length lc] jx) (fun (LL : Nat → Bool) (xx : Unit) ww => Hp [] wa ww [rB b10 43 [.int .i64 (kR n), .slice a22_5 l.length c22_5], rS a22_5 c22_5 2 (l.map rowOf), rB b9 67 [.int .i64 x.kind, .string x.key, .int .i64 x.val], rS la lc 2 (l.map rowOf), rB b5 43 [.int .i64 (kR n), .slice a22_5 l.length c22_5], rS a cc 2 (l.map rowOf), rS (some y) rc 3 (acts.map actRow)]) () H.out ?_ (steps_al ?_) ?_ ?_
  · exact fun _ _ _ _ _ h => h
  · refine al_cons ?_ (al_cons ?_ (al_nil))
    · intro LL xx ac wc sg hst hwant QQ hgo
      exact op_val hwant hgo hst _ (exec_move rfl ((sg.free 12 (by kernel_rfl)).trans so12)) rfl
    · intro LL xx ac wc sg hst hwant QQ hgo
      exact op_val hwant hgo hst _ (exec_assign rfl (sg.slot 0 (sg.anc 0 rfl))) rfl
  · exact skips [] (by kernel_rfl) (fun _ h => by cases h)
  · intro xx ac1 wz hfr hsl hst
    exact hfin ac1 wz (hfr.size.trans hz) hfr.defers (fr_keep hfr [7, 101] (by kernel_rfl)) (hsl 1 (by decide)) (Lib.hid hst)
set_option maxRecDepth 20000 in
theorem exact6_w_r35x10 (n : Int) (rc : Nat) (acts : List ActV) (b5 : Nat) (i : Nat) (a : Option Addr) (cc : Nat) (la : Option Addr) (lc : Nat) (l : List PairV) (hi : i ≤ acts.length) (hi2 : i ≤ 100) (hll : l.length ≤ i) (z1ld : i < acts.length) (z1rd : (i : Int) < 100) (y : Addr) (x : ActV) (b9 : Nat) (z2d : ¬ (10 < (x.key.size : Int))) (a22_5 : Option Addr) (c22_5 : Nat) (b10 : Nat) {wa wb : World} (H : Hid (Hp [] wa wb [rB b10 43 [.int .i64 (kR n), .slice a22_5 l.length c22_5], rS a22_5 c22_5 2 (l.map rowOf), rB b9 67 [.int .i64 x.kind, .string x.key, .int .i64 x.val], rS la lc 2 (l.map rowOf), rB b5 43 [.int .i64 (kR n), .slice a22_5 l.length c22_5], rS a cc 2 (l.map rowOf), rS (some y) rc 3 (acts.map actRow)])) (ac0 : Act) (hz : ac0.tmps.size = 143) (so5 : ac0.eval (.tmp 5) = .pointer (some ⟨b5, 0, none⟩)) (so6 : ac0.eval (.tmp 6) = .int .i64 (kR n)) (so7 : ac0.eval (.tmp 7) = .slice la l.length lc) {QR : Exit → Act → World → Prop} (hfin : ∀ (ac1 : Act) (wz : World), ac1.tmps.size = 143 → ac1.defers = ac0.defers → (∀ t, ([128, 129, 130, 131, 132, 133, 134, 135, 136, 137] : List Nat).contains t = false → ac1.eval (.tmp t) = ac0.eval (.tmp t)) → ac1.eval (.tmp 137) = .bool false →  Hid (Hp [] wa wz [rB b10 43 [.int .i64 (kR n), .slice a22_5 l.length c22_5], rS a22_5 c22_5 2 (l.map rowOf), rB b9 67 [.int .i64 x.kind, .string x.key, .int .i64 x.val], rS la lc 2 (l.map rowOf), rB b5 43 [.int .i64 (kR n), .slice a22_5 l.length c22_5], rS a cc 2 (l.map rowOf), rS (some y) rc 3 (acts.map actRow)]) → QR .normal ac1 wz) : (regAt Try.f8 35).wp Try.prog QR ac0 wb := by
  refine wp_region_sq (by kernel_rfl) 143 hz (by kernel_rfl) (fun (xx : Unit) jx => nth [.agg #[.int .i64 (kR n), .slice a22_5 l.length c22_5], .slice la l.length lc, .bool true, .bool false, .bool false, .agg #[.int .i64 (kR n), .slice a22_5 l.length c22_5], .int .i64 (kR n), .int .i64 (kR n), .bool false, .bool false] jx) (fun (LL : Nat → Bool) (xx : Unit) ww => Hp [] wa ww [rB b10 43 [.int .i64 (kR n), .slice a22_5 l.length c22_5], rS a22_5 c22_5 2 (l.map rowOf), rB b9 67 [.int .i64 x.kind, .string x.key, .int .i64 x.val], rS la lc 2 (l.map rowOf), rB b5 43 [.int .i64 (kR n), .slice a22_5 l.length c22_5], rS a cc 2 (l.map rowOf), rS (some y) rc 3 (acts.map actRow)]) () H.out ?_ (steps_al ?_) ?_ ?_
  · exact fun _ _ _ _ _ h => h
  · refine al_cons ?_ (al_cons ?_ (al_cons ?_ (al_cons ?_ (al_cons ?_ (al_cons ?_ (al_cons ?_ (al_cons ?_ (al_cons ?_ (al_cons ?_ (al_nil))))))))))
    · intro LL xx ac wc sg hst hwant QQ hgo
      have H := Lib.hid hst
      refine hpA_load tyshelf_Shelf_string__int_ H rfl ((sg.free 5 (by kernel_rfl)).trans so5) hwant (by (repeat (first | exact List.Mem.head _ | apply List.Mem.tail))) (by rfl) rfl ?_
      exact hgo _ () _ (fun _ _ => rfl) rfl hst
    · intro LL xx ac wc sg hst hwant QQ hgo
      exact op_val hwant hgo hst _ (exec_move rfl ((sg.free 7 (by kernel_rfl)).trans so7)) rfl
    · intro LL xx ac wc sg hst hwant QQ hgo
      have se128 : ac.eval (.tmp 128) = _ := (sg.slot 0 (sg.anc 0 rfl))
      have sg128 := gt_of se128
      have se129 : ac.eval (.tmp 129) = _ := (sg.slot 1 (sg.anc 1 rfl))
      have sg129 := gt_of se129
      (try simp only [nth] at se128 sg128 se129 sg129)
      have H := Lib.hid hst
      refine op_call hwant hgo 42 _ (by simp only [execOp]; go_simp) (alikeC (kR n) a22_5 c22_5 la lc l wc (hp_held H (show rS a22_5 c22_5 2 (l.map rowOf) ∈ _ by (repeat (first | exact List.Mem.head _ | apply List.Mem.tail)))) (hp_held H (show rS la lc 2 (l.map rowOf) ∈ _ by (repeat (first | exact List.Mem.head _ | apply List.Mem.tail)))) (by omega)) ?_
      rintro er wd ⟨rfl, hof⟩
      exact ⟨_, (), rfl, fun _ _ => rfl, rfl, Hp.quiet hst hof⟩
    · intro LL xx ac wc sg hst hwant QQ hgo
      have se130 : ac.eval (.tmp 130) = _ := (sg.slot 2 (sg.anc 2 rfl))
      have sg130 := gt_of se130
      (try simp only [nth] at se130 sg130)
      exact op_val hwant hgo hst _ (by simp only [execOp, nth]; go_simp <;> omega) rfl
    · intro LL xx ac wc sg hst hwant QQ hgo
      exact op_val hwant hgo hst _ (exec_move rfl (sg.slot 3 (sg.anc 3 rfl))) rfl
    · intro LL xx ac wc sg hst hwant QQ hgo
      have H := Lib.hid hst
      refine hpA_load tyshelf_Shelf_string__int_ H rfl ((sg.free 5 (by kernel_rfl)).trans so5) hwant (by (repeat (first | exact List.Mem.head _ | apply List.Mem.tail))) (by rfl) rfl ?_
      exact hgo _ () _ (fun _ _ => rfl) rfl hst
    · intro LL xx ac wc sg hst hwant QQ hgo
      have se133 : ac.eval (.tmp 133) = _ := (sg.slot 5 (sg.anc 5 rfl))
      have sg133 := gt_of se133
      (try simp only [nth] at se133 sg133)
      refine op_call hwant hgo 43 _ (by simp only [execOp]; go_simp) (roomC (kR n) (.slice a22_5 l.length c22_5) wc) ?_
      rintro er wd ⟨rfl, hof⟩
      exact ⟨_, (), rfl, fun _ _ => rfl, rfl, Hp.quiet hst hof⟩
    · intro LL xx ac wc sg hst hwant QQ hgo
      exact op_val hwant hgo hst _ (exec_move rfl ((sg.free 6 (by kernel_rfl)).trans so6)) rfl
    · intro LL xx ac wc sg hst hwant QQ hgo
      have se134 : ac.eval (.tmp 134) = _ := (sg.slot 6 (sg.anc 6 rfl))
      have sg134 := gt_of se134
      have se135 : ac.eval (.tmp 135) = _ := (sg.slot 7 (sg.anc 7 rfl))
      have sg135 := gt_of se135
      (try simp only [nth] at se134 sg134 se135 sg135)
      exact op_val hwant hgo hst _ (by simp only [execOp, nth]; go_simp <;> omega) rfl
    · intro LL xx ac wc sg hst hwant QQ hgo
      exact op_val hwant hgo hst (.bool false) (exec_pick (B := false) (U := undef) (V := .bool false) rfl (sg.slot 4 (sg.anc 4 rfl)) (fun h => by cases h) (fun _ => (sg.slot 8 (sg.anc 8 rfl)))) rfl
  · refine skips [5, 6, 7, 8] (by kernel_rfl) ?_
    refine List.forall_mem_cons.2 ⟨?_, List.forall_mem_cons.2 ⟨?_, List.forall_mem_cons.2 ⟨?_, List.forall_mem_cons.2 ⟨?_, fun _ h => by cases h⟩⟩⟩⟩
    · intro oo hop LL xx ac sg hwant
      cases Option.some.inj hop
      exact absurd ((want_f rfl rfl (sg.slot 4 (sg.anc 4 rfl))).symm.trans hwant) (by decide)
    · intro oo hop LL xx ac sg hwant
      cases Option.some.inj hop
      exact absurd ((want_f rfl rfl (sg.slot 4 (sg.anc 4 rfl))).symm.trans hwant) (by decide)
    · intro oo hop LL xx ac sg hwant
      cases Option.some.inj hop
      exact absurd ((want_f rfl rfl (sg.slot 4 (sg.anc 4 rfl))).symm.trans hwant) (by decide)
    · intro oo hop LL xx ac sg hwant
      cases Option.some.inj hop
      exact absurd ((want_f rfl rfl (sg.slot 4 (sg.anc 4 rfl))).symm.trans hwant) (by decide)
  · intro xx ac1 wz hfr hsl hst
    exact hfin ac1 wz (hfr.size.trans hz) hfr.defers (fr_keep hfr [128, 129, 130, 131, 132, 133, 134, 135, 136, 137] (by kernel_rfl)) (hsl 9 (by decide)) (Lib.hid hst)
set_option maxRecDepth 20000 in
theorem exact6_w_r10x10 (n : Int) (rc : Nat) (acts : List ActV) (b5 : Nat) (i : Nat) (a : Option Addr) (cc : Nat) (la : Option Addr) (lc : Nat) (l : List PairV) (hi : i ≤ acts.length) (hi2 : i ≤ 100) (hll : l.length ≤ i) (z1ld : i < acts.length) (z1rd : (i : Int) < 100) (y : Addr) (x : ActV) (b9 : Nat) (z2d : ¬ (10 < (x.key.size : Int))) (a22_5 : Option Addr) (c22_5 : Nat) (b10 : Nat) {wa wb : World} (H : Hid (Hp [] wa wb [rB b10 43 [.int .i64 (kR n), .slice a22_5 l.length c22_5], rS a22_5 c22_5 2 (l.map rowOf), rB b9 67 [.int .i64 x.kind, .string x.key, .int .i64 x.val], rS la lc 2 (l.map rowOf), rB b5 43 [.int .i64 (kR n), .slice a22_5 l.length c22_5], rS a cc 2 (l.map rowOf), rS (some y) rc 3 (acts.map actRow)])) (ac0 : Act) (hz : ac0.tmps.size = 143) (so8 : ac0.eval (.tmp 8) = .int .i64 i) {QR : Exit → Act → World → Prop} (hfin : ∀ (ac1 : Act) (wz : World), ac1.tmps.size = 143 → ac1.defers = ac0.defers → (∀ t, ([8, 40, 41] : List Nat).contains t = false → ac1.eval (.tmp t) = ac0.eval (.tmp t)) → ac1.eval (.tmp 8) = .int .i64 (i + 1) →  Hid (Hp [] wa wz [rB b10 43 [.int .i64 (kR n), .slice a22_5 l.length c22_5], rS a22_5 c22_5 2 (l.map rowOf), rB b9 67 [.int .i64 x.kind, .string x.key, .int .i64 x.val], rS la lc 2 (l.map rowOf), rB b5 43 [.int .i64 (kR n), .slice a22_5 l.length c22_5], rS a cc 2 (l.map rowOf), rS (some y) rc 3 (acts.map actRow)]) → QR .normal ac1 wz) : (regAt Try.f8 10).wp Try.prog QR ac0 wb := by
  refine wp_region_sq (by kernel_rfl) 143 hz (by kernel_rfl) (fun (xx : Unit) jx => nth [.int .i64 i, .int .i64 (i + 1), .int .i64 (i + 1)] jx) (fun (LL : Nat → Bool) (xx : Unit) ww => Hp [] wa ww [rB b10 43 [.int .i64 (kR n), .slice a22_5 l.length c22_5], rS a22_5 c22_5 2 (l.map rowOf), rB b9 67 [.int .i64 x.kind, .string x.key, .int .i64 x.val], rS la lc 2 (l.map rowOf), rB b5 43 [.int .i64 (kR n), .slice a22_5 l.length c22_5], rS a cc 2 (l.map rowOf), rS (some y) rc 3 (acts.map actRow)]) () H.out ?_ (steps_al ?_) ?_ ?_
  · exact fun _ _ _ _ _ h => h
  · refine al_cons ?_ (al_cons ?_ (al_cons ?_ (al_nil)))
    · intro LL xx ac wc sg hst hwant QQ hgo
      exact op_val hwant hgo hst _ (exec_move rfl ((sg.yet 8 2 (sg.des 2 rfl) (by kernel_rfl)).trans so8)) rfl
    · intro LL xx ac wc sg hst hwant QQ hgo
      have se40 : ac.eval (.tmp 40) = _ := (sg.slot 0 (sg.anc 0 rfl))
      have sg40 := gt_of se40
      (try simp only [nth] at se40 sg40)
      have hnw : IntKind.i64.wrap (i + 1 : Int) = i + 1 := IntWalk.i64_in _ (by omega)
      exact op_val hwant hgo hst _ (by simp only [execOp, nth]; go_simp <;> omega) rfl
    · intro LL xx ac wc sg hst hwant QQ hgo
      exact op_val hwant hgo hst _ (exec_assign rfl (sg.slot 1 (sg.anc 1 rfl))) rfl
  · exact skips [] (by kernel_rfl) (fun _ h => by cases h)
  · intro xx ac1 wz hfr hsl hst
    exact hfin ac1 wz (hfr.size.trans hz) hfr.defers (fr_keep hfr [8, 40, 41] (by kernel_rfl)) (hsl 2 (by decide)) (Lib.hid hst)
set_option maxRecDepth 20000 in
theorem exact6_w_r22x5 (n : Int) (rc : Nat) (acts : List ActV) (b5 : Nat) (i : Nat) (a : Option Addr) (cc : Nat) (la : Option Addr) (lc : Nat) (l : List PairV) (hi : i ≤ acts.length) (hi2 : i ≤ 100) (hll : l.length ≤ i) (hs : Hid (Sorted l)) (z1ld : i < acts.length) (z1rd : (i : Int) < 100) (y : Addr) (x : ActV) (b9 : Nat) (z2d : ¬ (10 < (x.key.size : Int))) (y14 : ((!(getR x.key l).2) && (decide (kR n ≤ (l.length : Int)))) = false) {wa wb : World} (H : Hid (Hp [] wa wb [rB b9 67 [.int .i64 x.kind, .string x.key, .int .i64 x.val], rS la lc 2 (l.map rowOf), rB b5 43 [.int .i64 (kR n), .slice a l.length cc], rS a cc 2 (l.map rowOf), rS (some y) rc 3 (acts.map actRow)])) (ac0 : Act) (hz : ac0.tmps.size = 143) (so5 : ac0.eval (.tmp 5) = .pointer (some ⟨b5, 0, none⟩)) (so9 : ac0.eval (.tmp 9) = .pointer (some ⟨b9, 0, none⟩)) {QR : Exit → Act → World → Prop} (hfin : ∀ (a22_5 : Option Addr) (c22_5 : Nat) (b10 : Nat) (ac1 : Act) (wz : World), ac1.tmps.size = 143 → ac1.defers = ac0.defers → (∀ t, ([10, 11, 78, 79, 80, 81, 82, 83, 84, 85, 86] : List Nat).contains t = false → ac1.eval (.tmp t) = ac0.eval (.tmp t)) → ac1.eval (.tmp 10) = .pointer (some ⟨b10, 0, none⟩) → ac1.eval (.tmp 11) = .bool true →  Hid (Hp [] wa wz [rB b10 43 [.int .i64 (kR n), .slice a22_5 ((withV (kR n) x.key x.val l).1.length) c22_5], rS a22_5 c22_5 2 ((withV (kR n) x.key x.val l).1.map rowOf), rB b9 67 [.int .i64 x.kind, .string x.key, .int .i64 x.val], rS la lc 2 (l.map rowOf), rB b5 43 [.int .i64 (kR n), .slice a l.length cc], rS a cc 2 (l.map rowOf), rS (some y) rc 3 (acts.map actRow)]) → QR .normal ac1 wz) : (regAt Try.f8 22).wp Try.prog QR ac0 wb := by
  refine wp_region_sq (by kernel_rfl) 143 hz (by kernel_rfl) (fun (xx : Option Addr × Nat × Nat) jx => match xx with | (a22_5, c22_5, b10) => nth [.agg #[.int .i64 (kR n), .slice a l.length cc], .pointer (some ⟨b9, 1, none⟩), .string x.key, .pointer (some ⟨b9, 2, none⟩), .int .i64 x.val, .tuple #[.agg #[.int .i64 (kR n), .slice a22_5 ((withV (kR n) x.key x.val l).1.length) c22_5], .bool true], .tuple #[.agg #[.int .i64 (kR n), .slice a22_5 ((withV (kR n) x.key x.val l).1.length) c22_5], .bool true], .agg #[.int .i64 (kR n), .slice a22_5 ((withV (kR n) x.key x.val l).1.length) c22_5], .bool true, .pointer (some ⟨b10, 0, none⟩), undef, .bool true] jx) (fun (LL : Nat → Bool) (xx : Option Addr × Nat × Nat) ww => match xx with | (a22_5, c22_5, b10) => Hp [] wa ww (bif LL 10 then [rB b10 43 [.int .i64 (kR n), .slice a22_5 ((withV (kR n) x.key x.val l).1.length) c22_5], rS a22_5 c22_5 2 ((withV (kR n) x.key x.val l).1.map rowOf), rB b9 67 [.int .i64 x.kind, .string x.key, .int .i64 x.val], rS la lc 2 (l.map rowOf), rB b5 43 [.int .i64 (kR n), .slice a l.length cc], rS a cc 2 (l.map rowOf), rS (some y) rc 3 (acts.map actRow)] else (bif LL 9 then [rB b10 43 [.int .i64 0, .slice none 0 0], rS a22_5 c22_5 2 ((withV (kR n) x.key x.val l).1.map rowOf), rB b9 67 [.int .i64 x.kind, .string x.key, .int .i64 x.val], rS la lc 2 (l.map rowOf), rB b5 43 [.int .i64 (kR n), .slice a l.length cc], rS a cc 2 (l.map rowOf), rS (some y) rc 3 (acts.map actRow)] else (bif LL 5 then [rS a22_5 c22_5 2 ((withV (kR n) x.key x.val l).1.map rowOf), rB b9 67 [.int .i64 x.kind, .string x.key, .int .i64 x.val], rS la lc 2 (l.map rowOf), rB b5 43 [.int .i64 (kR n), .slice a l.length cc], rS a cc 2 (l.map rowOf), rS (some y) rc 3 (acts.map actRow)] else [rB b9 67 [.int .i64 x.kind, .string x.key, .int .i64 x.val], rS la lc 2 (l.map rowOf), rB b5 43 [.int .i64 (kR n), .slice a l.length cc], rS a cc 2 (l.map rowOf), rS (some y) rc 3 (acts.map actRow)])))) (default, default, default) H.out ?_ (steps_al ?_) ?_ ?_
  · intro L1 L2 xx ww hL sg
    have lh5 := hL 5 (by decide)
    have lh9 := hL 9 (by decide)
    have lh10 := hL 10 (by decide)
    simp only [lh5, lh9, lh10] at sg
    exact sg
  · refine al_cons ?_ (al_cons ?_ (al_cons ?_ (al_cons ?_ (al_cons ?_ (al_cons ?_ (al_cons ?_ (al_cons ?_ (al_cons ?_ (al_cons ?_ (al_cons ?_ (al_cons ?_ (al_nil))))))))))))
    · intro LL xx ac wc sg hst hwant QQ hgo
      obtain ⟨a22_5, c22_5, b10⟩ := xx
      have H := Lib.hid hst
      simp only [sg.des 5 rfl, sg.des 9 rfl, sg.des 10 rfl, cond_true, cond_false] at H
      refine hpA_load tyshelf_Shelf_string__int_ H rfl ((sg.free 5 (by kernel_rfl)).trans so5) hwant (by (repeat (first | exact List.Mem.head _ | apply List.Mem.tail))) (by rfl) rfl ?_
      exact hgo _ (a22_5, c22_5, b10) _ (fun _ _ => rfl) rfl hst
    · intro LL xx ac wc sg hst hwant QQ hgo
      obtain ⟨a22_5, c22_5, b10⟩ := xx
      have se9 : ac.eval (.tmp 9) = _ := ((sg.free 9 (by kernel_rfl)).trans so9)
      have sg9 := gt_of se9
      exact op_val hwant hgo hst _ (by simp only [execOp, nth]; go_simp <;> omega) rfl
    · intro LL xx ac wc sg hst hwant QQ hgo
      obtain ⟨a22_5, c22_5, b10⟩ := xx
      have H := Lib.hid hst
      simp only [sg.des 5 rfl, sg.des 9 rfl, sg.des 10 rfl, cond_true, cond_false] at H
      refine hpA_load1 tystring H rfl (sg.slot 1 (sg.anc 1 rfl)) hwant (by (repeat (first | exact List.Mem.head _ | apply List.Mem.tail))) (by rfl) ?_
      exact hgo _ (a22_5, c22_5, b10) _ (fun _ _ => rfl) rfl hst
    · intro LL xx ac wc sg hst hwant QQ hgo
      obtain ⟨a22_5, c22_5, b10⟩ := xx
      have se9 : ac.eval (.tmp 9) = _ := ((sg.free 9 (by kernel_rfl)).trans so9)
      have sg9 := gt_of se9
      exact op_val hwant hgo hst _ (by simp only [execOp, nth]; go_simp <;> omega) rfl
    · intro LL xx ac wc sg hst hwant QQ hgo
      obtain ⟨a22_5, c22_5, b10⟩ := xx
      have H := Lib.hid hst
      simp only [sg.des 5 rfl, sg.des 9 rfl, sg.des 10 rfl, cond_true, cond_false] at H
      refine hpA_load1 tyint H rfl (sg.slot 3 (sg.anc 3 rfl)) hwant (by (repeat (first | exact List.Mem.head _ | apply List.Mem.tail))) (by rfl) ?_
      exact hgo _ (a22_5, c22_5, b10) _ (fun _ _ => rfl) rfl hst
    · intro LL xx ac wc sg hst hwant QQ hgo
      obtain ⟨_, _, b10⟩ := xx
      have se79 : ac.eval (.tmp 79) = _ := (sg.slot 0 (sg.anc 0 rfl))
      have sg79 := gt_of se79
      have se81 : ac.eval (.tmp 81) = _ := (sg.slot 2 (sg.anc 2 rfl))
      have sg81 := gt_of se81
      have se83 : ac.eval (.tmp 83) = _ := (sg.slot 4 (sg.anc 4 rfl))
      have sg83 := gt_of se83
      (try simp only [nth] at se79 sg79 se81 sg81 se83 sg83)
      have H := Lib.hid hst
      simp only [sg.self, sg.des 9 rfl, sg.des 10 rfl, cond_true, cond_false] at H
      refine op_call hwant hgo 27 _ (by simp only [execOp]; go_simp) (sWithYes (kR n) a cc l x.key x.val wc (hp_held H (show rS a cc 2 (l.map rowOf) ∈ _ by (repeat (first | exact List.Mem.head _ | apply List.Mem.tail)))) hs.out (by omega) y14) ?_
      rintro er wd ⟨a22_5, c22_5, rfl, hgv⟩
      have H2 := hp_got H hgv.2.2 hgv.1 (by decide) hgv.2.1 (by simp)
      exact ⟨_, (a22_5, c22_5, b10), rfl, (sg.agree (x' := (a22_5, c22_5, b10)) (n := 12) rfl (by (iterate 12 (refine ix_cons (by first | exact fun _ => rfl | exact no sg.self | exact no (sg.des _ rfl)) ?_)); exact ix_nil)), rfl, (by simp only [(show upd LL 5 5 = true from rfl), (show upd LL 5 9 = LL 9 from rfl), sg.des 9 rfl, (show upd LL 5 10 = LL 10 from rfl), sg.des 10 rfl, cond_true, cond_false]; exact H2.out)⟩
    · intro LL xx ac wc sg hst hwant QQ hgo
      obtain ⟨a22_5, c22_5, b10⟩ := xx
      exact op_val hwant hgo hst _ (exec_move rfl (sg.slot 5 (sg.anc 5 rfl))) rfl
    · intro LL xx ac wc sg hst hwant QQ hgo
      obtain ⟨a22_5, c22_5, b10⟩ := xx
      have se78 : ac.eval (.tmp 78) = _ := (sg.slot 6 (sg.anc 6 rfl))
      have sg78 := gt_of se78
      (try simp only [nth] at se78 sg78)
      exact op_val hwant hgo hst _ (by simp only [execOp, nth]; go_simp <;> omega) rfl
    · intro LL xx ac wc sg hst hwant QQ hgo
      obtain ⟨a22_5, c22_5, b10⟩ := xx
      have se78 : ac.eval (.tmp 78) = _ := (sg.slot 6 (sg.anc 6 rfl))
      have sg78 := gt_of se78
      (try simp only [nth] at se78 sg78)
      exact op_val hwant hgo hst _ (by simp only [execOp, nth]; go_simp <;> omega) rfl
    · intro LL xx ac wc sg hst hwant QQ hgo
      obtain ⟨a22_5, c22_5, _⟩ := xx
      have H := Lib.hid hst
      simp only [sg.anc 5 rfl, sg.self, sg.des 10 rfl, cond_true, cond_false] at H
      refine hpA_alloc tyshelf_Shelf_string__int_ H rfl rfl ?_
      intro wd b10 H2
      exact hgo _ (a22_5, c22_5, b10) _ (sg.agree (x' := (a22_5, c22_5, b10)) (n := 12) rfl (by (iterate 12 (refine ix_cons (by first | exact fun _ => rfl | exact no sg.self | exact no (sg.des _ rfl)) ?_)); exact ix_nil)) rfl (by simp only [(show upd LL 9 5 = LL 5 from rfl), sg.anc 5 rfl, (show upd LL 9 9 = true from rfl), (show upd LL 9 10 = LL 10 from rfl), sg.des 10 rfl, cond_true, cond_false]; exact H2.out)
    · intro LL xx ac wc sg hst hwant QQ hgo
      obtain ⟨a22_5, c22_5, b10⟩ := xx
      have H := Lib.hid hst
      simp only [sg.anc 5 rfl, sg.anc 9 rfl, sg.self, cond_true, cond_false] at H
      refine hpA_store tyshelf_Shelf_string__int_ H rfl rfl (sg.slot 9 (sg.anc 9 rfl)) (sg.slot 7 (sg.anc 7 rfl)) rfl (by repeat (first | apply Put.head | apply Put.tail)) (by simp [List.length_cons]) (by simp [List.length_cons, Value.oneCell']) (by first | rfl | (simp only [spl]; rfl)) rfl ?_
      intro wd H2
      exact hgo _ (a22_5, c22_5, b10) _ (sg.agree (x' := (a22_5, c22_5, b10)) (n := 12) rfl (by (iterate 12 (refine ix_cons (by first | exact fun _ => rfl | exact no sg.self | exact no (sg.des _ rfl)) ?_)); exact ix_nil)) rfl (by simp only [(show upd LL 10 5 = LL 5 from rfl), sg.anc 5 rfl, (show upd LL 10 9 = LL 9 from rfl), sg.anc 9 rfl, (show upd LL 10 10 = true from rfl), cond_true, cond_false]; exact H2.out)
    · intro LL xx ac wc sg hst hwant QQ hgo
      obtain ⟨a22_5, c22_5, b10⟩ := xx
      exact op_val hwant hgo hst _ (exec_assign rfl (sg.slot 8 (sg.anc 8 rfl))) rfl
  · exact skips [] (by kernel_rfl) (fun _ h => by cases h)
  · intro xx ac1 wz hfr hsl hst
    obtain ⟨a22_5, c22_5, b10⟩ := xx
    exact hfin a22_5 c22_5 b10 ac1 wz (hfr.size.trans hz) hfr.defers (fr_keep hfr [10, 11, 78, 79, 80, 81, 82, 83, 84, 85, 86] (by kernel_rfl)) (hsl 9 (by decide)) (hsl 11 (by decide)) (Lib.hid hst)
set_option maxRecDepth 20000 in
theorem exact6_w_r23x5 (n : Int) (rc : Nat) (acts : List ActV) (b5 : Nat) (i : Nat) (a : Option Addr) (cc : Nat) (la : Option Addr) (lc : Nat) (l : List PairV) (hi : i ≤ acts.length) (hi2 : i ≤ 100) (hll : l.length ≤ i) (hs : Hid (Sorted l)) (z1ld : i < acts.length) (z1rd : (i : Int) < 100) (y : Addr) (x : ActV) (b9 : Nat) (z2d : ¬ (10 < (x.key.size : Int))) (y14 : ((!(getR x.key l).2) && (decide (kR n ≤ (l.length : Int)))) = false) (a22_5 : Option Addr) (c22_5 : Nat) (b10 : Nat) {wa wb : World} (H : Hid (Hp [] wa wb [rB b10 43 [.int .i64 (kR n), .slice a22_5 ((withV (kR n) x.key x.val l).1.length) c22_5], rS a22_5 c22_5 2 ((withV (kR n) x.key x.val l).1.map rowOf), rB b9 67 [.int .i64 x.kind, .string x.key, .int .i64 x.val], rS la lc 2 (l.map rowOf), rB b5 43 [.int .i64 (kR n), .slice a l.length cc], rS a cc 2 (l.map rowOf), rS (some y) rc 3 (acts.map actRow)])) (ac0 : Act) (hz : ac0.tmps.size = 143) (so6 : ac0.eval (.tmp 6) = .int .i64 (kR n)) (so7 : ac0.eval (.tmp 7) = .slice la l.length lc) (so9 : ac0.eval (.tmp 9) = .pointer (some ⟨b9, 0, none⟩)) {QR : Exit → Act → World → Prop} (hfin : ∀ (a23_6 : Option Addr) (c23_6 : Nat) (ac1 : Act) (wz : World), ac1.tmps.size = 143 → ac1.defers = ac0.defers → (∀ t, ([12, 13, 87, 88, 89, 90, 91, 92, 93, 94, 95, 96] : List Nat).contains t = false → ac1.eval (.tmp t) = ac0.eval (.tmp t)) → ac1.eval (.tmp 12) = .slice a23_6 ((withV (kR n) x.key x.val l).1.length) c23_6 → ac1.eval (.tmp 13) = .bool true →  Hid (Hp [] wa wz [rS a23_6 c23_6 2 ((withV (kR n) x.key x.val l).1.map rowOf), rB b10 43 [.int .i64 (kR n), .slice a22_5 ((withV (kR n) x.key x.val l).1.length) c22_5], rS a22_5 c22_5 2 ((withV (kR n) x.key x.val l).1.map rowOf), rB b9 67 [.int .i64 x.kind, .string x.key, .int .i64 x.val], rS la lc 2 (l.map rowOf), rB b5 43 [.int .i64 (kR n), .slice a l.length cc], rS a cc 2 (l.map rowOf), rS (some y) rc 3 (acts.map actRow)]) → QR .normal ac1 wz) : (regAt Try.f8 23).wp Try.prog QR ac0 wb := by
  refine wp_region_sq (by kernel_rfl) 143 hz (by kernel_rfl) (fun (xx : Option Addr × Nat) jx => match xx with | (a23_6, c23_6) => nth [.slice la l.length lc, .int .i64 (kR n), .pointer (some ⟨b9, 1, none⟩), .string x.key, .pointer (some ⟨b9, 2, none⟩), .int .i64 x.val, .tuple #[.slice a23_6 ((withV (kR n) x.key x.val l).1.length) c23_6, .bool true], .tuple #[.slice a23_6 ((withV (kR n) x.key x.val l).1.length) c23_6, .bool true], .slice a23_6 ((withV (kR n) x.key x.val l).1.length) c23_6, .bool true, .slice a23_6 ((withV (kR n) x.key x.val l).1.length) c23_6, .bool true] jx) (fun (LL : Nat → Bool) (xx : Option Addr × Nat) ww => match xx with | (a23_6, c23_6) => Hp [] wa ww (bif LL 6 then [rS a23_6 c23_6 2 ((withV (kR n) x.key x.val l).1.map rowOf), rB b10 43 [.int .i64 (kR n), .slice a22_5 ((withV (kR n) x.key x.val l).1.length) c22_5], rS a22_5 c22_5 2 ((withV (kR n) x.key x.val l).1.map rowOf), rB b9 67 [.int .i64 x.kind, .string x.key, .int .i64 x.val], rS la lc 2 (l.map rowOf), rB b5 43 [.int .i64 (kR n), .slice a l.length cc], rS a cc 2 (l.map rowOf), rS (some y) rc 3 (acts.map actRow)] else [rB b10 43 [.int .i64 (kR n), .slice a22_5 ((withV (kR n) x.key x.val l).1.length) c22_5], rS a22_5 c22_5 2 ((withV (kR n) x.key x.val l).1.map rowOf), rB b9 67 [.int .i64 x.kind, .string x.key, .int .i64 x.val], rS la lc 2 (l.map rowOf), rB b5 43 [.int .i64 (kR n), .slice a l.length cc], rS a cc 2 (l.map rowOf), rS (some y) rc 3 (acts.map actRow)])) (default, default) H.out ?_ (steps_al ?_) ?_ ?_
  · intro L1 L2 xx ww hL sg
    have lh6 := hL 6 (by decide)
    simp only [lh6] at sg
    exact sg
  · refine al_cons ?_ (al_cons ?_ (al_cons ?_ (al_cons ?_ (al_cons ?_ (al_cons ?_ (al_cons ?_ (al_cons ?_ (al_cons ?_ (al_cons ?_ (al_cons ?_ (al_cons ?_ (al_nil))))))))))))
    · intro LL xx ac wc sg hst hwant QQ hgo
      obtain ⟨a23_6, c23_6⟩ := xx
      exact op_val hwant hgo hst _ (exec_move rfl ((sg.free 7 (by kernel_rfl)).trans so7)) rfl
    · intro LL xx ac wc sg hst hwant QQ hgo
      obtain ⟨a23_6, c23_6⟩ := xx
      exact op_val hwant hgo hst _ (exec_move rfl ((sg.free 6 (by kernel_rfl)).trans so6)) rfl
    · intro LL xx ac wc sg hst hwant QQ hgo
      obtain ⟨a23_6, c23_6⟩ := xx
      have se9 : ac.eval (.tmp 9) = _ := ((sg.free 9 (by kernel_rfl)).trans so9)
      have sg9 := gt_of se9
      exact op_val hwant hgo hst _ (by simp only [execOp, nth]; go_simp <;> omega) rfl
    · intro LL xx ac wc sg hst hwant QQ hgo
      obtain ⟨a23_6, c23_6⟩ := xx
      have H := Lib.hid hst
      simp only [sg.des 6 rfl, cond_true, cond_false] at H
      refine hpA_load1 tystring H rfl (sg.slot 2 (sg.anc 2 rfl)) hwant (by (repeat (first | exact List.Mem.head _ | apply List.Mem.tail))) (by rfl) ?_
      exact hgo _ (a23_6, c23_6) _ (fun _ _ => rfl) rfl hst
    · intro LL xx ac wc sg hst hwant QQ hgo
      obtain ⟨a23_6, c23_6⟩ := xx
      have se9 : ac.eval (.tmp 9) = _ := ((sg.free 9 (by kernel_rfl)).trans so9)
      have sg9 := gt_of se9
      exact op_val hwant hgo hst _ (by simp only [execOp, nth]; go_simp <;> omega) rfl
    · intro LL xx ac wc sg hst hwant QQ hgo
      obtain ⟨a23_6, c23_6⟩ := xx
      have H := Lib.hid hst
      simp only [sg.des 6 rfl, cond_true, cond_false] at H
      refine hpA_load1 tyint H rfl (sg.slot 4 (sg.anc 4 rfl)) hwant (by (repeat (first | exact List.Mem.head _ | apply List.Mem.tail))) (by rfl) ?_
      exact hgo _ (a23_6, c23_6) _ (fun _ _ => rfl) rfl hst
    · intro LL xx ac wc sg hst hwant QQ hgo
      obtain ⟨_, _⟩ := xx
      have se88 : ac.eval (.tmp 88) = _ := (sg.slot 0 (sg.anc 0 rfl))
      have sg88 := gt_of se88
      have se89 : ac.eval (.tmp 89) = _ := (sg.slot 1 (sg.anc 1 rfl))
      have sg89 := gt_of se89
      have se91 : ac.eval (.tmp 91) = _ := (sg.slot 3 (sg.anc 3 rfl))
      have sg91 := gt_of se91
      have se93 : ac.eval (.tmp 93) = _ := (sg.slot 5 (sg.anc 5 rfl))
      have sg93 := gt_of se93
      (try simp only [nth] at se88 sg88 se89 sg89 se91 sg91 se93 sg93)
      have H := Lib.hid hst
      simp only [sg.self, cond_true, cond_false] at H
      refine op_call hwant hgo 38 _ (by simp only [execOp]; go_simp) (withRyes6 la lc l (kR n) x.key x.val wc (hp_held H (show rS la lc 2 (l.map rowOf) ∈ _ by (repeat (first | exact List.Mem.head _ | apply List.Mem.tail)))) (by omega) hs (Lib.hid (room_of hs.out y14)) y14) ?_
      rintro er wd ⟨a23_6, c23_6, rfl, hgv⟩
      have H2 := hp_got H hgv.2.2 hgv.1 (by decide) hgv.2.1 (by simp)
      exact ⟨_, (a23_6, c23_6), rfl, (sg.agree (x' := (a23_6, c23_6)) (n := 12) rfl (by (iterate 12 (refine ix_cons (by first | exact fun _ => rfl | exact no sg.self | exact no (sg.des _ rfl)) ?_)); exact ix_nil)), rfl, (by simp only [(show upd LL 6 6 = true from rfl), cond_true, cond_false]; exact H2.out)⟩
    · intro LL xx ac wc sg hst hwant QQ hgo
      obtain ⟨a23_6, c23_6⟩ := xx
      exact op_val hwant hgo hst _ (exec_move rfl (sg.slot 6 (sg.anc 6 rfl))) rfl
    · intro LL xx ac wc sg hst hwant QQ hgo
      obtain ⟨a23_6, c23_6⟩ := xx
      have se87 : ac.eval (.tmp 87) = _ := (sg.slot 7 (sg.anc 7 rfl))
      have sg87 := gt_of se87
      (try simp only [nth] at se87 sg87)
      exact op_val hwant hgo hst _ (by simp only [execOp, nth]; go_simp <;> omega) rfl
    · intro LL xx ac wc sg hst hwant QQ hgo
      obtain ⟨a23_6, c23_6⟩ := xx
      have se87 : ac.eval (.tmp 87) = _ := (sg.slot 7 (sg.anc 7 rfl))
      have sg87 := gt_of se87
      (try simp only [nth] at se87 sg87)
      exact op_val hwant hgo hst _ (by simp only [execOp, nth]; go_simp <;> omega) rfl
    · intro LL xx ac wc sg hst hwant QQ hgo
      obtain ⟨a23_6, c23_6⟩ := xx
      exact op_val hwant hgo hst _ (exec_assign rfl (sg.slot 8 (sg.anc 8 rfl))) rfl
    · intro LL xx ac wc sg hst hwant QQ hgo
      obtain ⟨a23_6, c23_6⟩ := xx
      exact op_val hwant hgo hst _ (exec_assign rfl (sg.slot 9 (sg.anc 9 rfl))) rfl
  · exact skips [] (by kernel_rfl) (fun _ h => by cases h)
  · intro xx ac1 wz hfr hsl hst
    obtain ⟨a23_6, c23_6⟩ := xx
    exact hfin a23_6 c23_6 ac1 wz (hfr.size.trans hz) hfr.defers (fr_keep hfr [12, 13, 87, 88, 89, 90, 91, 92, 93, 94, 95, 96] (by kernel_rfl)) (hsl 10 (by decide)) (hsl 11 (by decide)) (Lib.hid hst)
set_option maxRecDepth 20000 in
theorem exact6_w_r24x5 (n : Int) (rc : Nat) (acts : List ActV) (b5 : Nat) (i : Nat) (a : Option Addr) (cc : Nat) (la : Option Addr) (lc : Nat) (l : List PairV) (hi : i ≤ acts.length) (hi2 : i ≤ 100) (hll : l.length ≤ i) (z1ld : i < acts.length) (z1rd : (i : Int) < 100) (y : Addr) (x : ActV) (b9 : Nat) (z2d : ¬ (10 < (x.key.size : Int))) (a22_5 : Option Addr) (c22_5 : Nat) (b10 : Nat) (a23_6 : Option Addr) (c23_6 : Nat) {wa wb : World} (H : Hid (Hp [] wa wb [rS a23_6 c23_6 2 ((withV (kR n) x.key x.val l).1.map rowOf), rB b10 43 [.int .i64 (kR n), .slice a22_5 ((withV (kR n) x.key x.val l).1.length) c22_5], rS a22_5 c22_5 2 ((withV (kR n) x.key x.val l).1.map rowOf), rB b9 67 [.int .i64 x.kind, .string x.key, .int .i64 x.val], rS la lc 2 (l.map rowOf), rB b5 43 [.int .i64 (kR n), .slice a l.length cc], rS a cc 2 (l.map rowOf), rS (some y) rc 3 (acts.map actRow)])) (ac0 : Act) (hz : ac0.tmps.size = 143) (so11 : ac0.eval (.tmp 11) = .bool true) (so13 : ac0.eval (.tmp 13) = .bool true) {QR : Exit → Act → World → Prop} (hfin : ∀ (ac1 : Act) (wz : World), ac1.tmps.size = 143 → ac1.defers = ac0.defers → (∀ t, ([97, 98, 99] : List Nat).contains t = false → ac1.eval (.tmp t) = ac0.eval (.tmp t)) → ac1.eval (.tmp 99) = .bool false →  Hid (Hp [] wa wz [rS a23_6 c23_6 2 ((withV (kR n) x.key x.val l).1.map rowOf), rB b10 43 [.int .i64 (kR n), .slice a22_5 ((withV (kR n) x.key x.val l).1.length) c22_5], rS a22_5 c22_5 2 ((withV (kR n) x.key x.val l).1.map rowOf), rB b9 67 [.int .i64 x.kind, .string x.key, .int .i64 x.val], rS la lc 2 (l.map rowOf), rB b5 43 [.int .i64 (kR n), .slice a l.length cc], rS a cc 2 (l.map rowOf), rS (some y) rc 3 (acts.map actRow)]) → QR .normal ac1 wz) : (regAt Try.f8 24).wp Try.prog QR ac0 wb := by
  refine wp_region_sq (by kernel_rfl) 143 hz (by kernel_rfl) (fun (xx : Unit) jx => nth [.bool true, .bool true, .bool false] jx) (fun (LL : Nat → Bool) (xx : Unit) ww => Hp [] wa ww [rS a23_6 c23_6 2 ((withV (kR n) x.key x.val l).1.map rowOf), rB b10 43 [.int .i64 (kR n), .slice a22_5 ((withV (kR n) x.key x.val l).1.length) c22_5], rS a22_5 c22_5 2 ((withV (kR n) x.key x.val l).1.map rowOf), rB b9 67 [.int .i64 x.kind, .string x.key, .int .i64 x.val], rS la lc 2 (l.map rowOf), rB b5 43 [.int .i64 (kR n), .slice a l.length cc], rS a cc 2 (l.map rowOf), rS (some y) rc 3 (acts.map actRow)]) () H.out ?_ (steps_al ?_) ?_ ?_
  · exact fun _ _ _ _ _ h => h
  · refine al_cons ?_ (al_cons ?_ (al_cons ?_ (al_nil)))
    · intro LL xx ac wc sg hst hwant QQ hgo
      exact op_val hwant hgo hst _ (exec_move rfl ((sg.free 11 (by kernel_rfl)).trans so11)) rfl
    · intro LL xx ac wc sg hst hwant QQ hgo
      exact op_val hwant hgo hst _ (exec_move rfl ((sg.free 13 (by kernel_rfl)).trans so13)) rfl
    · intro LL xx ac wc sg hst hwant QQ hgo
      have se97 : ac.eval (.tmp 97) = _ := (sg.slot 0 (sg.anc 0 rfl))
      have sg97 := gt_of se97
      have se98 : ac.eval (.tmp 98) = _ := (sg.slot 1 (sg.anc 1 rfl))
      have sg98 := gt_of se98
      (try simp only [nth] at se97 sg97 se98 sg98)
      exact op_val hwant hgo hst _ (by simp only [execOp, nth]; go_simp <;> omega) rfl
  · exact skips [] (by kernel_rfl) (fun _ h => by cases h)
  · intro xx ac1 wz hfr hsl hst
    exact hfin ac1 wz (hfr.size.trans hz) hfr.defers (fr_keep hfr [97, 98, 99] (by kernel_rfl)) (hsl 2 (by decide)) (Lib.hid hst)
set_option maxRecDepth 20000 in
theorem exact6_w_r26x5 (n : Int) (rc : Nat) (acts : List ActV) (b5 : Nat) (i : Nat) (a : Option Addr) (cc : Nat) (la : Option Addr) (lc : Nat) (l : List PairV) (hi : i ≤ acts.length) (hi2 : i ≤ 100) (hll : l.length ≤ i) (z1ld : i < acts.length) (z1rd : (i : Int) < 100) (y : Addr) (x : ActV) (b9 : Nat) (z2d : ¬ (10 < (x.key.size : Int))) (a22_5 : Option Addr) (c22_5 : Nat) (b10 : Nat) (a23_6 : Option Addr) (c23_6 : Nat) {wa wb : World} (H : Hid (Hp [] wa wb [rS a23_6 c23_6 2 ((withV (kR n) x.key x.val l).1.map rowOf), rB b10 43 [.int .i64 (kR n), .slice a22_5 ((withV (kR n) x.key x.val l).1.length) c22_5], rS a22_5 c22_5 2 ((withV (kR n) x.key x.val l).1.map rowOf), rB b9 67 [.int .i64 x.kind, .string x.key, .int .i64 x.val], rS la lc 2 (l.map rowOf), rB b5 43 [.int .i64 (kR n), .slice a l.length cc], rS a cc 2 (l.map rowOf), rS (some y) rc 3 (acts.map actRow)])) (ac0 : Act) (hz : ac0.tmps.size = 143) (so5 : ac0.eval (.tmp 5) = .pointer (some ⟨b5, 0, none⟩)) (so10 : ac0.eval (.tmp 10) = .pointer (some ⟨b10, 0, none⟩)) {QR : Exit → Act → World → Prop} (hfin : ∀ (ac1 : Act) (wz : World), ac1.tmps.size = 143 → ac1.defers = ac0.defers → (∀ t, ([100] : List Nat).contains t = false → ac1.eval (.tmp t) = ac0.eval (.tmp t)) →  Hid (Hp [] wa wz [rS a23_6 c23_6 2 ((withV (kR n) x.key x.val l).1.map rowOf), rB b10 43 [.int .i64 (kR n), .slice a22_5 ((withV (kR n) x.key x.val l).1.length) c22_5], rS a22_5 c22_5 2 ((withV (kR n) x.key x.val l).1.map rowOf), rB b9 67 [.int .i64 x.kind, .string x.key, .int .i64 x.val], rS la lc 2 (l.map rowOf), rB b5 43 [.int .i64 (kR n), .slice a22_5 ((withV (kR n) x.key x.val l).1.length) c22_5], rS a cc 2 (l.map rowOf), rS (some y) rc 3 (acts.map actRow)]) → QR .normal ac1 wz) : (regAt Try.f8 26).wp Try.prog QR ac0 wb := by
  refine wp_region_sq (by kernel_rfl) 143 hz (by kernel_rfl) (fun (xx : Unit) jx => nth [.agg #[.int .i64 (kR n), .slice a22_5 ((withV (kR n) x.key x.val l).1.length) c22_5], undef] jx) (fun (LL : Nat → Bool) (xx : Unit) ww => Hp [] wa ww (bif LL 1 then [rS a23_6 c23_6 2 ((withV (kR n) x.key x.val l).1.map rowOf), rB b10 43 [.int .i64 (kR n), .slice a22_5 ((withV (kR n) x.key x.val l).1.length) c22_5], rS a22_5 c22_5 2 ((withV (kR n) x.key x.val l).1.map rowOf), rB b9 67 [.int .i64 x.kind, .string x.key, .int .i64 x.val], rS la lc 2 (l.map rowOf), rB b5 43 [.int .i64 (kR n), .slice a22_5 ((withV (kR n) x.key x.val l).1.length) c22_5], rS a cc 2 (l.map rowOf), rS (some y) rc 3 (acts.map actRow)] else [rS a23_6 c23_6 2 ((withV (kR n) x.key x.val l).1.map rowOf), rB b10 43 [.int .i64 (kR n), .slice a22_5 ((withV (kR n) x.key x.val l).1.length) c22_5], rS a22_5 c22_5 2 ((withV (kR n) x.key x.val l).1.map rowOf), rB b9 67 [.int .i64 x.kind, .string x.key, .int .i64 x.val], rS la lc 2 (l.map rowOf), rB b5 43 [.int .i64 (kR n), .slice a l.length cc], rS a cc 2 (l.map rowOf), rS (some y) rc 3 (acts.map actRow)])) () H.out ?_ (steps_al ?_) ?_ ?_
  · intro L1 L2 xx ww hL sg
    have lh1 := hL 1 (by decide)
    simp only [lh1] at sg
    exact sg
  · refine al_cons ?_ (al_cons ?_ (al_nil))
    · intro LL xx ac wc sg hst hwant QQ hgo
      have H := Lib.hid hst
      simp only [sg.des 1 rfl, cond_true, cond_false] at H
      refine hpA_load tyshelf_Shelf_string__int_ H rfl ((sg.free 10 (by kernel_rfl)).trans so10) hwant (by (repeat (first | exact List.Mem.head _ | apply List.Mem.tail))) (by rfl) rfl ?_
      exact hgo _ () _ (fun _ _ => rfl) rfl hst
    · intro LL xx ac wc sg hst hwant QQ hgo
      have H := Lib.hid hst
      simp only [sg.self, cond_true, cond_false] at H
      refine hpA_store tyshelf_Shelf_string__int_ H rfl rfl ((sg.free 5 (by kernel_rfl)).trans so5) (sg.slot 0 (sg.anc 0 rfl)) rfl (by repeat (first | apply Put.head | apply Put.tail)) (by simp [List.length_cons]) (by simp [List.length_cons, Value.oneCell']) (by first | rfl | (simp only [spl]; rfl)) rfl ?_
      intro wd H2
      exact hgo _ () _ (fun _ _ => rfl) rfl (by simp only [(show upd LL 1 1 = true from rfl), cond_true, cond_false]; exact H2.out)
  · exact skips [] (by kernel_rfl) (fun _ h => by cases h)
  · intro xx ac1 wz hfr hsl hst
    exact hfin ac1 wz (hfr.size.trans hz) hfr.defers (fr_keep hfr [100] (by kernel_rfl)) (Lib.hid hst)
set_option maxRecDepth 20000 in
theorem exact6_w_r27x5 (n : Int) (rc : Nat) (acts : List ActV) (b5 : Nat) (i : Nat) (a : Option Addr) (cc : Nat) (la : Option Addr) (lc : Nat) (l : List PairV) (hi : i ≤ acts.length) (hi2 : i ≤ 100) (hll : l.length ≤ i) (z1ld : i < acts.length) (z1rd : (i : Int) < 100) (y : Addr) (x : ActV) (b9 : Nat) (z2d : ¬ (10 < (x.key.size : Int))) (a22_5 : Option Addr) (c22_5 : Nat) (b10 : Nat) (a23_6 : Option Addr) (c23_6 : Nat) {wa wb : World} (H : Hid (Hp [] wa wb [rS a23_6 c23_6 2 ((withV (kR n) x.key x.val l).1.map rowOf), rB b10 43 [.int .i64 (kR n), .slice a22_5 ((withV (kR n) x.key x.val l).1.length) c22_5], rS a22_5 c22_5 2 ((withV (kR n) x.key x.val l).1.map rowOf), rB b9 67 [.int .i64 x.kind, .string x.key, .int .i64 x.val], rS la lc 2 (l.map rowOf), rB b5 43 [.int .i64 (kR n), .slice a22_5 ((withV (kR n) x.key x.val l).1.length) c22_5], rS a cc 2 (l.map rowOf), rS (some y) rc 3 (acts.map actRow)])) (ac0 : Act) (hz : ac0.tmps.size = 143) (so12 : ac0.eval (.tmp 12) = .slice a23_6 ((withV (kR n) x.key x.val l).1.length) c23_6) {QR : Exit → Act → World → Prop} (hfin : ∀ (ac1 : Act) (wz : World), ac1.tmps.size = 143 → ac1.defers = ac0.defers → (∀ t, ([7, 101] : List Nat).contains t = false → ac1.eval (.tmp t) = ac0.eval (.tmp t)) → ac1.eval (.tmp 7) = .slice a23_6 ((withV (kR n) x.key x.val l).1.length) c23_6 →  Hid (Hp [] wa wz [rS a23_6 c23_6 2 ((withV (kR n) x.key x.val l).1.map rowOf), rB b10 43 [.int .i64 (kR n), .slice a22_5 ((withV (kR n) x.key x.val l).1.length) c22_5], rS a22_5 c22_5 2 ((withV (kR n) x.key x.val l).1.map rowOf), rB b9 67 [.int .i64 x.kind, .string x.key, .int .i64 x.val], rS la lc 2 (l.map rowOf), rB b5 43 [.int .i64 (kR n), .slice a22_5 ((withV (kR n) x.key x.val l).1.length) c22_5], rS a cc 2 (l.map rowOf), rS (some y) rc 3 (acts.map actRow)]) → QR .normal ac1 wz) : (regAt Try.f8 27).wp Try.prog QR ac0 wb := by
  refine wp_region_sq (by kernel_rfl) 143 hz (by kernel_rfl) (fun (xx : Unit) jx => nth [.slice a23_6 ((withV (kR n) x.key x.val l).1.length) c23_6, .slice a23_6 ((withV (kR n) x.key x.val l).1.length) c23_6] jx) (fun (LL : Nat → Bool) (xx : Unit) ww => Hp [] wa ww [rS a23_6 c23_6 2 ((withV (kR n) x.key x.val l).1.map rowOf), rB b10 43 [.int .i64 (kR n), .slice a22_5 ((withV (kR n) x.key x.val l).1.length) c22_5], rS a22_5 c22_5 2 ((withV (kR n) x.key x.val l).1.map rowOf), rB b9 67 [.int .i64 x.kind, .string x.key, .int .i64 x.val], rS la lc 2 (l.map rowOf), rB b5 43 [.int .i64 (kR n), .slice a22_5 ((withV (kR n) x.key x.val l).1.length) c22_5], rS a cc 2 (l.map rowOf), rS (some y) rc 3 (acts.map actRow)]) () H.out ?_ (steps_al ?_) ?_ ?_
  · exact fun _ _ _ _ _ h => h
  · refine al_cons ?_ (al_cons ?_ (al_nil))
    · intro LL xx ac wc sg hst hwant QQ hgo
      exact op_val hwant hgo hst _ (exec_move rfl ((sg.free 12 (by kernel_rfl)).trans so12)) rfl
    · intro LL xx ac wc sg hst hwant QQ hgo
      exact op_val hwant hgo hst _ (exec_assign rfl (sg.slot 0 (sg.anc 0 rfl))) rfl
  · exact skips [] (by kernel_rfl) (fun _ h => by cases h)
  · intro xx ac1 wz hfr hsl hst
    exact hfin ac1 wz (hfr.size.trans hz) hfr.defers (fr_keep hfr [7, 101] (by kernel_rfl)) (hsl 1 (by decide)) (Lib.hid hst)
set_option maxRecDepth 20000 in
theorem exact6_w_r35x11 (n : Int) (rc : Nat) (acts : List ActV) (b5 : Nat) (i : Nat) (a : Option Addr) (cc : Nat) (la : Option Addr) (lc : Nat) (l : List PairV) (hi : i ≤ acts.length) (hi2 : i ≤ 100) (hll : l.length ≤ i) (z1ld : i < acts.length) (z1rd : (i : Int) < 100) (y : Addr) (x : ActV) (b9 : Nat) (z2d : ¬ (10 < (x.key.size : Int))) (a22_5 : Option Addr) (c22_5 : Nat) (b10 : Nat) (a23_6 : Option Addr) (c23_6 : Nat) {wa wb : World} (H : Hid (Hp [] wa wb [rS a23_6 c23_6 2 ((withV (kR n) x.key x.val l).1.map rowOf), rB b10 43 [.int .i64 (kR n), .slice a22_5 ((withV (kR n) x.key x.val l).1.length) c22_5], rS a22_5 c22_5 2 ((withV (kR n) x.key x.val l).1.map rowOf), rB b9 67 [.int .i64 x.kind, .string x.key, .int .i64 x.val], rS la lc 2 (l.map rowOf), rB b5 43 [.int .i64 (kR n), .slice a22_5 ((withV (kR n) x.key x.val l).1.length) c22_5], rS a cc 2 (l.map rowOf), rS (some y) rc 3 (acts.map actRow)])) (ac0 : Act) (hz : ac0.tmps.size = 143) (so5 : ac0.eval (.tmp 5) = .pointer (some ⟨b5, 0, none⟩)) (so6 : ac0.eval (.tmp 6) = .int .i64 (kR n)) (so7 : ac0.eval (.tmp 7) = .slice a23_6 ((withV (kR n) x.key x.val l).1.length) c23_6) {QR : Exit → Act → World → Prop} (hfin : ∀ (ac1 : Act) (wz : World), ac1.tmps.size = 143 → ac1.defers = ac0.defers → (∀ t, ([128, 129, 130, 131, 132, 133, 134, 135, 136, 137] : List Nat).contains t = false → ac1.eval (.tmp t) = ac0.eval (.tmp t)) → ac1.eval (.tmp 137) = .bool false →  Hid (Hp [] wa wz [rS a23_6 c23_6 2 ((withV (kR n) x.key x.val l).1.map rowOf), rB b10 43 [.int .i64 (kR n), .slice a22_5 ((withV (kR n) x.key x.val l).1.length) c22_5], rS a22_5 c22_5 2 ((withV (kR n) x.key x.val l).1.map rowOf), rB b9 67 [.int .i64 x.kind, .string x.key, .int .i64 x.val], rS la lc 2 (l.map rowOf), rB b5 43 [.int .i64 (kR n), .slice a22_5 ((withV (kR n) x.key x.val l).1.length) c22_5], rS a cc 2 (l.map rowOf), rS (some y) rc 3 (acts.map actRow)]) → QR .normal ac1 wz) : (regAt Try.f8 35).wp Try.prog QR ac0 wb := by
  refine wp_region_sq (by kernel_rfl) 143 hz (by kernel_rfl) (fun (xx : Unit) jx => nth [.agg #[.int .i64 (kR n), .slice a22_5 ((withV (kR n) x.key x.val l).1.length) c22_5], .slice a23_6 ((withV (kR n) x.key x.val l).1.length) c23_6, .bool true, .bool false, .bool false, .agg #[.int .i64 (kR n), .slice a22_5 ((withV (kR n) x.key x.val l).1.length) c22_5], .int .i64 (kR n), .int .i64 (kR n), .bool false, .bool false] jx) (fun (LL : Nat → Bool) (xx : Unit) ww => Hp [] wa ww [rS a23_6 c23_6 2 ((withV (kR n) x.key x.val l).1.map rowOf), rB b10 43 [.int .i64 (kR n), .slice a22_5 ((withV (kR n) x.key x.val l).1.length) c22_5], rS a22_5 c22_5 2 ((withV (kR n) x.key x.val l).1.map rowOf), rB b9 67 [.int .i64 x.kind, .string x.key, .int .i64 x.val], rS la lc 2 (l.map rowOf), rB b5 43 [.int .i64 (kR n), .slice a22_5 ((withV (kR n) x.key x.val l).1.length) c22_5], rS a cc 2 (l.map rowOf), rS (some y) rc 3 (acts.map actRow)]) () H.out ?_ (steps_al ?_) ?_ ?_
  · exact fun _ _ _ _ _ h => h
  · refine al_cons ?_ (al_cons ?_ (al_cons ?_ (al_cons ?_ (al_cons ?_ (al_cons ?_ (al_cons ?_ (al_cons ?_ (al_cons ?_ (al_cons ?_ (al_nil))))))))))
    · intro LL xx ac wc sg hst hwant QQ hgo
      have H := Lib.hid hst
      refine hpA_load tyshelf_Shelf_string__int_ H rfl ((sg.free 5 (by kernel_rfl)).trans so5) hwant (by (repeat (first | exact List.Mem.head _ | apply List.Mem.tail))) (by rfl) rfl ?_
      exact hgo _ () _ (fun _ _ => rfl) rfl hst
    · intro LL xx ac wc sg hst hwant QQ hgo
      exact op_val hwant hgo hst _ (exec_move rfl ((sg.free 7 (by kernel_rfl)).trans so7)) rfl
    · intro LL xx ac wc sg hst hwant QQ hgo
      have se128 : ac.eval (.tmp 128) = _ := (sg.slot 0 (sg.anc 0 rfl))
      have sg128 := gt_of se128
      have se129 : ac.eval (.tmp 129) = _ := (sg.slot 1 (sg.anc 1 rfl))
      have sg129 := gt_of se129
      (try simp only [nth] at se128 sg128 se129 sg129)
      have H := Lib.hid hst
      refine op_call hwant hgo 42 _ (by simp only [execOp]; go_simp) (alikeC (kR n) a22_5 c22_5 a23_6 c23_6 ((withV (kR n) x.key x.val l).1) wc (hp_held H (show rS a22_5 c22_5 2 (((withV (kR n) x.key x.val l).1).map rowOf) ∈ _ by (repeat (first | exact List.Mem.head _ | apply List.Mem.tail)))) (hp_held H (show rS a23_6 c23_6 2 (((withV (kR n) x.key x.val l).1).map rowOf) ∈ _ by (repeat (first | exact List.Mem.head _ | apply List.Mem.tail)))) (Nat.le_trans (few_with _ _ _ _) (by omega))) ?_
      rintro er wd ⟨rfl, hof⟩
      exact ⟨_, (), rfl, fun _ _ => rfl, rfl, Hp.quiet hst hof⟩
    · intro LL xx ac wc sg hst hwant QQ hgo
      have se130 : ac.eval (.tmp 130) = _ := (sg.slot 2 (sg.anc 2 rfl))
      have sg130 := gt_of se130
      (try simp only [nth] at se130 sg130)
      exact op_val hwant hgo hst _ (by simp only [execOp, nth]; go_simp <;> omega) rfl
    · intro LL xx ac wc sg hst hwant QQ hgo
      exact op_val hwant hgo hst _ (exec_move rfl (sg.slot 3 (sg.anc 3 rfl))) rfl
    · intro LL xx ac wc sg hst hwant QQ hgo
      have H := Lib.hid hst
      refine hpA_load tyshelf_Shelf_string__int_ H rfl ((sg.free 5 (by kernel_rfl)).trans so5) hwant (by (repeat (first | exact List.Mem.head _ | apply List.Mem.tail))) (by rfl) rfl ?_
      exact hgo _ () _ (fun _ _ => rfl) rfl hst
    · intro LL xx ac wc sg hst hwant QQ hgo
      have se133 : ac.eval (.tmp 133) = _ := (sg.slot 5 (sg.anc 5 rfl))
      have sg133 := gt_of se133
      (try simp only [nth] at se133 sg133)
      refine op_call hwant hgo 43 _ (by simp only [execOp]; go_simp) (roomC (kR n) (.slice a22_5 ((withV (kR n) x.key x.val l).1.length) c22_5) wc) ?_
      rintro er wd ⟨rfl, hof⟩
      exact ⟨_, (), rfl, fun _ _ => rfl, rfl, Hp.quiet hst hof⟩
    · intro LL xx ac wc sg hst hwant QQ hgo
      exact op_val hwant hgo hst _ (exec_move rfl ((sg.free 6 (by kernel_rfl)).trans so6)) rfl
    · intro LL xx ac wc sg hst hwant QQ hgo
      have se134 : ac.eval (.tmp 134) = _ := (sg.slot 6 (sg.anc 6 rfl))
      have sg134 := gt_of se134
      have se135 : ac.eval (.tmp 135) = _ := (sg.slot 7 (sg.anc 7 rfl))
      have sg135 := gt_of se135
      (try simp only [nth] at se134 sg134 se135 sg135)
      exact op_val hwant hgo hst _ (by simp only [execOp, nth]; go_simp <;> omega) rfl
    · intro LL xx ac wc sg hst hwant QQ hgo
      exact op_val hwant hgo hst (.bool false) (exec_pick (B := false) (U := undef) (V := .bool false) rfl (sg.slot 4 (sg.anc 4 rfl)) (fun h => by cases h) (fun _ => (sg.slot 8 (sg.anc 8 rfl)))) rfl
  · refine skips [5, 6, 7, 8] (by kernel_rfl) ?_
    refine List.forall_mem_cons.2 ⟨?_, List.forall_mem_cons.2 ⟨?_, List.forall_mem_cons.2 ⟨?_, List.forall_mem_cons.2 ⟨?_, fun _ h => by cases h⟩⟩⟩⟩
    · intro oo hop LL xx ac sg hwant
      cases Option.some.inj hop
      exact absurd ((want_f rfl rfl (sg.slot 4 (sg.anc 4 rfl))).symm.trans hwant) (by decide)
    · intro oo hop LL xx ac sg hwant
      cases Option.some.inj hop
      exact absurd ((want_f rfl rfl (sg.slot 4 (sg.anc 4 rfl))).symm.trans hwant) (by decide)
    · intro oo hop LL xx ac sg hwant
      cases Option.some.inj hop
      exact absurd ((want_f rfl rfl (sg.slot 4 (sg.anc 4 rfl))).symm.trans hwant) (by decide)
    · intro oo hop LL xx ac sg hwant
      cases Option.some.inj hop
      exact absurd ((want_f rfl rfl (sg.slot 4 (sg.anc 4 rfl))).symm.trans hwant) (by decide)
  · intro xx ac1 wz hfr hsl hst
    exact hfin ac1 wz (hfr.size.trans hz) hfr.defers (fr_keep hfr [128, 129, 130, 131, 132, 133, 134, 135, 136, 137] (by kernel_rfl)) (hsl 9 (by decide)) (Lib.hid hst)
set_option maxRecDepth 20000 in
theorem exact6_w_r10x11 (n : Int) (rc : Nat) (acts : List ActV) (b5 : Nat) (i : Nat) (a : Option Addr) (cc : Nat) (la : Option Addr) (lc : Nat) (l : List PairV) (hi : i ≤ acts.length) (hi2 : i ≤ 100) (hll : l.length ≤ i) (z1ld : i < acts.length) (z1rd : (i : Int) < 100) (y : Addr) (x : ActV) (b9 : Nat) (z2d : ¬ (10 < (x.key.size : Int))) (a22_5 : Option Addr) (c22_5 : Nat) (b10 : Nat) (a23_6 : Option Addr) (c23_6 : Nat) {wa wb : World} (H : Hid (Hp [] wa wb [rS a23_6 c23_6 2 ((withV (kR n) x.key x.val l).1.map rowOf), rB b10 43 [.int .i64 (kR n), .slice a22_5 ((withV (kR n) x.key x.val l).1.length) c22_5], rS a22_5 c22_5 2 ((withV (kR n) x.key x.val l).1.map rowOf), rB b9 67 [.int .i64 x.kind, .string x.key, .int .i64 x.val], rS la lc 2 (l.map rowOf), rB b5 43 [.int .i64 (kR n), .slice a22_5 ((withV (kR n) x.key x.val l).1.length) c22_5], rS a cc 2 (l.map rowOf), rS (some y) rc 3 (acts.map actRow)])) (ac0 : Act) (hz : ac0.tmps.size = 143) (so8 : ac0.eval (.tmp 8) = .int .i64 i) {QR : Exit → Act → World → Prop} (hfin : ∀ (ac1 : Act) (wz : World), ac1.tmps.size = 143 → ac1.defers = ac0.defers → (∀ t, ([8, 40, 41] : List Nat).contains t = false → ac1.eval (.tmp t) = ac0.eval (.tmp t)) → ac1.eval (.tmp 8) = .int .i64 (i + 1) →  Hid (Hp [] wa wz [rS a23_6 c23_6 2 ((withV (kR n) x.key x.val l).1.map rowOf), rB b10 43 [.int .i64 (kR n), .slice a22_5 ((withV (kR n) x.key x.val l).1.length) c22_5], rS a22_5 c22_5 2 ((withV (kR n) x.key x.val l).1.map rowOf), rB b9 67 [.int .i64 x.kind, .string x.key, .int .i64 x.val], rS la lc 2 (l.map rowOf), rB b5 43 [.int .i64 (kR n), .slice a22_5 ((withV (kR n) x.key x.val l).1.length) c22_5], rS a cc 2 (l.map rowOf), rS (some y) rc 3 (acts.map actRow)]) → QR .normal ac1 wz) : (regAt Try.f8 10).wp Try.prog QR ac0 wb := by
  refine wp_region_sq (by kernel_rfl) 143 hz (by kernel_rfl) (fun (xx : Unit) jx => nth [.int .i64 i, .int .i64 (i + 1), .int .i64 (i + 1)] jx) (fun (LL : Nat → Bool) (xx : Unit) ww => Hp [] wa ww [rS a23_6 c23_6 2 ((withV (kR n) x.key x.val l).1.map rowOf), rB b10 43 [.int .i64 (kR n), .slice a22_5 ((withV (kR n) x.key x.val l).1.length) c22_5], rS a22_5 c22_5 2 ((withV (kR n) x.key x.val l).1.map rowOf), rB b9 67 [.int .i64 x.kind, .string x.key, .int .i64 x.val], rS la lc 2 (l.map rowOf), rB b5 43 [.int .i64 (kR n), .slice a22_5 ((withV (kR n) x.key x.val l).1.length) c22_5], rS a cc 2 (l.map rowOf), rS (some y) rc 3 (acts.map actRow)]) () H.out ?_ (steps_al ?_) ?_ ?_
  · exact fun _ _ _ _ _ h => h
  · refine al_cons ?_ (al_cons ?_ (al_cons ?_ (al_nil)))
    · intro LL xx ac wc sg hst hwant QQ hgo
      exact op_val hwant hgo hst _ (exec_move rfl ((sg.yet 8 2 (sg.des 2 rfl) (by kernel_rfl)).trans so8)) rfl
    · intro LL xx ac wc sg hst hwant QQ hgo
      have se40 : ac.eval (.tmp 40) = _ := (sg.slot 0 (sg.anc 0 rfl))
      have sg40 := gt_of se40
      (try simp only [nth] at se40 sg40)
      have hnw : IntKind.i64.wrap (i + 1 : Int) = i + 1 := IntWalk.i64_in _ (by omega)
      exact op_val hwant hgo hst _ (by simp only [execOp, nth]; go_simp <;> omega) rfl
    · intro LL xx ac wc sg hst hwant QQ hgo
      exact op_val hwant hgo hst _ (exec_assign rfl (sg.slot 1 (sg.anc 1 rfl))) rfl
  · exact skips [] (by kernel_rfl) (fun _ h => by cases h)
  · intro xx ac1 wz hfr hsl hst
    exact hfin ac1 wz (hfr.size.trans hz) hfr.defers (fr_keep hfr [8, 40, 41] (by kernel_rfl)) (hsl 2 (by decide)) (Lib.hid hst)
set_option maxRecDepth 20000 in
theorem exact6_w_r28x2 (n : Int) (rc : Nat) (acts : List ActV) (b5 : Nat) (i : Nat) (a : Option Addr) (cc : Nat) (la : Option Addr) (lc : Nat) (l : List PairV) (hi : i ≤ acts.length) (hi2 : i ≤ 100) (hll : l.length ≤ i) (z1ld : i < acts.length) (z1rd : (i : Int) < 100) (y : Addr) (x : ActV) (b9 : Nat) (z2d : ¬ (10 < (x.key.size : Int))) {wa wb : World} (H : Hid (Hp [] wa wb [rB b9 67 [.int .i64 x.kind, .string x.key, .int .i64 x.val], rS la lc 2 (l.map rowOf), rB b5 43 [.int .i64 (kR n), .slice a l.length cc], rS a cc 2 (l.map rowOf), rS (some y) rc 3 (acts.map actRow)])) (ac0 : Act) (hz : ac0.tmps.size = 143) (so51 : ac0.eval (.tmp 51) = .int .i64 x.kind) {QR : Exit → Act → World → Prop} (hfin : ∀ (ac1 : Act) (wz : World), ac1.tmps.size = 143 → ac1.defers = ac0.defers → (∀ t, ([102, 103] : List Nat).contains t = false → ac1.eval (.tmp t) = ac0.eval (.tmp t)) → ac1.eval (.tmp 102) = .bool (x.kind == 4) →  Hid (Hp [] wa wz [rB b9 67 [.int .i64 x.kind, .string x.key, .int .i64 x.val], rS la lc 2 (l.map rowOf), rB b5 43 [.int .i64 (kR n), .slice a l.length cc], rS a cc 2 (l.map rowOf), rS (some y) rc 3 (acts.map actRow)]) → QR .normal ac1 wz) : (regAt Try.f8 28).wp Try.prog QR ac0 wb := by
  refine wp_region_sq (by kernel_rfl) 143 hz (by kernel_rfl) (fun (xx : Unit) jx => nth [.bool (x.kind == 4), .bool (x.kind == 4)] jx) (fun (LL : Nat → Bool) (xx : Unit) ww => Hp [] wa ww [rB b9 67 [.int .i64 x.kind, .string x.key, .int .i64 x.val], rS la lc 2 (l.map rowOf), rB b5 43 [.int .i64 (kR n), .slice a l.length cc], rS a cc 2 (l.map rowOf), rS (some y) rc 3 (acts.map actRow)]) () H.out ?_ (steps_al ?_) ?_ ?_
  · exact fun _ _ _ _ _ h => h
  · refine al_cons ?_ (al_cons ?_ (al_nil))
    · intro LL xx ac wc sg hst hwant QQ hgo
      have se51 : ac.eval (.tmp 51) = _ := ((sg.free 51 (by kernel_rfl)).trans so51)
      have sg51 := gt_of se51
      exact op_val hwant hgo hst _ (by simp only [execOp, nth]; go_simp <;> omega) rfl
    · intro LL xx ac wc sg hst hwant QQ hgo
      exact op_val hwant hgo hst _ (exec_assign rfl (sg.slot 0 (sg.anc 0 rfl))) rfl
  · exact skips [] (by kernel_rfl) (fun _ h => by cases h)
  · intro xx ac1 wz hfr hsl hst
    exact hfin ac1 wz (hfr.size.trans hz) hfr.defers (fr_keep hfr [102, 103] (by kernel_rfl)) (hsl 1 (by decide)) (Lib.hid hst)
set_option maxRecDepth 20000 in
theorem exact6_w_r29x2 (n : Int) (rc : Nat) (acts : List ActV) (b5 : Nat) (i : Nat) (a : Option Addr) (cc : Nat) (la : Option Addr) (lc : Nat) (l : List PairV) (hi : i ≤ acts.length) (hi2 : i ≤ 100) (hll : l.length ≤ i) (hs : Hid (Sorted l)) (z1ld : i < acts.length) (z1rd : (i : Int) < 100) (y : Addr) (x : ActV) (b9 : Nat) (z2d : ¬ (10 < (x.key.size : Int))) {wa wb : World} (H : Hid (Hp [] wa wb [rB b9 67 [.int .i64 x.kind, .string x.key, .int .i64 x.val], rS la lc 2 (l.map rowOf), rB b5 43 [.int .i64 (kR n), .slice a l.length cc], rS a cc 2 (l.map rowOf), rS (some y) rc 3 (acts.map actRow)])) (ac0 : Act) (hz : ac0.tmps.size = 143) (so5 : ac0.eval (.tmp 5) = .pointer (some ⟨b5, 0, none⟩)) (so9 : ac0.eval (.tmp 9) = .pointer (some ⟨b9, 0, none⟩)) {QR : Exit → Act → World → Prop} (hfin : ∀ (a29_3 : Option Addr) (c29_3 : Nat) (ac1 : Act) (wz : World), ac1.tmps.size = 143 → ac1.defers = ac0.defers → (∀ t, ([104, 105, 106, 107] : List Nat).contains t = false → ac1.eval (.tmp t) = ac0.eval (.tmp t)) →  Hid (Hp [] wa wz [rS a29_3 c29_3 2 ((l.filter (keepN x.key)).map rowOf), rB b9 67 [.int .i64 x.kind, .string x.key, .int .i64 x.val], rS la lc 2 (l.map rowOf), rB b5 43 [.int .i64 (kR n), .slice a29_3 ((l.filter (keepN x.key)).length) c29_3], rS a cc 2 (l.map rowOf), rS (some y) rc 3 (acts.map actRow)]) → QR .normal ac1 wz) : (regAt Try.f8 29).wp Try.prog QR ac0 wb := by
  refine wp_region_sq (by kernel_rfl) 143 hz (by kernel_rfl) (fun (xx : Option Addr × Nat) jx => match xx with | (a29_3, c29_3) => nth [.agg #[.int .i64 (kR n), .slice a l.length cc], .pointer (some ⟨b9, 1, none⟩), .string x.key, .agg #[.int .i64 (kR n), .slice a29_3 ((l.filter (keepN x.key)).length) c29_3], undef] jx) (fun (LL : Nat → Bool) (xx : Option Addr × Nat) ww => match xx with | (a29_3, c29_3) => Hp [] wa ww (bif LL 4 then [rS a29_3 c29_3 2 ((l.filter (keepN x.key)).map rowOf), rB b9 67 [.int .i64 x.kind, .string x.key, .int .i64 x.val], rS la lc 2 (l.map rowOf), rB b5 43 [.int .i64 (kR n), .slice a29_3 ((l.filter (keepN x.key)).length) c29_3], rS a cc 2 (l.map rowOf), rS (some y) rc 3 (acts.map actRow)] else (bif LL 3 then [rS a29_3 c29_3 2 ((l.filter (keepN x.key)).map rowOf), rB b9 67 [.int .i64 x.kind, .string x.key, .int .i64 x.val], rS la lc 2 (l.map rowOf), rB b5 43 [.int .i64 (kR n), .slice a l.length cc], rS a cc 2 (l.map rowOf), rS (some y) rc 3 (acts.map actRow)] else [rB b9 67 [.int .i64 x.kind, .string x.key, .int .i64 x.val], rS la lc 2 (l.map rowOf), rB b5 43 [.int .i64 (kR n), .slice a l.length cc], rS a cc 2 (l.map rowOf), rS (some y) rc 3 (acts.map actRow)]))) (default, default) H.out ?_ (steps_al ?_) ?_ ?_
  · intro L1 L2 xx ww hL sg
    have lh3 := hL 3 (by decide)
    have lh4 := hL 4 (by decide)
    simp only [lh3, lh4] at sg
    exact sg
  · refine al_cons ?_ (al_cons ?_ (al_cons ?_ (al_cons ?_ (al_cons ?_ (al_nil)))))
    · intro LL xx ac wc sg hst hwant QQ hgo
      obtain ⟨a29_3, c29_3⟩ := xx
      have H := Lib.hid hst
      simp only [sg.des 3 rfl, sg.des 4 rfl, cond_true, cond_false] at H
      refine hpA_load tyshelf_Shelf_string__int_ H rfl ((sg.free 5 (by kernel_rfl)).trans so5) hwant (by (repeat (first | exact List.Mem.head _ | apply List.Mem.tail))) (by rfl) rfl ?_
      exact hgo _ (a29_3, c29_3) _ (fun _ _ => rfl) rfl hst
    · intro LL xx ac wc sg hst hwant QQ hgo
      obtain ⟨a29_3, c29_3⟩ := xx
      have se9 : ac.eval (.tmp 9) = _ := ((sg.free 9 (by kernel_rfl)).trans so9)
      have sg9 := gt_of se9
      exact op_val hwant hgo hst _ (by simp only [execOp, nth]; go_simp <;> omega) rfl
    · intro LL xx ac wc sg hst hwant QQ hgo
      obtain ⟨a29_3, c29_3⟩ := xx
      have H := Lib.hid hst
      simp only [sg.des 3 rfl, sg.des 4 rfl, cond_true, cond_false] at H
      refine hpA_load1 tystring H rfl (sg.slot 1 (sg.anc 1 rfl)) hwant (by (repeat (first | exact List.Mem.head _ | apply List.Mem.tail))) (by rfl) ?_
      exact hgo _ (a29_3, c29_3) _ (fun _ _ => rfl) rfl hst
    · intro LL xx ac wc sg hst hwant QQ hgo
      obtain ⟨_, _⟩ := xx
      have se104 : ac.eval (.tmp 104) = _ := (sg.slot 0 (sg.anc 0 rfl))
      have sg104 := gt_of se104
      have se106 : ac.eval (.tmp 106) = _ := (sg.slot 2 (sg.anc 2 rfl))
      have sg106 := gt_of se106
      (try simp only [nth] at se104 sg104 se106 sg106)
      have H := Lib.hid hst
      simp only [sg.self, sg.des 4 rfl, cond_true, cond_false] at H
      refine op_call hwant hgo 37 _ (by simp only [execOp]; go_simp) (sWithout (kR n) a cc l x.key wc (hp_held H (show rS a cc 2 (l.map rowOf) ∈ _ by (repeat (first | exact List.Mem.head _ | apply List.Mem.tail)))) hs.out (by omega)) ?_
      rintro er wd ⟨a29_3, c29_3, rfl, hgv⟩
      have H2 := hp_got H hgv.2.2 hgv.1 (by decide) hgv.2.1 (by simp)
      exact ⟨_, (a29_3, c29_3), rfl, (sg.agree (x' := (a29_3, c29_3)) (n := 5) rfl (by (iterate 5 (refine ix_cons (by first | exact fun _ => rfl | exact no sg.self | exact no (sg.des _ rfl)) ?_)); exact ix_nil)), rfl, (by simp only [(show upd LL 3 3 = true from rfl), (show upd LL 3 4 = LL 4 from rfl), sg.des 4 rfl, cond_true, cond_false]; exact H2.out)⟩
    · intro LL xx ac wc sg hst hwant QQ hgo
      obtain ⟨a29_3, c29_3⟩ := xx
      have H := Lib.hid hst
      simp only [sg.anc 3 rfl, sg.self, cond_true, cond_false] at H
      refine hpA_store tyshelf_Shelf_string__int_ H rfl rfl ((sg.free 5 (by kernel_rfl)).trans so5) (sg.slot 3 (sg.anc 3 rfl)) rfl (by repeat (first | apply Put.head | apply Put.tail)) (by simp [List.length_cons]) (by simp [List.length_cons, Value.oneCell']) (by first | rfl | (simp only [spl]; rfl)) rfl ?_
      intro wd H2
      exact hgo _ (a29_3, c29_3) _ (sg.agree (x' := (a29_3, c29_3)) (n := 5) rfl (by (iterate 5 (refine ix_cons (by first | exact fun _ => rfl | exact no sg.self | exact no (sg.des _ rfl)) ?_)); exact ix_nil)) rfl (by simp only [(show upd LL 4 3 = LL 3 from rfl), sg.anc 3 rfl, (show upd LL 4 4 = true from rfl), cond_true, cond_false]; exact H2.out)
  · exact skips [] (by kernel_rfl) (fun _ h => by cases h)
  · intro xx ac1 wz hfr hsl hst
    obtain ⟨a29_3, c29_3⟩ := xx
    exact hfin a29_3 c29_3 ac1 wz (hfr.size.trans hz) hfr.defers (fr_keep hfr [104, 105, 106, 107] (by kernel_rfl)) (Lib.hid hst)
end Go.Proofs.Ytfhhfmkfkoemjaa.Si6
