/- Every stamp and number: the walk. -/
import Derived.Test.YtfhhfmkfkoemjaaProg
import Derived.Below
import Derived.WalkKit
import Derived.KernelRfl
import Derived.RowKit3
import Derived.Deep.LoopGhost
import Derived.Deep.QuietTactic
import Derived.BigQuiet
import Derived.WideLaws
import Derived.Deep.DeepCutAuto
import Derived.Deep.CutBlock
import Derived.Lib.Hide
import Derived.Laws.BitsLemmas
import Derived.Laws.Bits64
import Derived.Laws.BitsAllLaws
import Derived.IntWalk
import Derived.Outline
import Derived.WalkSpells
import Derived.Test.YtfhhfmkfkoemjaaMem
import Derived.Test.YtfhhfmkfkoemjaaKy4
import Derived.Laws.Bits64b
import Derived.DataShut
namespace Go.Proofs.Ytfhhfmkfkoemjaa.Se6
open Go.RowKit Go.Proofs.Ytfhhfmkfkoemjaa.Mem Go.Proofs.Ytfhhfmkfkoemjaa.Reg Go.Proofs.Ytfhhfmkfkoemjaa.Pk Go.Proofs.Ytfhhfmkfkoemjaa.Si
set_option linter.unusedVariables false
set_option linter.unusedSimpArgs false

set_option maxRecDepth 20000 in
theorem made_no_r0 (s : Int) (n : Int) (q : ((decide (s < 0) || decide (n < 0)) || (max s n / 4294967296 != 0)) = true) (qe : ((((decide (s < 0)) || (decide (4294967295 < s))) || (decide (n < 0))) || (decide (4294967295 < n))) = true) {wa wb : World} (H : Hid (Hp [] wa wb [])) (ac0 : Act) (hz : ac0.tmps.size = 41)  {QR : Exit → Act → World → Prop} (hfin : ∀ (ac1 : Act) (wz : World), ac1.tmps.size = 41 → ac1.defers = ac0.defers → (∀ t, ([4] : List Nat).contains t = false → ac1.eval (.tmp t) = ac0.eval (.tmp t)) → ac1.eval (.tmp 4) = .bool false →  Hid (Hp [] wa wz []) → QR .normal ac1 wz) : (regAt Try.f9 0).wp Try.prog QR ac0 wb := by
  refine wp_region_sq (by kernel_rfl) 41 hz (by kernel_rfl) (fun (xx : Unit) j => nth [.bool false] j) (fun (LL : Nat → Bool) (xx : Unit) ww => Hp [] wa ww []) () H.out ?_ (steps_al ?_) ?_ ?_
  · exact fun _ _ _ _ _ h => h
  · refine al_cons ?_ (al_nil)
    · intro LL xx ac wc sg hst hwant QQ hgo
      exact op_val hwant hgo hst _ (exec_assign rfl rfl) rfl
  · exact skips [] (by kernel_rfl) (fun _ h => by cases h)
  · intro xx ac1 wz hfr hsl hst
    exact hfin ac1 wz (hfr.size.trans hz) hfr.defers (fr_keep hfr [4] (by kernel_rfl)) (hsl 0 (by decide)) (Lib.hid hst)
set_option maxRecDepth 20000 in
theorem made_no_r1 (s : Int) (n : Int) (q : ((decide (s < 0) || decide (n < 0)) || (max s n / 4294967296 != 0)) = true) (qe : ((((decide (s < 0)) || (decide (4294967295 < s))) || (decide (n < 0))) || (decide (4294967295 < n))) = true) {wa wb : World} (H : Hid (Hp [] wa wb [])) (ac0 : Act) (hz : ac0.tmps.size = 41)  {QR : Exit → Act → World → Prop} (hfin : ∀ (ac1 : Act) (wz : World), ac1.tmps.size = 41 → ac1.defers = ac0.defers → (∀ t, ([6, 7] : List Nat).contains t = false → ac1.eval (.tmp t) = ac0.eval (.tmp t)) → ac1.eval (.tmp 7) = .bool false →  Hid (Hp [] wa wz []) → QR .normal ac1 wz) : (regAt Try.f9 1).wp Try.prog QR ac0 wb := by
  refine wp_region_sq (by kernel_rfl) 41 hz (by kernel_rfl) (fun (xx : Unit) j => nth [.bool true, .bool false] j) (fun (LL : Nat → Bool) (xx : Unit) ww => Hp [] wa ww []) () H.out ?_ (steps_al ?_) ?_ ?_
  · exact fun _ _ _ _ _ h => h
  · refine al_cons ?_ (al_cons ?_ (al_nil))
    · intro LL xx ac wc sg hst hwant QQ hgo
      refine op_call hwant hgo 44 _ (by simp only [execOp]; go_simp) (awake10 wc) ?_
      rintro er wd ⟨rfl, hof⟩
      exact ⟨_, (), rfl, fun _ _ => rfl, rfl, Hp.quiet hst hof⟩
    · intro LL xx ac wc sg hst hwant QQ hgo
      have se6 : ac.eval (.tmp 6) = _ := (sg.slot 0 (sg.anc 0 rfl))
      have sg6 := gt_of se6
      (try simp only [nth] at se6 sg6)
      exact op_val hwant hgo hst _ (by simp only [execOp, nth]; go_simp) rfl
  · exact skips [] (by kernel_rfl) (fun _ h => by cases h)
  · intro xx ac1 wz hfr hsl hst
    exact hfin ac1 wz (hfr.size.trans hz) hfr.defers (fr_keep hfr [6, 7] (by kernel_rfl)) (hsl 1 (by decide)) (Lib.hid hst)
set_option maxRecDepth 20000 in
theorem made_no_r3 (s : Int) (n : Int) (q : ((decide (s < 0) || decide (n < 0)) || (max s n / 4294967296 != 0)) = true) (qe : ((((decide (s < 0)) || (decide (4294967295 < s))) || (decide (n < 0))) || (decide (4294967295 < n))) = true) {wa wb : World} (H : Hid (Hp [] wa wb [])) (ac0 : Act) (hz : ac0.tmps.size = 41) (so0 : ac0.eval (.tmp 0) = .int .i64 s) (so1 : ac0.eval (.tmp 1) = .int .i64 n) {QR : Exit → Act → World → Prop} (hfin : ∀ (ac1 : Act) (wz : World), ac1.tmps.size = 41 → ac1.defers = ac0.defers → (∀ t, ([5, 8, 9, 10] : List Nat).contains t = false → ac1.eval (.tmp t) = ac0.eval (.tmp t)) → ac1.eval (.tmp 5) = .int .u64 0 →  Hid (Hp [] wa wz []) → QR .normal ac1 wz) : (regAt Try.f9 3).wp Try.prog QR ac0 wb := by
  refine wp_region_sq (by kernel_rfl) 41 hz (by kernel_rfl) (fun (xx : Unit) j => nth [.int .i64 s, .int .i64 n, .int .u64 0, .int .u64 0] j) (fun (LL : Nat → Bool) (xx : Unit) ww => Hp [] wa ww []) () H.out ?_ (steps_al ?_) ?_ ?_
  · exact fun _ _ _ _ _ h => h
  · refine al_cons ?_ (al_cons ?_ (al_cons ?_ (al_cons ?_ (al_nil))))
    · intro LL xx ac wc sg hst hwant QQ hgo
      exact op_val hwant hgo hst _ (exec_move rfl ((sg.free 0 (by kernel_rfl)).trans so0)) rfl
    · intro LL xx ac wc sg hst hwant QQ hgo
      exact op_val hwant hgo hst _ (exec_move rfl ((sg.free 1 (by kernel_rfl)).trans so1)) rfl
    · intro LL xx ac wc sg hst hwant QQ hgo
      have se8 : ac.eval (.tmp 8) = _ := (sg.slot 0 (sg.anc 0 rfl))
      have sg8 := gt_of se8
      have se9 : ac.eval (.tmp 9) = _ := (sg.slot 1 (sg.anc 1 rfl))
      have sg9 := gt_of se9
      (try simp only [nth] at se8 sg8 se9 sg9)
      refine op_call hwant hgo 45 _ (by simp only [execOp]; go_simp) (keyNo s n wc q) ?_
      rintro er wd ⟨rfl, hof⟩
      exact ⟨_, (), rfl, fun _ _ => rfl, rfl, Hp.quiet hst hof⟩
    · intro LL xx ac wc sg hst hwant QQ hgo
      exact op_val hwant hgo hst _ (exec_assign rfl (sg.slot 2 (sg.anc 2 rfl))) rfl
  · exact skips [] (by kernel_rfl) (fun _ h => by cases h)
  · intro xx ac1 wz hfr hsl hst
    exact hfin ac1 wz (hfr.size.trans hz) hfr.defers (fr_keep hfr [5, 8, 9, 10] (by kernel_rfl)) (hsl 3 (by decide)) (Lib.hid hst)
set_option maxRecDepth 20000 in
theorem made_no_r4 (s : Int) (n : Int) (q : ((decide (s < 0) || decide (n < 0)) || (max s n / 4294967296 != 0)) = true) (qe : ((((decide (s < 0)) || (decide (4294967295 < s))) || (decide (n < 0))) || (decide (4294967295 < n))) = true) {wa wb : World} (H : Hid (Hp [] wa wb [])) (ac0 : Act) (hz : ac0.tmps.size = 41) (so0 : ac0.eval (.tmp 0) = .int .i64 s) (so1 : ac0.eval (.tmp 1) = .int .i64 n) {QR : Exit → Act → World → Prop} (hfin : ∀ (ac1 : Act) (wz : World), ac1.tmps.size = 41 → ac1.defers = ac0.defers → (∀ t, ([11, 12, 13, 14, 15, 16, 17, 18, 19, 20, 21, 22, 23, 24] : List Nat).contains t = false → ac1.eval (.tmp t) = ac0.eval (.tmp t)) → ac1.eval (.tmp 24) = .bool true →  Hid (Hp [] wa wz []) → QR .normal ac1 wz) : (regAt Try.f9 4).wp Try.prog QR ac0 wb := by
  refine wp_region_sq (by kernel_rfl) 41 hz (by kernel_rfl) (fun (xx : Unit) j => nth [.int .i64 s, .bool (decide (s < 0)), .bool (decide (s < 0)), bif !(decide (s < 0)) then .int .i64 s else undef, bif !(decide (s < 0)) then .bool (decide (4294967295 < s)) else undef, .bool ((decide (s < 0)) || (decide (4294967295 < s))), .bool ((decide (s < 0)) || (decide (4294967295 < s))), bif !((decide (s < 0)) || (decide (4294967295 < s))) then .int .i64 n else undef, bif !((decide (s < 0)) || (decide (4294967295 < s))) then .bool (decide (n < 0)) else undef, .bool (((decide (s < 0)) || (decide (4294967295 < s))) || (decide (n < 0))), .bool (((decide (s < 0)) || (decide (4294967295 < s))) || (decide (n < 0))), bif !(((decide (s < 0)) || (decide (4294967295 < s))) || (decide (n < 0))) then .int .i64 n else undef, bif !(((decide (s < 0)) || (decide (4294967295 < s))) || (decide (n < 0))) then .bool (decide (4294967295 < n)) else undef, .bool true] j) (fun (LL : Nat → Bool) (xx : Unit) ww => Hp [] wa ww []) () H.out ?_ (steps_al ?_) ?_ ?_
  · exact fun _ _ _ _ _ h => h
  · refine al_cons ?_ (al_cons ?_ (al_cons ?_ (al_cons ?_ (al_cons ?_ (al_cons ?_ (al_cons ?_ (al_cons ?_ (al_cons ?_ (al_cons ?_ (al_cons ?_ (al_cons ?_ (al_cons ?_ (al_cons ?_ (al_nil))))))))))))))
    · intro LL xx ac wc sg hst hwant QQ hgo
      exact op_val hwant hgo hst _ (exec_move rfl ((sg.free 0 (by kernel_rfl)).trans so0)) rfl
    · intro LL xx ac wc sg hst hwant QQ hgo
      have se11 : ac.eval (.tmp 11) = _ := (sg.slot 0 (sg.anc 0 rfl))
      have sg11 := gt_of se11
      (try simp only [nth] at se11 sg11)
      exact op_val hwant hgo hst _ (by simp only [execOp, nth]; go_simp) rfl
    · intro LL xx ac wc sg hst hwant QQ hgo
      exact op_val hwant hgo hst _ (exec_move rfl (sg.slot 1 (sg.anc 1 rfl))) rfl
    · intro LL xx ac wc sg hst hwant QQ hgo
      have hG : (!(decide (s < 0))) = true := (want_f rfl rfl (sg.slot 2 (sg.anc 2 rfl))).symm.trans hwant
      exact op_val hwant hgo hst _ (exec_move rfl ((sg.free 0 (by kernel_rfl)).trans so0)) (cI hG)
    · intro LL xx ac wc sg hst hwant QQ hgo
      have hG : (!(decide (s < 0))) = true := (want_f rfl rfl (sg.slot 2 (sg.anc 2 rfl))).symm.trans hwant
      have se14 : ac.eval (.tmp 14) = _ := (cT (sg.slot 3 (sg.anc 3 rfl)) hG)
      have sg14 := gt_of se14
      (try simp only [nth] at se14 sg14)
      exact op_val hwant hgo hst _ (by simp only [execOp, nth]; go_simp) (cI hG)
    · intro LL xx ac wc sg hst hwant QQ hgo
      exact op_val hwant hgo hst (.bool ((decide (s < 0)) || (decide (4294967295 < s)))) (exec_or (Y := decide (4294967295 < s)) rfl (sg.slot 2 (sg.anc 2 rfl)) (fun qq => cT (sg.slot 4 (sg.anc 4 rfl)) (bk qq))) rfl
    · intro LL xx ac wc sg hst hwant QQ hgo
      exact op_val hwant hgo hst _ (exec_move rfl (sg.slot 5 (sg.anc 5 rfl))) rfl
    · intro LL xx ac wc sg hst hwant QQ hgo
      have hG : (!((decide (s < 0)) || (decide (4294967295 < s)))) = true := (want_f rfl rfl (sg.slot 6 (sg.anc 6 rfl))).symm.trans hwant
      exact op_val hwant hgo hst _ (exec_move rfl ((sg.free 1 (by kernel_rfl)).trans so1)) (cI hG)
    · intro LL xx ac wc sg hst hwant QQ hgo
      have hG : (!((decide (s < 0)) || (decide (4294967295 < s)))) = true := (want_f rfl rfl (sg.slot 6 (sg.anc 6 rfl))).symm.trans hwant
      have se18 : ac.eval (.tmp 18) = _ := (cT (sg.slot 7 (sg.anc 7 rfl)) hG)
      have sg18 := gt_of se18
      (try simp only [nth] at se18 sg18)
      exact op_val hwant hgo hst _ (by simp only [execOp, nth]; go_simp) (cI hG)
    · intro LL xx ac wc sg hst hwant QQ hgo
      exact op_val hwant hgo hst (.bool (((decide (s < 0)) || (decide (4294967295 < s))) || (decide (n < 0)))) (exec_or (Y := decide (n < 0)) rfl (sg.slot 6 (sg.anc 6 rfl)) (fun qq => cT (sg.slot 8 (sg.anc 8 rfl)) (bk qq))) rfl
    · intro LL xx ac wc sg hst hwant QQ hgo
      exact op_val hwant hgo hst _ (exec_move rfl (sg.slot 9 (sg.anc 9 rfl))) rfl
    · intro LL xx ac wc sg hst hwant QQ hgo
      have hG : (!(((decide (s < 0)) || (decide (4294967295 < s))) || (decide (n < 0)))) = true := (want_f rfl rfl (sg.slot 10 (sg.anc 10 rfl))).symm.trans hwant
      exact op_val hwant hgo hst _ (exec_move rfl ((sg.free 1 (by kernel_rfl)).trans so1)) (cI hG)
    · intro LL xx ac wc sg hst hwant QQ hgo
      have hG : (!(((decide (s < 0)) || (decide (4294967295 < s))) || (decide (n < 0)))) = true := (want_f rfl rfl (sg.slot 10 (sg.anc 10 rfl))).symm.trans hwant
      have se22 : ac.eval (.tmp 22) = _ := (cT (sg.slot 11 (sg.anc 11 rfl)) hG)
      have sg22 := gt_of se22
      (try simp only [nth] at se22 sg22)
      exact op_val hwant hgo hst _ (by simp only [execOp, nth]; go_simp) (cI hG)
    · intro LL xx ac wc sg hst hwant QQ hgo
      exact op_val hwant hgo hst (.bool ((((decide (s < 0)) || (decide (4294967295 < s))) || (decide (n < 0))) || (decide (4294967295 < n)))) (exec_or (Y := decide (4294967295 < n)) rfl (sg.slot 10 (sg.anc 10 rfl)) (fun qq => cT (sg.slot 12 (sg.anc 12 rfl)) (bk qq))) (congrArg Value.bool (by first | assumption | (simp; done)))
  · refine skips [3, 4, 7, 8, 11, 12] (by kernel_rfl) ?_
    refine List.forall_mem_cons.2 ⟨?_, List.forall_mem_cons.2 ⟨?_, List.forall_mem_cons.2 ⟨?_, List.forall_mem_cons.2 ⟨?_, List.forall_mem_cons.2 ⟨?_, List.forall_mem_cons.2 ⟨?_, fun _ h => by cases h⟩⟩⟩⟩⟩⟩
    · intro oo hop LL xx ac sg hwant
      cases Option.some.inj hop
      have hG : (!(decide (s < 0))) = false := (want_f rfl rfl (sg.slot 2 (sg.anc 2 rfl))).symm.trans hwant
      exact ⟨cF hG, fun _ h => h⟩
    · intro oo hop LL xx ac sg hwant
      cases Option.some.inj hop
      have hG : (!(decide (s < 0))) = false := (want_f rfl rfl (sg.slot 2 (sg.anc 2 rfl))).symm.trans hwant
      exact ⟨cF hG, fun _ h => h⟩
    · intro oo hop LL xx ac sg hwant
      cases Option.some.inj hop
      have hG : (!((decide (s < 0)) || (decide (4294967295 < s)))) = false := (want_f rfl rfl (sg.slot 6 (sg.anc 6 rfl))).symm.trans hwant
      exact ⟨cF hG, fun _ h => h⟩
    · intro oo hop LL xx ac sg hwant
      cases Option.some.inj hop
      have hG : (!((decide (s < 0)) || (decide (4294967295 < s)))) = false := (want_f rfl rfl (sg.slot 6 (sg.anc 6 rfl))).symm.trans hwant
      exact ⟨cF hG, fun _ h => h⟩
    · intro oo hop LL xx ac sg hwant
      cases Option.some.inj hop
      have hG : (!(((decide (s < 0)) || (decide (4294967295 < s))) || (decide (n < 0)))) = false := (want_f rfl rfl (sg.slot 10 (sg.anc 10 rfl))).symm.trans hwant
      exact ⟨cF hG, fun _ h => h⟩
    · intro oo hop LL xx ac sg hwant
      cases Option.some.inj hop
      have hG : (!(((decide (s < 0)) || (decide (4294967295 < s))) || (decide (n < 0)))) = false := (want_f rfl rfl (sg.slot 10 (sg.anc 10 rfl))).symm.trans hwant
      exact ⟨cF hG, fun _ h => h⟩
  · intro xx ac1 wz hfr hsl hst
    exact hfin ac1 wz (hfr.size.trans hz) hfr.defers (fr_keep hfr [11, 12, 13, 14, 15, 16, 17, 18, 19, 20, 21, 22, 23, 24] (by kernel_rfl)) (hsl 13 (by decide)) (Lib.hid hst)
set_option maxRecDepth 20000 in
theorem made_no_r5 (s : Int) (n : Int) (q : ((decide (s < 0) || decide (n < 0)) || (max s n / 4294967296 != 0)) = true) (qe : ((((decide (s < 0)) || (decide (4294967295 < s))) || (decide (n < 0))) || (decide (4294967295 < n))) = true) {wa wb : World} (H : Hid (Hp [] wa wb [])) (ac0 : Act) (hz : ac0.tmps.size = 41) (so5 : ac0.eval (.tmp 5) = .int .u64 0) {QR : Exit → Act → World → Prop} (hfin : ∀ (ac1 : Act) (wz : World), ac1.tmps.size = 41 → ac1.defers = ac0.defers → (∀ t, ([4, 25, 26] : List Nat).contains t = false → ac1.eval (.tmp t) = ac0.eval (.tmp t)) → ac1.eval (.tmp 4) = .bool true →  Hid (Hp [] wa wz []) → QR .normal ac1 wz) : (regAt Try.f9 5).wp Try.prog QR ac0 wb := by
  refine wp_region_sq (by kernel_rfl) 41 hz (by kernel_rfl) (fun (xx : Unit) j => nth [.int .u64 0, .bool true, .bool true] j) (fun (LL : Nat → Bool) (xx : Unit) ww => Hp [] wa ww []) () H.out ?_ (steps_al ?_) ?_ ?_
  · exact fun _ _ _ _ _ h => h
  · refine al_cons ?_ (al_cons ?_ (al_cons ?_ (al_nil)))
    · intro LL xx ac wc sg hst hwant QQ hgo
      exact op_val hwant hgo hst _ (exec_move rfl ((sg.free 5 (by kernel_rfl)).trans so5)) rfl
    · intro LL xx ac wc sg hst hwant QQ hgo
      have se25 : ac.eval (.tmp 25) = _ := (sg.slot 0 (sg.anc 0 rfl))
      have sg25 := gt_of se25
      (try simp only [nth] at se25 sg25)
      exact op_val hwant hgo hst _ (by simp only [execOp, nth]; go_simp) rfl
    · intro LL xx ac wc sg hst hwant QQ hgo
      exact op_val hwant hgo hst _ (exec_assign rfl (sg.slot 1 (sg.anc 1 rfl))) rfl
  · exact skips [] (by kernel_rfl) (fun _ h => by cases h)
  · intro xx ac1 wz hfr hsl hst
    exact hfin ac1 wz (hfr.size.trans hz) hfr.defers (fr_keep hfr [4, 25, 26] (by kernel_rfl)) (hsl 2 (by decide)) (Lib.hid hst)
set_option maxRecDepth 20000 in
theorem made_no (s : Int) (n : Int) (w : World) (q : ((decide (s < 0) || decide (n < 0)) || (max s n / 4294967296 != 0)) = true) (qe : ((((decide (s < 0)) || (decide (4294967295 < s))) || (decide (n < 0))) || (decide (4294967295 < n))) = true) : Calls Try.prog 9 #[.int .i64 s, .int .i64 n] w fun e w' => e = .returned (.bool true) ∧ Off [] w w' := by
  have H := Lib.hid (Hp.start [] w)
  refine calls_start Try.func9 rfl 41 rfl (by simp) (fun aa nn dd sl => ?_)
  have ss0 : aa.eval (.tmp 0) = .int .i64 s := sl 0 (by simp)
  have ss1 : aa.eval (.tmp 1) = .int .i64 n := sl 1 (by simp)
  clear sl
  refine wp_seq_k fun KK1 hK1 => ?_
  refine made_no_r0 s n q qe H aa nn  ?_
  clear H nn
  intro aa ww nn dd1 kp ss4 H
  replace ss0 := (kp 0 rfl).trans ss0
  replace ss1 := (kp 1 rfl).trans ss1
  replace dd := dd1.trans dd
  clear dd1 kp
  refine then_normal ?_
  refine hK1 _ _ ?_
  refine wp_seq_k fun KK2 hK2 => ?_
  refine wp_seq_k fun KK3 hK3 => ?_
  refine made_no_r1 s n q qe H aa nn  ?_
  clear H nn
  intro aa ww nn dd1 kp ss7 H
  replace ss0 := (kp 0 rfl).trans ss0
  replace ss1 := (kp 1 rfl).trans ss1
  replace ss4 := (kp 4 rfl).trans ss4
  replace dd := dd1.trans dd
  clear dd1 kp
  refine then_normal ?_
  refine hK3 _ _ ?_
  refine wp_cond_false ss7 ?_
  refine wp_skip ?_
  refine then_normal ?_
  refine hK2 _ _ ?_
  refine wp_seq_k fun KK4 hK4 => ?_
  refine made_no_r3 s n q qe H aa nn ss0 ss1 ?_
  clear H nn
  intro aa ww nn dd1 kp ss5 H
  replace ss0 := (kp 0 rfl).trans ss0
  replace ss1 := (kp 1 rfl).trans ss1
  replace ss4 := (kp 4 rfl).trans ss4
  replace ss7 := (kp 7 rfl).trans ss7
  replace dd := dd1.trans dd
  clear dd1 kp
  refine then_normal ?_
  refine hK4 _ _ ?_
  refine wp_seq_k fun KK5 hK5 => ?_
  refine wp_seq_k fun KK6 hK6 => ?_
  refine made_no_r4 s n q qe H aa nn ss0 ss1 ?_
  clear H nn
  intro aa ww nn dd1 kp ss24 H
  replace ss0 := (kp 0 rfl).trans ss0
  replace ss1 := (kp 1 rfl).trans ss1
  replace ss4 := (kp 4 rfl).trans ss4
  replace ss5 := (kp 5 rfl).trans ss5
  replace ss7 := (kp 7 rfl).trans ss7
  replace dd := dd1.trans dd
  clear dd1 kp
  refine then_normal ?_
  refine hK6 _ _ ?_
  refine wp_cond_true ss24 ?_
  refine wp_seq_k fun KK7 hK7 => ?_
  refine made_no_r5 s n q qe H aa nn ss5 ?_
  clear H nn ss4
  intro aa ww nn dd1 kp ss4 H
  replace ss0 := (kp 0 rfl).trans ss0
  replace ss1 := (kp 1 rfl).trans ss1
  replace ss5 := (kp 5 rfl).trans ss5
  replace ss7 := (kp 7 rfl).trans ss7
  replace ss24 := (kp 24 rfl).trans ss24
  replace dd := dd1.trans dd
  clear dd1 kp
  refine then_normal ?_
  refine hK7 _ _ ?_
  refine wp_ret ?_
  refine then_ret ?_
  exact ret1 rfl dd ss4 ⟨rfl, H.out.off⟩
set_option maxRecDepth 20000 in
theorem made_yes_r0 (s : Int) (n : Int) (h0 : 0 ≤ s) (h1 : s ≤ 4294967295) (h2 : 0 ≤ n) (h3 : n ≤ 4294967295) (q0 : decide (s < 0) = false) (q1 : decide (n < 0) = false) (q2 : (max s n / 4294967296 != 0) = false) (hor : bits BinOp.or IntKind.u64 (s * 4294967296) n = s * 4294967296 + n) (qe : decide (4294967295 < s) = false) (qf : decide (4294967295 < n) = false) (hk0 : 0 ≤ s * 4294967296 + n) (hk1 : s * 4294967296 + n ≤ 18446744073709551615) (hw1 : IntKind.u64.wrap s = s) (hw2 : IntKind.u64.wrap n = n) (hw3 : IntKind.u64.wrap (s * 4294967296) = s * 4294967296) (hw4 : IntKind.u64.wrap (s * 4294967296 + n) = s * 4294967296 + n) (hw5 : (s * 4294967296 + n) / 4294967296 = s) {wa wb : World} (H : Hid (Hp [] wa wb [])) (ac0 : Act) (hz : ac0.tmps.size = 41)  {QR : Exit → Act → World → Prop} (hfin : ∀ (ac1 : Act) (wz : World), ac1.tmps.size = 41 → ac1.defers = ac0.defers → (∀ t, ([4] : List Nat).contains t = false → ac1.eval (.tmp t) = ac0.eval (.tmp t)) → ac1.eval (.tmp 4) = .bool false →  Hid (Hp [] wa wz []) → QR .normal ac1 wz) : (regAt Try.f9 0).wp Try.prog QR ac0 wb := by
  refine wp_region_sq (by kernel_rfl) 41 hz (by kernel_rfl) (fun (xx : Unit) j => nth [.bool false] j) (fun (LL : Nat → Bool) (xx : Unit) ww => Hp [] wa ww []) () H.out ?_ (steps_al ?_) ?_ ?_
  · exact fun _ _ _ _ _ h => h
  · refine al_cons ?_ (al_nil)
    · intro LL xx ac wc sg hst hwant QQ hgo
      exact op_val hwant hgo hst _ (exec_assign rfl rfl) rfl
  · exact skips [] (by kernel_rfl) (fun _ h => by cases h)
  · intro xx ac1 wz hfr hsl hst
    exact hfin ac1 wz (hfr.size.trans hz) hfr.defers (fr_keep hfr [4] (by kernel_rfl)) (hsl 0 (by decide)) (Lib.hid hst)
set_option maxRecDepth 20000 in
theorem made_yes_r1 (s : Int) (n : Int) (h0 : 0 ≤ s) (h1 : s ≤ 4294967295) (h2 : 0 ≤ n) (h3 : n ≤ 4294967295) (q0 : decide (s < 0) = false) (q1 : decide (n < 0) = false) (q2 : (max s n / 4294967296 != 0) = false) (hor : bits BinOp.or IntKind.u64 (s * 4294967296) n = s * 4294967296 + n) (qe : decide (4294967295 < s) = false) (qf : decide (4294967295 < n) = false) (hk0 : 0 ≤ s * 4294967296 + n) (hk1 : s * 4294967296 + n ≤ 18446744073709551615) (hw1 : IntKind.u64.wrap s = s) (hw2 : IntKind.u64.wrap n = n) (hw3 : IntKind.u64.wrap (s * 4294967296) = s * 4294967296) (hw4 : IntKind.u64.wrap (s * 4294967296 + n) = s * 4294967296 + n) (hw5 : (s * 4294967296 + n) / 4294967296 = s) {wa wb : World} (H : Hid (Hp [] wa wb [])) (ac0 : Act) (hz : ac0.tmps.size = 41)  {QR : Exit → Act → World → Prop} (hfin : ∀ (ac1 : Act) (wz : World), ac1.tmps.size = 41 → ac1.defers = ac0.defers → (∀ t, ([6, 7] : List Nat).contains t = false → ac1.eval (.tmp t) = ac0.eval (.tmp t)) → ac1.eval (.tmp 7) = .bool false →  Hid (Hp [] wa wz []) → QR .normal ac1 wz) : (regAt Try.f9 1).wp Try.prog QR ac0 wb := by
  refine wp_region_sq (by kernel_rfl) 41 hz (by kernel_rfl) (fun (xx : Unit) j => nth [.bool true, .bool false] j) (fun (LL : Nat → Bool) (xx : Unit) ww => Hp [] wa ww []) () H.out ?_ (steps_al ?_) ?_ ?_
  · exact fun _ _ _ _ _ h => h
  · refine al_cons ?_ (al_cons ?_ (al_nil))
    · intro LL xx ac wc sg hst hwant QQ hgo
      refine op_call hwant hgo 44 _ (by simp only [execOp]; go_simp) (awake10 wc) ?_
      rintro er wd ⟨rfl, hof⟩
      exact ⟨_, (), rfl, fun _ _ => rfl, rfl, Hp.quiet hst hof⟩
    · intro LL xx ac wc sg hst hwant QQ hgo
      have se6 : ac.eval (.tmp 6) = _ := (sg.slot 0 (sg.anc 0 rfl))
      have sg6 := gt_of se6
      (try simp only [nth] at se6 sg6)
      exact op_val hwant hgo hst _ (by simp only [execOp, nth]; go_simp) rfl
  · exact skips [] (by kernel_rfl) (fun _ h => by cases h)
  · intro xx ac1 wz hfr hsl hst
    exact hfin ac1 wz (hfr.size.trans hz) hfr.defers (fr_keep hfr [6, 7] (by kernel_rfl)) (hsl 1 (by decide)) (Lib.hid hst)
set_option maxRecDepth 20000 in
theorem made_yes_r3 (s : Int) (n : Int) (h0 : 0 ≤ s) (h1 : s ≤ 4294967295) (h2 : 0 ≤ n) (h3 : n ≤ 4294967295) (q0 : decide (s < 0) = false) (q1 : decide (n < 0) = false) (q2 : (max s n / 4294967296 != 0) = false) (hor : bits BinOp.or IntKind.u64 (s * 4294967296) n = s * 4294967296 + n) (qe : decide (4294967295 < s) = false) (qf : decide (4294967295 < n) = false) (hk0 : 0 ≤ s * 4294967296 + n) (hk1 : s * 4294967296 + n ≤ 18446744073709551615) (hw1 : IntKind.u64.wrap s = s) (hw2 : IntKind.u64.wrap n = n) (hw3 : IntKind.u64.wrap (s * 4294967296) = s * 4294967296) (hw4 : IntKind.u64.wrap (s * 4294967296 + n) = s * 4294967296 + n) (hw5 : (s * 4294967296 + n) / 4294967296 = s) {wa wb : World} (H : Hid (Hp [] wa wb [])) (ac0 : Act) (hz : ac0.tmps.size = 41) (so0 : ac0.eval (.tmp 0) = .int .i64 s) (so1 : ac0.eval (.tmp 1) = .int .i64 n) {QR : Exit → Act → World → Prop} (hfin : ∀ (ac1 : Act) (wz : World), ac1.tmps.size = 41 → ac1.defers = ac0.defers → (∀ t, ([5, 8, 9, 10] : List Nat).contains t = false → ac1.eval (.tmp t) = ac0.eval (.tmp t)) → ac1.eval (.tmp 5) = .int .u64 (s * 4294967296 + n) →  Hid (Hp [] wa wz []) → QR .normal ac1 wz) : (regAt Try.f9 3).wp Try.prog QR ac0 wb := by
  refine wp_region_sq (by kernel_rfl) 41 hz (by kernel_rfl) (fun (xx : Unit) j => nth [.int .i64 s, .int .i64 n, .int .u64 (s * 4294967296 + n), .int .u64 (s * 4294967296 + n)] j) (fun (LL : Nat → Bool) (xx : Unit) ww => Hp [] wa ww []) () H.out ?_ (steps_al ?_) ?_ ?_
  · exact fun _ _ _ _ _ h => h
  · refine al_cons ?_ (al_cons ?_ (al_cons ?_ (al_cons ?_ (al_nil))))
    · intro LL xx ac wc sg hst hwant QQ hgo
      exact op_val hwant hgo hst _ (exec_move rfl ((sg.free 0 (by kernel_rfl)).trans so0)) rfl
    · intro LL xx ac wc sg hst hwant QQ hgo
      exact op_val hwant hgo hst _ (exec_move rfl ((sg.free 1 (by kernel_rfl)).trans so1)) rfl
    · intro LL xx ac wc sg hst hwant QQ hgo
      have se8 : ac.eval (.tmp 8) = _ := (sg.slot 0 (sg.anc 0 rfl))
      have sg8 := gt_of se8
      have se9 : ac.eval (.tmp 9) = _ := (sg.slot 1 (sg.anc 1 rfl))
      have sg9 := gt_of se9
      (try simp only [nth] at se8 sg8 se9 sg9)
      refine op_call hwant hgo 45 _ (by simp only [execOp]; go_simp) (keyYes s n wc h0 h1 h2 h3 q0 q1 q2 hor) ?_
      rintro er wd ⟨rfl, hof⟩
      exact ⟨_, (), rfl, fun _ _ => rfl, rfl, Hp.quiet hst hof⟩
    · intro LL xx ac wc sg hst hwant QQ hgo
      exact op_val hwant hgo hst _ (exec_assign rfl (sg.slot 2 (sg.anc 2 rfl))) rfl
  · exact skips [] (by kernel_rfl) (fun _ h => by cases h)
  · intro xx ac1 wz hfr hsl hst
    exact hfin ac1 wz (hfr.size.trans hz) hfr.defers (fr_keep hfr [5, 8, 9, 10] (by kernel_rfl)) (hsl 3 (by decide)) (Lib.hid hst)
set_option maxRecDepth 20000 in
theorem made_yes_r4 (s : Int) (n : Int) (h0 : 0 ≤ s) (h1 : s ≤ 4294967295) (h2 : 0 ≤ n) (h3 : n ≤ 4294967295) (q0 : decide (s < 0) = false) (q1 : decide (n < 0) = false) (q2 : (max s n / 4294967296 != 0) = false) (hor : bits BinOp.or IntKind.u64 (s * 4294967296) n = s * 4294967296 + n) (qe : decide (4294967295 < s) = false) (qf : decide (4294967295 < n) = false) (hk0 : 0 ≤ s * 4294967296 + n) (hk1 : s * 4294967296 + n ≤ 18446744073709551615) (hw1 : IntKind.u64.wrap s = s) (hw2 : IntKind.u64.wrap n = n) (hw3 : IntKind.u64.wrap (s * 4294967296) = s * 4294967296) (hw4 : IntKind.u64.wrap (s * 4294967296 + n) = s * 4294967296 + n) (hw5 : (s * 4294967296 + n) / 4294967296 = s) {wa wb : World} (H : Hid (Hp [] wa wb [])) (ac0 : Act) (hz : ac0.tmps.size = 41) (so0 : ac0.eval (.tmp 0) = .int .i64 s) (so1 : ac0.eval (.tmp 1) = .int .i64 n) {QR : Exit → Act → World → Prop} (hfin : ∀ (ac1 : Act) (wz : World), ac1.tmps.size = 41 → ac1.defers = ac0.defers → (∀ t, ([11, 12, 13, 14, 15, 16, 17, 18, 19, 20, 21, 22, 23, 24] : List Nat).contains t = false → ac1.eval (.tmp t) = ac0.eval (.tmp t)) → ac1.eval (.tmp 24) = .bool false →  Hid (Hp [] wa wz []) → QR .normal ac1 wz) : (regAt Try.f9 4).wp Try.prog QR ac0 wb := by
  refine wp_region_sq (by kernel_rfl) 41 hz (by kernel_rfl) (fun (xx : Unit) j => nth [.int .i64 s, .bool false, .bool false, .int .i64 s, .bool false, .bool false, .bool false, .int .i64 n, .bool false, .bool false, .bool false, .int .i64 n, .bool false, .bool false] j) (fun (LL : Nat → Bool) (xx : Unit) ww => Hp [] wa ww []) () H.out ?_ (steps_al ?_) ?_ ?_
  · exact fun _ _ _ _ _ h => h
  · refine al_cons ?_ (al_cons ?_ (al_cons ?_ (al_cons ?_ (al_cons ?_ (al_cons ?_ (al_cons ?_ (al_cons ?_ (al_cons ?_ (al_cons ?_ (al_cons ?_ (al_cons ?_ (al_cons ?_ (al_cons ?_ (al_nil))))))))))))))
    · intro LL xx ac wc sg hst hwant QQ hgo
      exact op_val hwant hgo hst _ (exec_move rfl ((sg.free 0 (by kernel_rfl)).trans so0)) rfl
    · intro LL xx ac wc sg hst hwant QQ hgo
      have se11 : ac.eval (.tmp 11) = _ := (sg.slot 0 (sg.anc 0 rfl))
      have sg11 := gt_of se11
      (try simp only [nth] at se11 sg11)
      exact op_val hwant hgo hst _ (by simp only [execOp, nth]; go_simp) rfl
    · intro LL xx ac wc sg hst hwant QQ hgo
      exact op_val hwant hgo hst _ (exec_move rfl (sg.slot 1 (sg.anc 1 rfl))) rfl
    · intro LL xx ac wc sg hst hwant QQ hgo
      exact op_val hwant hgo hst _ (exec_move rfl ((sg.free 0 (by kernel_rfl)).trans so0)) rfl
    · intro LL xx ac wc sg hst hwant QQ hgo
      have se14 : ac.eval (.tmp 14) = _ := (sg.slot 3 (sg.anc 3 rfl))
      have sg14 := gt_of se14
      (try simp only [nth] at se14 sg14)
      exact op_val hwant hgo hst _ (by simp only [execOp, nth]; go_simp) rfl
    · intro LL xx ac wc sg hst hwant QQ hgo
      exact op_val hwant hgo hst (.bool false) (exec_pick (B := false) (U := undef) (V := .bool false) rfl (sg.slot 2 (sg.anc 2 rfl)) (fun h => by cases h) (fun _ => (sg.slot 4 (sg.anc 4 rfl)))) rfl
    · intro LL xx ac wc sg hst hwant QQ hgo
      exact op_val hwant hgo hst _ (exec_move rfl (sg.slot 5 (sg.anc 5 rfl))) rfl
    · intro LL xx ac wc sg hst hwant QQ hgo
      exact op_val hwant hgo hst _ (exec_move rfl ((sg.free 1 (by kernel_rfl)).trans so1)) rfl
    · intro LL xx ac wc sg hst hwant QQ hgo
      have se18 : ac.eval (.tmp 18) = _ := (sg.slot 7 (sg.anc 7 rfl))
      have sg18 := gt_of se18
      (try simp only [nth] at se18 sg18)
      exact op_val hwant hgo hst _ (by simp only [execOp, nth]; go_simp) rfl
    · intro LL xx ac wc sg hst hwant QQ hgo
      exact op_val hwant hgo hst (.bool false) (exec_pick (B := false) (U := undef) (V := .bool false) rfl (sg.slot 6 (sg.anc 6 rfl)) (fun h => by cases h) (fun _ => (sg.slot 8 (sg.anc 8 rfl)))) rfl
    · intro LL xx ac wc sg hst hwant QQ hgo
      exact op_val hwant hgo hst _ (exec_move rfl (sg.slot 9 (sg.anc 9 rfl))) rfl
    · intro LL xx ac wc sg hst hwant QQ hgo
      exact op_val hwant hgo hst _ (exec_move rfl ((sg.free 1 (by kernel_rfl)).trans so1)) rfl
    · intro LL xx ac wc sg hst hwant QQ hgo
      have se22 : ac.eval (.tmp 22) = _ := (sg.slot 11 (sg.anc 11 rfl))
      have sg22 := gt_of se22
      (try simp only [nth] at se22 sg22)
      exact op_val hwant hgo hst _ (by simp only [execOp, nth]; go_simp) rfl
    · intro LL xx ac wc sg hst hwant QQ hgo
      exact op_val hwant hgo hst (.bool false) (exec_pick (B := false) (U := undef) (V := .bool false) rfl (sg.slot 10 (sg.anc 10 rfl)) (fun h => by cases h) (fun _ => (sg.slot 12 (sg.anc 12 rfl)))) rfl
  · refine skips [3, 4, 7, 8, 11, 12] (by kernel_rfl) ?_
    refine List.forall_mem_cons.2 ⟨?_, List.forall_mem_cons.2 ⟨?_, List.forall_mem_cons.2 ⟨?_, List.forall_mem_cons.2 ⟨?_, List.forall_mem_cons.2 ⟨?_, List.forall_mem_cons.2 ⟨?_, fun _ h => by cases h⟩⟩⟩⟩⟩⟩
    · intro oo hop LL xx ac sg hwant
      cases Option.some.inj hop
      exact absurd ((want_f rfl rfl (sg.slot 2 (sg.anc 2 rfl))).symm.trans hwant) (by decide)
    · intro oo hop LL xx ac sg hwant
      cases Option.some.inj hop
      exact absurd ((want_f rfl rfl (sg.slot 2 (sg.anc 2 rfl))).symm.trans hwant) (by decide)
    · intro oo hop LL xx ac sg hwant
      cases Option.some.inj hop
      exact absurd ((want_f rfl rfl (sg.slot 6 (sg.anc 6 rfl))).symm.trans hwant) (by decide)
    · intro oo hop LL xx ac sg hwant
      cases Option.some.inj hop
      exact absurd ((want_f rfl rfl (sg.slot 6 (sg.anc 6 rfl))).symm.trans hwant) (by decide)
    · intro oo hop LL xx ac sg hwant
      cases Option.some.inj hop
      exact absurd ((want_f rfl rfl (sg.slot 10 (sg.anc 10 rfl))).symm.trans hwant) (by decide)
    · intro oo hop LL xx ac sg hwant
      cases Option.some.inj hop
      exact absurd ((want_f rfl rfl (sg.slot 10 (sg.anc 10 rfl))).symm.trans hwant) (by decide)
  · intro xx ac1 wz hfr hsl hst
    exact hfin ac1 wz (hfr.size.trans hz) hfr.defers (fr_keep hfr [11, 12, 13, 14, 15, 16, 17, 18, 19, 20, 21, 22, 23, 24] (by kernel_rfl)) (hsl 13 (by decide)) (Lib.hid hst)
set_option maxRecDepth 20000 in
theorem made_yes_r6 (s : Int) (n : Int) (h0 : 0 ≤ s) (h1 : s ≤ 4294967295) (h2 : 0 ≤ n) (h3 : n ≤ 4294967295) (q0 : decide (s < 0) = false) (q1 : decide (n < 0) = false) (q2 : (max s n / 4294967296 != 0) = false) (hor : bits BinOp.or IntKind.u64 (s * 4294967296) n = s * 4294967296 + n) (qe : decide (4294967295 < s) = false) (qf : decide (4294967295 < n) = false) (hk0 : 0 ≤ s * 4294967296 + n) (hk1 : s * 4294967296 + n ≤ 18446744073709551615) (hw1 : IntKind.u64.wrap s = s) (hw2 : IntKind.u64.wrap n = n) (hw3 : IntKind.u64.wrap (s * 4294967296) = s * 4294967296) (hw4 : IntKind.u64.wrap (s * 4294967296 + n) = s * 4294967296 + n) (hw5 : (s * 4294967296 + n) / 4294967296 = s) {wa wb : World} (H : Hid (Hp [] wa wb [])) (ac0 : Act) (hz : ac0.tmps.size = 41) (so0 : ac0.eval (.tmp 0) = .int .i64 s) (so1 : ac0.eval (.tmp 1) = .int .i64 n) (so5 : ac0.eval (.tmp 5) = .int .u64 (s * 4294967296 + n)) {QR : Exit → Act → World → Prop} (hfin : ∀ (ac1 : Act) (wz : World), ac1.tmps.size = 41 → ac1.defers = ac0.defers → (∀ t, ([4, 27, 28, 29, 30, 31, 32, 33, 34, 35, 36, 37, 38, 39, 40] : List Nat).contains t = false → ac1.eval (.tmp t) = ac0.eval (.tmp t)) → ac1.eval (.tmp 4) = .bool true →  Hid (Hp [] wa wz []) → QR .normal ac1 wz) : (regAt Try.f9 6).wp Try.prog QR ac0 wb := by
  refine wp_region_sq (by kernel_rfl) 41 hz (by kernel_rfl) (fun (xx : Unit) j => nth [.int .u64 (s * 4294967296 + n), .int .i64 s, .int .u64 s, .int .u64 (s * 4294967296), .int .i64 n, .int .u64 n, .int .u64 (s * 4294967296 + n), .bool true, .bool true, .int .u64 (s * 4294967296 + n), .int .i64 s, .int .i64 s, .bool true, .bool true, .bool true] j) (fun (LL : Nat → Bool) (xx : Unit) ww => Hp [] wa ww []) () H.out ?_ (steps_al ?_) ?_ ?_
  · exact fun _ _ _ _ _ h => h
  · refine al_cons ?_ (al_cons ?_ (al_cons ?_ (al_cons ?_ (al_cons ?_ (al_cons ?_ (al_cons ?_ (al_cons ?_ (al_cons ?_ (al_cons ?_ (al_cons ?_ (al_cons ?_ (al_cons ?_ (al_cons ?_ (al_cons ?_ (al_nil)))))))))))))))
    · intro LL xx ac wc sg hst hwant QQ hgo
      exact op_val hwant hgo hst _ (exec_move rfl ((sg.free 5 (by kernel_rfl)).trans so5)) rfl
    · intro LL xx ac wc sg hst hwant QQ hgo
      exact op_val hwant hgo hst _ (exec_move rfl ((sg.free 0 (by kernel_rfl)).trans so0)) rfl
    · intro LL xx ac wc sg hst hwant QQ hgo
      have se28 : ac.eval (.tmp 28) = _ := (sg.slot 1 (sg.anc 1 rfl))
      have sg28 := gt_of se28
      (try simp only [nth] at se28 sg28)
      exact op_val hwant hgo hst _ (by simp only [execOp, nth]; go_simp) rfl
    · intro LL xx ac wc sg hst hwant QQ hgo
      have se29 : ac.eval (.tmp 29) = _ := (sg.slot 2 (sg.anc 2 rfl))
      have sg29 := gt_of se29
      (try simp only [nth] at se29 sg29)
      exact op_val hwant hgo hst _ (by simp only [execOp, nth]; go_simp) rfl
    · intro LL xx ac wc sg hst hwant QQ hgo
      exact op_val hwant hgo hst _ (exec_move rfl ((sg.free 1 (by kernel_rfl)).trans so1)) rfl
    · intro LL xx ac wc sg hst hwant QQ hgo
      have se31 : ac.eval (.tmp 31) = _ := (sg.slot 4 (sg.anc 4 rfl))
      have sg31 := gt_of se31
      (try simp only [nth] at se31 sg31)
      exact op_val hwant hgo hst _ (by simp only [execOp, nth]; go_simp) rfl
    · intro LL xx ac wc sg hst hwant QQ hgo
      have se30 : ac.eval (.tmp 30) = _ := (sg.slot 3 (sg.anc 3 rfl))
      have sg30 := gt_of se30
      have se32 : ac.eval (.tmp 32) = _ := (sg.slot 5 (sg.anc 5 rfl))
      have sg32 := gt_of se32
      (try simp only [nth] at se30 sg30 se32 sg32)
      exact op_val hwant hgo hst _ (by simp only [execOp, nth]; go_simp) rfl
    · intro LL xx ac wc sg hst hwant QQ hgo
      have se27 : ac.eval (.tmp 27) = _ := (sg.slot 0 (sg.anc 0 rfl))
      have sg27 := gt_of se27
      have se33 : ac.eval (.tmp 33) = _ := (sg.slot 6 (sg.anc 6 rfl))
      have sg33 := gt_of se33
      (try simp only [nth] at se27 sg27 se33 sg33)
      exact op_val hwant hgo hst _ (by simp only [execOp, nth]; go_simp) rfl
    · intro LL xx ac wc sg hst hwant QQ hgo
      exact op_val hwant hgo hst _ (exec_move rfl (sg.slot 7 (sg.anc 7 rfl))) rfl
    · intro LL xx ac wc sg hst hwant QQ hgo
      exact op_val hwant hgo hst _ (exec_move rfl ((sg.free 5 (by kernel_rfl)).trans so5)) rfl
    · intro LL xx ac wc sg hst hwant QQ hgo
      have se36 : ac.eval (.tmp 36) = _ := (sg.slot 9 (sg.anc 9 rfl))
      have sg36 := gt_of se36
      (try simp only [nth] at se36 sg36)
      refine op_call hwant hgo 46 #[.int .u64 (s * 4294967296 + n)] (by simp only [execOp]; go_simp) (by have h := stampC (s * 4294967296 + n) wc hk0 hk1; rw [hw5] at h; exact h) ?_
      rintro er wd ⟨rfl, hof⟩
      exact ⟨_, (), rfl, fun _ _ => rfl, rfl, Hp.quiet hst hof⟩
    · intro LL xx ac wc sg hst hwant QQ hgo
      exact op_val hwant hgo hst _ (exec_move rfl ((sg.free 0 (by kernel_rfl)).trans so0)) rfl
    · intro LL xx ac wc sg hst hwant QQ hgo
      have se37 : ac.eval (.tmp 37) = _ := (sg.slot 10 (sg.anc 10 rfl))
      have sg37 := gt_of se37
      have se38 : ac.eval (.tmp 38) = _ := (sg.slot 11 (sg.anc 11 rfl))
      have sg38 := gt_of se38
      (try simp only [nth] at se37 sg37 se38 sg38)
      exact op_val hwant hgo hst _ (by simp only [execOp, nth]; go_simp) rfl
    · intro LL xx ac wc sg hst hwant QQ hgo
      exact op_val hwant hgo hst (.bool true) (exec_pick (B := true) (U := .bool true) (V := undef) rfl (sg.slot 8 (sg.anc 8 rfl)) (fun _ => (sg.slot 12 (sg.anc 12 rfl))) (fun h => by cases h)) rfl
    · intro LL xx ac wc sg hst hwant QQ hgo
      exact op_val hwant hgo hst _ (exec_assign rfl (sg.slot 13 (sg.anc 13 rfl))) rfl
  · refine skips [9, 10, 11, 12] (by kernel_rfl) ?_
    refine List.forall_mem_cons.2 ⟨?_, List.forall_mem_cons.2 ⟨?_, List.forall_mem_cons.2 ⟨?_, List.forall_mem_cons.2 ⟨?_, fun _ h => by cases h⟩⟩⟩⟩
    · intro oo hop LL xx ac sg hwant
      cases Option.some.inj hop
      exact absurd ((want_t rfl rfl (sg.slot 8 (sg.anc 8 rfl))).symm.trans hwant) (by decide)
    · intro oo hop LL xx ac sg hwant
      cases Option.some.inj hop
      exact absurd ((want_t rfl rfl (sg.slot 8 (sg.anc 8 rfl))).symm.trans hwant) (by decide)
    · intro oo hop LL xx ac sg hwant
      cases Option.some.inj hop
      exact absurd ((want_t rfl rfl (sg.slot 8 (sg.anc 8 rfl))).symm.trans hwant) (by decide)
    · intro oo hop LL xx ac sg hwant
      cases Option.some.inj hop
      exact absurd ((want_t rfl rfl (sg.slot 8 (sg.anc 8 rfl))).symm.trans hwant) (by decide)
  · intro xx ac1 wz hfr hsl hst
    exact hfin ac1 wz (hfr.size.trans hz) hfr.defers (fr_keep hfr [4, 27, 28, 29, 30, 31, 32, 33, 34, 35, 36, 37, 38, 39, 40] (by kernel_rfl)) (hsl 14 (by decide)) (Lib.hid hst)
set_option maxRecDepth 20000 in
theorem made_yes (s : Int) (n : Int) (w : World) (h0 : 0 ≤ s) (h1 : s ≤ 4294967295) (h2 : 0 ≤ n) (h3 : n ≤ 4294967295) (q0 : decide (s < 0) = false) (q1 : decide (n < 0) = false) (q2 : (max s n / 4294967296 != 0) = false) (hor : bits BinOp.or IntKind.u64 (s * 4294967296) n = s * 4294967296 + n) (qe : decide (4294967295 < s) = false) (qf : decide (4294967295 < n) = false) : Calls Try.prog 9 #[.int .i64 s, .int .i64 n] w fun e w' => e = .returned (.bool true) ∧ Off [] w w' := by
  have H := Lib.hid (Hp.start [] w)
  refine calls_start Try.func9 rfl 41 rfl (by simp) (fun aa nn dd sl => ?_)
  have ss0 : aa.eval (.tmp 0) = .int .i64 s := sl 0 (by simp)
  have ss1 : aa.eval (.tmp 1) = .int .i64 n := sl 1 (by simp)
  clear sl
  have hk0 : 0 ≤ s * 4294967296 + n := by omega
  have hk1 : s * 4294967296 + n ≤ 18446744073709551615 := by omega
  have hw1 : IntKind.u64.wrap s = s := IntWalk.u64_in _ (by omega)
  have hw2 : IntKind.u64.wrap n = n := IntWalk.u64_in _ (by omega)
  have hw3 : IntKind.u64.wrap (s * 4294967296) = s * 4294967296 := IntWalk.u64_in _ (by omega)
  have hw4 : IntKind.u64.wrap (s * 4294967296 + n) = s * 4294967296 + n := IntWalk.u64_in _ (by omega)
  have hw5 : (s * 4294967296 + n) / 4294967296 = s := by omega
  refine wp_seq_k fun KK1 hK1 => ?_
  refine made_yes_r0 s n h0 h1 h2 h3 q0 q1 q2 hor qe qf hk0 hk1 hw1 hw2 hw3 hw4 hw5 H aa nn  ?_
  clear H nn
  intro aa ww nn dd1 kp ss4 H
  replace ss0 := (kp 0 rfl).trans ss0
  replace ss1 := (kp 1 rfl).trans ss1
  replace dd := dd1.trans dd
  clear dd1 kp
  refine then_normal ?_
  refine hK1 _ _ ?_
  refine wp_seq_k fun KK2 hK2 => ?_
  refine wp_seq_k fun KK3 hK3 => ?_
  refine made_yes_r1 s n h0 h1 h2 h3 q0 q1 q2 hor qe qf hk0 hk1 hw1 hw2 hw3 hw4 hw5 H aa nn  ?_
  clear H nn
  intro aa ww nn dd1 kp ss7 H
  replace ss0 := (kp 0 rfl).trans ss0
  replace ss1 := (kp 1 rfl).trans ss1
  replace ss4 := (kp 4 rfl).trans ss4
  replace dd := dd1.trans dd
  clear dd1 kp
  refine then_normal ?_
  refine hK3 _ _ ?_
  refine wp_cond_false ss7 ?_
  refine wp_skip ?_
  refine then_normal ?_
  refine hK2 _ _ ?_
  refine wp_seq_k fun KK4 hK4 => ?_
  refine made_yes_r3 s n h0 h1 h2 h3 q0 q1 q2 hor qe qf hk0 hk1 hw1 hw2 hw3 hw4 hw5 H aa nn ss0 ss1 ?_
  clear H nn
  intro aa ww nn dd1 kp ss5 H
  replace ss0 := (kp 0 rfl).trans ss0
  replace ss1 := (kp 1 rfl).trans ss1
  replace ss4 := (kp 4 rfl).trans ss4
  replace ss7 := (kp 7 rfl).trans ss7
  replace dd := dd1.trans dd
  clear dd1 kp
  refine then_normal ?_
  refine hK4 _ _ ?_
  refine wp_seq_k fun KK5 hK5 => ?_
  refine wp_seq_k fun KK6 hK6 => ?_
  refine made_yes_r4 s n h0 h1 h2 h3 q0 q1 q2 hor qe qf hk0 hk1 hw1 hw2 hw3 hw4 hw5 H aa nn ss0 ss1 ?_
  clear H nn
  intro aa ww nn dd1 kp ss24 H
  replace ss0 := (kp 0 rfl).trans ss0
  replace ss1 := (kp 1 rfl).trans ss1
  replace ss4 := (kp 4 rfl).trans ss4
  replace ss5 := (kp 5 rfl).trans ss5
  replace ss7 := (kp 7 rfl).trans ss7
  replace dd := dd1.trans dd
  clear dd1 kp
  refine then_normal ?_
  refine hK6 _ _ ?_
  refine wp_cond_false ss24 ?_
  refine wp_skip ?_
  refine then_normal ?_
  refine hK5 _ _ ?_
  refine wp_seq_k fun KK7 hK7 => ?_
  refine made_yes_r6 s n h0 h1 h2 h3 q0 q1 q2 hor qe qf hk0 hk1 hw1 hw2 hw3 hw4 hw5 H aa nn ss0 ss1 ss5 ?_
  clear H nn ss4
  intro aa ww nn dd1 kp ss4 H
  replace ss0 := (kp 0 rfl).trans ss0
  replace ss1 := (kp 1 rfl).trans ss1
  replace ss5 := (kp 5 rfl).trans ss5
  replace ss7 := (kp 7 rfl).trans ss7
  replace ss24 := (kp 24 rfl).trans ss24
  replace dd := dd1.trans dd
  clear dd1 kp
  refine then_normal ?_
  refine hK7 _ _ ?_
  refine wp_ret ?_
  exact ret1 rfl dd ss4 ⟨rfl, H.out.off⟩
theorem wf_i64 {n : Int} (h : (Lit.int .i64 n).wf = true) : -9223372036854775808 ≤ n ∧ n ≤ 9223372036854775807 := by
  have h1 := (Lit.wf_int_iff .i64 n).1 h
  have h2 : IntKind.i64.min = -9223372036854775808 := by decide
  have h3 : IntKind.i64.max = 9223372036854775807 := by decide
  omega
theorem or_high (s n : Int) (h0 : 0 ≤ s) (h1 : s ≤ 4294967295) (h2 : 0 ≤ n) (h3 : n ≤ 4294967295) : bits BinOp.or IntKind.u64 (s * 4294967296) n = s * 4294967296 + n := by
  obtain ⟨a, rfl⟩ := Int.eq_ofNat_of_zero_le h0
  obtain ⟨b, rfl⟩ := Int.eq_ofNat_of_zero_le h2
  have e := bits_or_u64_nat (a * 4294967296) b (by omega) (by omega)
  have e2 : a * 4294967296 ||| b = a * 4294967296 + b := by
    have := Nat.two_pow_add_eq_or_of_lt (i := 32) (b := b) (by omega) a
    rw [show (2 : Nat) ^ 32 = 4294967296 from rfl] at this
    rw [Nat.mul_comm, ← this]
  rw [e2] at e
  simpa using e
theorem keysMade (s n : Int) (w : World) (hs : -9223372036854775808 ≤ s ∧ s ≤ 9223372036854775807) (hn : -9223372036854775808 ≤ n ∧ n ≤ 9223372036854775807) : Calls Try.prog 9 #[.int .i64 s, .int .i64 n] w fun e w' => e = .returned (.bool true) ∧ Below w.heap.size w w' := by
  by_cases h : 0 ≤ s ∧ s ≤ 4294967295 ∧ 0 ≤ n ∧ n ≤ 4294967295
  · refine (made_yes s n w (by omega) (by omega) (by omega) (by omega) (by simp; omega) (by simp; omega) (by simp; omega) (or_high s n (by omega) (by omega) (by omega) (by omega)) (by simp; omega) (by simp; omega)).mono ?_
    rintro e w' ⟨rfl, ho⟩
    exact ⟨rfl, ho.to_below⟩
  · refine (made_no s n w (by simp; omega) (by simp; omega)).mono ?_
    rintro e w' ⟨rfl, ho⟩
    exact ⟨rfl, ho.to_below⟩
theorem keysMadeB (s n : Int) (w : World) (hs : (Lit.int .i64 s).wf = true) (hn : (Lit.int .i64 n).wf = true) : Calls Try.prog 9 #[.int .i64 s, .int .i64 n] w fun e w' => e = .returned (.bool true) ∧ Below w.heap.size w w' :=
  keysMade s n w (wf_i64 hs) (wf_i64 hn)
end Go.Proofs.Ytfhhfmkfkoemjaa.Se6
