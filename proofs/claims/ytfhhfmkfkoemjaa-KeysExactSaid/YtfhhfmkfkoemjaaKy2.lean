/- Keys: what is known of a key. -/
import Derived.Test.YtfhhfmkfkoemjaaProg
import Derived.Below
import Derived.WalkKit
import Derived.KernelRfl
import Derived.RowKit3
import Derived.Deep.LoopGhost
import Derived.Deep.QuietTactic
import Derived.BigQuiet
import Derived.WideLaws
import Derived.Deep.DeepCutAuto
import Derived.Deep.CutBlock
import Derived.Lib.Hide
import Derived.Laws.BitsLemmas
import Derived.Laws.Bits64
import Derived.Laws.BitsAllLaws
import Derived.IntWalk
import Derived.Outline
import Derived.WalkSpells
import Derived.Test.YtfhhfmkfkoemjaaMem
import Derived.Test.YtfhhfmkfkoemjaaKy1
import Derived.Laws.MathBits
namespace Go.Proofs.Ytfhhfmkfkoemjaa.Se6
open Go.RowKit Go.Proofs.Ytfhhfmkfkoemjaa.Mem Go.Proofs.Ytfhhfmkfkoemjaa.Reg Go.Proofs.Ytfhhfmkfkoemjaa.Pk Go.Proofs.Ytfhhfmkfkoemjaa.Si
set_option linter.unusedVariables false
set_option linter.unusedSimpArgs false

def keepB (c : Cfg) (now : Int) (p : PairV) : Bool := decide (now ≤ IntKind.i64.wrap (p.2.stamp + c.window))
theorem few_keep {ps : List PairV} {f : PairV → Bool} (hb : ps.length ≤ 1000000) : (ps.filter f).length ≤ 1000000 := Nat.le_trans (List.length_filter_le _ _) hb
/-- what a look at the keys tells: the answer, the verdict -/
def lookV (c : Cfg) (ps : List PairV) (now who key : Int) (body : ByteArray) : ByteArray × Int :=
  bif (!isTickV now who) || (!isGoodV c key now) then (⟨#[]⟩, 4)
  else bif (getV (nameV who key) (ps.filter (keepB c now))).2 && ((getV (nameV who key) (ps.filter (keepB c now))).1.body.toList == body.toList) then ((getV (nameV who key) (ps.filter (keepB c now))).1.answer, 2)
  else bif (getV (nameV who key) (ps.filter (keepB c now))).2 then (⟨#[]⟩, 3)
  else bif (((ps.filter (keepB c now)).length : Int) == c.keys) then (⟨#[]⟩, 5) else (⟨#[]⟩, 1)
instance : DecidableEq Cfg := fun x y => if h : x.floors = y.floors ∧ x.cars = y.cars ∧ x.seats = y.seats ∧ x.calls = y.calls ∧ x.lines = y.lines ∧ x.keys = y.keys ∧ x.window = y.window ∧ x.burst = y.burst ∧ x.rate = y.rate ∧ x.idle = y.idle ∧ x.inn = y.inn ∧ x.out = y.out ∧ x.feed = y.feed ∧ x.retries = y.retries ∧ x.life = y.life ∧ x.door = y.door ∧ x.holds = y.holds ∧ x.secret = y.secret then isTrue (by cases x; cases y; simp_all) else isFalse (fun e => h (by subst e; simp))
set_option maxRecDepth 20000 in
set_option maxHeartbeats 16000000 in
theorem run_eql_cfg (X Y : Cfg) (w : World) : (Op.equalIn 10000 24 (.agg #[.int .i64 X.floors, .int .i64 X.cars, .int .i64 X.seats, .int .i64 X.calls, .int .i64 X.lines, .int .i64 X.keys, .int .i64 X.window, .int .i64 X.burst, .int .i64 X.rate, .int .i64 X.idle, .int .i64 X.inn, .int .i64 X.out, .int .i64 X.feed, .int .i64 X.retries, .int .i64 X.life, .int .i64 X.door, .int .i64 X.holds, .int .u32 X.secret]) (.agg #[.int .i64 Y.floors, .int .i64 Y.cars, .int .i64 Y.seats, .int .i64 Y.calls, .int .i64 Y.lines, .int .i64 Y.keys, .int .i64 Y.window, .int .i64 Y.burst, .int .i64 Y.rate, .int .i64 Y.idle, .int .i64 Y.inn, .int .i64 Y.out, .int .i64 Y.feed, .int .i64 Y.retries, .int .i64 Y.life, .int .i64 Y.door, .int .i64 Y.holds, .int .u32 Y.secret])).run Try.prog w = .ok (decide (X = Y)) w := by
  have u_i64 := Try.underlying3
  have u_u32 := Try.underlying22
  rw [show (10000 : Nat) = 9999 + 1 from rfl]
  go_simp
  clear u_i64 u_u32
  by_cases he : X = Y
  · subst he
    simp
  · have hf : decide (X = Y) = false := by simpa using he
    rw [hf]
    iterate 18 (refine if_chainR fun _ => ?_)
    exfalso
    refine he ?_
    cases X
    cases Y
    simp_all
set_option maxRecDepth 20000 in
theorem nameC_r0 (key : Int) (hk0 : 0 ≤ key) (hk1 : key ≤ 18446744073709551615) (hand : bits BinOp.and IntKind.u64 key 4294967295 = key % 4294967296) (hw : IntKind.i64.wrap (key % 4294967296) = key % 4294967296) {wa wb : World} (H : Hid (Hp [] wa wb [])) (ac0 : Act) (hz : ac0.tmps.size = 19)  {QR : Exit → Act → World → Prop} (hfin : ∀ (ac1 : Act) (wz : World), ac1.tmps.size = 19 → ac1.defers = ac0.defers → (∀ t, ([4] : List Nat).contains t = false → ac1.eval (.tmp t) = ac0.eval (.tmp t)) → ac1.eval (.tmp 4) = .string (⟨#[]⟩ : ByteArray) →  Hid (Hp [] wa wz []) → QR .normal ac1 wz) : (regAt Try.f79 0).wp Try.prog QR ac0 wb := by
  refine wp_region_sq (by kernel_rfl) 19 hz (by kernel_rfl) (fun (xx : Unit) jx => nth [.string (⟨#[]⟩ : ByteArray)] jx) (fun (LL : Nat → Bool) (xx : Unit) ww => Hp [] wa ww []) () H.out ?_ (steps_al ?_) ?_ ?_
  · exact fun _ _ _ _ _ h => h
  · refine al_cons ?_ (al_nil)
    · intro LL xx ac wc sg hst hwant QQ hgo
      exact op_val hwant hgo hst _ (exec_assign rfl rfl) rfl
  · exact skips [] (by kernel_rfl) (fun _ h => by cases h)
  · intro xx ac1 wz hfr hsl hst
    exact hfin ac1 wz (hfr.size.trans hz) hfr.defers (fr_keep hfr [4] (by kernel_rfl)) (hsl 0 (by decide)) (Lib.hid hst)
set_option maxRecDepth 20000 in
theorem nameC_r1 (key : Int) (hk0 : 0 ≤ key) (hk1 : key ≤ 18446744073709551615) (hand : bits BinOp.and IntKind.u64 key 4294967295 = key % 4294967296) (hw : IntKind.i64.wrap (key % 4294967296) = key % 4294967296) {wa wb : World} (H : Hid (Hp [] wa wb [])) (ac0 : Act) (hz : ac0.tmps.size = 19)  {QR : Exit → Act → World → Prop} (hfin : ∀ (b7 : Nat) (ac1 : Act) (wz : World), ac1.tmps.size = 19 → ac1.defers = ac0.defers → (∀ t, ([5, 6, 7] : List Nat).contains t = false → ac1.eval (.tmp t) = ac0.eval (.tmp t)) → ac1.eval (.tmp 5) = .pointer (some ⟨b7, 0, none⟩) →  Hid (Hp [] wa wz [rB b7 158 [.slice none 0 0]]) → QR .normal ac1 wz) : (regAt Try.f79 1).wp Try.prog QR ac0 wb := by
  refine wp_region_sq (by kernel_rfl) 19 hz (by kernel_rfl) (fun (xx : Nat) jx => match xx with | b7 => nth [.agg #[.slice none 0 0], .pointer (some ⟨b7, 0, none⟩), .pointer (some ⟨b7, 0, none⟩)] jx) (fun (LL : Nat → Bool) (xx : Nat) ww => match xx with | b7 => Hp [] wa ww (bif LL 1 then [rB b7 158 [.slice none 0 0]] else [])) default H.out ?_ (steps_al ?_) ?_ ?_
  · intro L1 L2 xx ww hL sg
    have lh1 := hL 1 (by decide)
    simp only [lh1] at sg
    exact sg
  · refine al_cons ?_ (al_cons ?_ (al_cons ?_ (al_nil)))
    · intro LL xx ac wc sg hst hwant QQ hgo
      revert sg hst hgo; revert xx; intro b7 sg hst hgo
      exact op_val hwant hgo hst _ (by simp only [execOp, nth, kA, kL, rkA, rkL, cA, cL]; go_simp <;> omega) rfl
    · intro LL xx ac wc sg hst hwant QQ hgo
      revert sg hst hgo; revert xx; intro xold sg hst hgo
      have H := Lib.hid hst
      simp only [sg.self, cond_true, cond_false] at H
      refine hp_box rfl 158 _ rfl _ (sg.slot 0 (sg.anc 0 rfl)) _ (by rfl) H ?_
      intro wd b7 H2
      exact hgo _ b7 _ (sg.agree (x' := b7) (n := 3) rfl (by (iterate 3 (refine ix_cons (by first | exact fun _ => rfl | exact no sg.self | exact no (sg.des _ rfl)) ?_)); exact ix_nil)) rfl (by simp only [(show upd LL 1 1 = true from rfl), cond_true, cond_false]; exact H2.out)
    · intro LL xx ac wc sg hst hwant QQ hgo
      revert sg hst hgo; revert xx; intro b7 sg hst hgo
      exact op_val hwant hgo hst _ (exec_assign rfl (sg.slot 1 (sg.anc 1 rfl))) rfl
  · exact skips [] (by kernel_rfl) (fun _ h => by cases h)
  · intro xx ac1 wz hfr hsl hst
    revert hsl hst; revert xx; intro b7 hsl hst
    exact hfin b7 ac1 wz (hfr.size.trans hz) hfr.defers (fr_keep hfr [5, 6, 7] (by kernel_rfl)) (hsl 2 (by decide)) (Lib.hid hst)
set_option maxRecDepth 20000 in
theorem nameC_r2 (who : Int) (key : Int) (hk0 : 0 ≤ key) (hk1 : key ≤ 18446744073709551615) (hand : bits BinOp.and IntKind.u64 key 4294967295 = key % 4294967296) (hw : IntKind.i64.wrap (key % 4294967296) = key % 4294967296) (b7 : Nat) {wa wb : World} (H : Hid (Hp [] wa wb [rOut b7 ([b7]) 0 ([])])) (ac0 : Act) (hz : ac0.tmps.size = 19) (so0 : ac0.eval (.tmp 0) = .int .i64 who) (so1 : ac0.eval (.tmp 1) = .int .u64 key) (so5 : ac0.eval (.tmp 5) = .pointer (some ⟨b7, 0, none⟩)) {QR : Exit → Act → World → Prop} (hfin : ∀ (b15 : Nat) (fF2_8 : List Nat) (ac1 : Act) (wz : World), ac1.tmps.size = 19 → ac1.defers = ac0.defers → (∀ t, ([8, 9, 10, 11, 12, 13, 14, 15, 16] : List Nat).contains t = false → ac1.eval (.tmp t) = ac0.eval (.tmp t)) →  Hid (Hp [] wa wz [rB b15 3 [.int .i64 who, .int .i64 (key / 4294967296), .int .i64 (key % 4294967296)], rOut b7 fF2_8 24 (([]) ++ (encs 4 [who, key / 4294967296, key % 4294967296]).1)]) → QR .normal ac1 wz) : (regAt Try.f79 2).wp Try.prog QR ac0 wb := by
  refine wp_region_sq (by kernel_rfl) 19 hz (by kernel_rfl) (fun (xx : Nat × List Nat) jx => match xx with | (b15, fF2_8) => nth [.pointer (some ⟨b7, 0, none⟩), .int .i64 who, .int .u64 key, .int .i64 (key / 4294967296), .int .u64 key, .int .u64 (key % 4294967296), .int .i64 (key % 4294967296), .slice (some ⟨b15, 0, none⟩) 3 3, .bool ((encs 4 [who, key / 4294967296, key % 4294967296]).2)] jx) (fun (LL : Nat → Bool) (xx : Nat × List Nat) ww => match xx with | (b15, fF2_8) => Hp [] wa ww (bif LL 8 then [rB b15 3 [.int .i64 who, .int .i64 (key / 4294967296), .int .i64 (key % 4294967296)], rOut b7 fF2_8 24 (([]) ++ (encs 4 [who, key / 4294967296, key % 4294967296]).1)] else (bif LL 7 then [rB b15 3 [.int .i64 who, .int .i64 (key / 4294967296), .int .i64 (key % 4294967296)], rOut b7 ([b7]) 0 ([])] else [rOut b7 ([b7]) 0 ([])]))) (default, default) H.out ?_ (steps_al ?_) ?_ ?_
  · intro L1 L2 xx ww hL sg
    have lh7 := hL 7 (by decide)
    have lh8 := hL 8 (by decide)
    simp only [lh7, lh8] at sg
    exact sg
  · refine al_cons ?_ (al_cons ?_ (al_cons ?_ (al_cons ?_ (al_cons ?_ (al_cons ?_ (al_cons ?_ (al_cons ?_ (al_cons ?_ (al_nil)))))))))
    · intro LL xx ac wc sg hst hwant QQ hgo
      obtain ⟨b15, fF2_8⟩ := xx
      exact op_val hwant hgo hst _ (exec_move rfl ((sg.free 5 (by kernel_rfl)).trans so5)) rfl
    · intro LL xx ac wc sg hst hwant QQ hgo
      obtain ⟨b15, fF2_8⟩ := xx
      exact op_val hwant hgo hst _ (exec_move rfl ((sg.free 0 (by kernel_rfl)).trans so0)) rfl
    · intro LL xx ac wc sg hst hwant QQ hgo
      obtain ⟨b15, fF2_8⟩ := xx
      exact op_val hwant hgo hst _ (exec_move rfl ((sg.free 1 (by kernel_rfl)).trans so1)) rfl
    · intro LL xx ac wc sg hst hwant QQ hgo
      obtain ⟨b15, fF2_8⟩ := xx
      have se10 : ac.eval (.tmp 10) = _ := (sg.slot 2 (sg.anc 2 rfl))
      have sg10 := gt_of se10
      (try simp only [nth] at se10 sg10)
      refine op_call hwant hgo 46 _ (by simp only [execOp]; go_simp) (stampC key wc hk0 hk1) ?_
      rintro er wd ⟨rfl, hof⟩
      exact ⟨_, (b15, fF2_8), rfl, fun _ _ => rfl, rfl, Hp.quiet hst hof⟩
    · intro LL xx ac wc sg hst hwant QQ hgo
      obtain ⟨b15, fF2_8⟩ := xx
      exact op_val hwant hgo hst _ (exec_move rfl ((sg.free 1 (by kernel_rfl)).trans so1)) rfl
    · intro LL xx ac wc sg hst hwant QQ hgo
      obtain ⟨b15, fF2_8⟩ := xx
      have se12 : ac.eval (.tmp 12) = _ := (sg.slot 4 (sg.anc 4 rfl))
      have sg12 := gt_of se12
      (try simp only [nth] at se12 sg12)
      exact op_val hwant hgo hst _ (by simp only [execOp, nth]; go_simp <;> omega) rfl
    · intro LL xx ac wc sg hst hwant QQ hgo
      obtain ⟨b15, fF2_8⟩ := xx
      have se13 : ac.eval (.tmp 13) = _ := (sg.slot 5 (sg.anc 5 rfl))
      have sg13 := gt_of se13
      (try simp only [nth] at se13 sg13)
      exact op_val hwant hgo hst _ (by simp only [execOp, nth]; go_simp <;> omega) rfl
    · intro LL xx ac wc sg hst hwant QQ hgo
      obtain ⟨_, fF2_8⟩ := xx
      have se9 : ac.eval (.tmp 9) = _ := (sg.slot 1 (sg.anc 1 rfl))
      have sg9 := gt_of se9
      have se11 : ac.eval (.tmp 11) = _ := (sg.slot 3 (sg.anc 3 rfl))
      have sg11 := gt_of se11
      have se14 : ac.eval (.tmp 14) = _ := (sg.slot 6 (sg.anc 6 rfl))
      have sg14 := gt_of se14
      (try simp only [nth] at se9 sg9 se11 sg11 se14 sg14)
      have H := Lib.hid hst
      simp only [sg.self, sg.des 8 rfl, cond_true, cond_false] at H
      refine hpA_bslice Try.underlying27 tyint H rfl rfl (by decide) (by decide) (by first | (go_simp; rfl) | rfl | (simp; rfl)) ?_
      intro wd b15 H2
      exact hgo _ (b15, fF2_8) _ (sg.agree (x' := (b15, fF2_8)) (n := 9) rfl (by (iterate 9 (refine ix_cons (by first | exact fun _ => rfl | exact no sg.self | exact no (sg.des _ rfl)) ?_)); exact ix_nil)) rfl (by simp only [(show upd LL 7 7 = true from rfl), (show upd LL 7 8 = LL 8 from rfl), sg.des 8 rfl, cond_true, cond_false]; exact H2.out)
    · intro LL xx ac wc sg hst hwant QQ hgo
      obtain ⟨b15, _⟩ := xx
      have se8 : ac.eval (.tmp 8) = _ := (sg.slot 0 (sg.anc 0 rfl))
      have sg8 := gt_of se8
      have se15 : ac.eval (.tmp 15) = _ := (sg.slot 7 (sg.anc 7 rfl))
      have sg15 := gt_of se15
      (try simp only [nth] at se8 sg8 se15 sg15)
      have H := Lib.hid hst
      simp only [sg.anc 7 rfl, sg.self, cond_true, cond_false] at H
      refine op_call hwant hgo 95 _ (by simp only [execOp]; go_simp) (outNumsH H (ns := [who, key / 4294967296, key % 4294967296]) (wd := 4) (n := 3) (c := 3) (i := 1) (j := 0) rfl rfl rfl rfl (by decide) (by decide)) ?_
      rintro er wd ⟨rfl, fF2_8, H2⟩
      exact ⟨_, (b15, fF2_8), rfl, (sg.agree (x' := (b15, fF2_8)) (n := 9) rfl (by (iterate 9 (refine ix_cons (by first | exact fun _ => rfl | exact no sg.self | exact no (sg.des _ rfl)) ?_)); exact ix_nil)), rfl, (by simp only [(show upd LL 8 7 = LL 7 from rfl), sg.anc 7 rfl, (show upd LL 8 8 = true from rfl), cond_true, cond_false]; exact H2.out)⟩
  · exact skips [] (by kernel_rfl) (fun _ h => by cases h)
  · intro xx ac1 wz hfr hsl hst
    obtain ⟨b15, fF2_8⟩ := xx
    exact hfin b15 fF2_8 ac1 wz (hfr.size.trans hz) hfr.defers (fr_keep hfr [8, 9, 10, 11, 12, 13, 14, 15, 16] (by kernel_rfl)) (Lib.hid hst)
set_option maxRecDepth 20000 in
theorem nameC_r3 (who : Int) (key : Int) (hk0 : 0 ≤ key) (hk1 : key ≤ 18446744073709551615) (hand : bits BinOp.and IntKind.u64 key 4294967295 = key % 4294967296) (hw : IntKind.i64.wrap (key % 4294967296) = key % 4294967296) (b7 : Nat) (b15 : Nat) (fF2_8 : List Nat) {wa wb : World} (H : Hid (Hp [] wa wb [rB b15 3 [.int .i64 who, .int .i64 (key / 4294967296), .int .i64 (key % 4294967296)], rOut b7 fF2_8 24 (([]) ++ (encs 4 [who, key / 4294967296, key % 4294967296]).1)])) (ac0 : Act) (hz : ac0.tmps.size = 19) (so5 : ac0.eval (.tmp 5) = .pointer (some ⟨b7, 0, none⟩)) {QR : Exit → Act → World → Prop} (hfin : ∀ (ac1 : Act) (wz : World), ac1.tmps.size = 19 → ac1.defers = ac0.defers → (∀ t, ([4, 17, 18] : List Nat).contains t = false → ac1.eval (.tmp t) = ac0.eval (.tmp t)) → ac1.eval (.tmp 4) = .string (str (([]) ++ (encs 4 [who, key / 4294967296, key % 4294967296]).1)) →  Hid (Hp [] wa wz [rB b15 3 [.int .i64 who, .int .i64 (key / 4294967296), .int .i64 (key % 4294967296)], rOut b7 fF2_8 24 (([]) ++ (encs 4 [who, key / 4294967296, key % 4294967296]).1)]) → QR .normal ac1 wz) : (regAt Try.f79 3).wp Try.prog QR ac0 wb := by
  refine wp_region_sq (by kernel_rfl) 19 hz (by kernel_rfl) (fun (xx : Unit) jx => nth [.pointer (some ⟨b7, 0, none⟩), .string (str (([]) ++ (encs 4 [who, key / 4294967296, key % 4294967296]).1)), .string (str (([]) ++ (encs 4 [who, key / 4294967296, key % 4294967296]).1))] jx) (fun (LL : Nat → Bool) (xx : Unit) ww => Hp [] wa ww [rB b15 3 [.int .i64 who, .int .i64 (key / 4294967296), .int .i64 (key % 4294967296)], rOut b7 fF2_8 24 (([]) ++ (encs 4 [who, key / 4294967296, key % 4294967296]).1)]) () H.out ?_ (steps_al ?_) ?_ ?_
  · exact fun _ _ _ _ _ h => h
  · refine al_cons ?_ (al_cons ?_ (al_cons ?_ (al_nil)))
    · intro LL xx ac wc sg hst hwant QQ hgo
      exact op_val hwant hgo hst _ (exec_move rfl ((sg.free 5 (by kernel_rfl)).trans so5)) rfl
    · intro LL xx ac wc sg hst hwant QQ hgo
      have se17 : ac.eval (.tmp 17) = _ := (sg.slot 0 (sg.anc 0 rfl))
      have sg17 := gt_of se17
      (try simp only [nth] at se17 sg17)
      have H := Lib.hid hst
      refine op_call hwant hgo 96 _ (by simp only [execOp]; go_simp) (outStringH H (i := 1) rfl) ?_
      rintro er wd ⟨rfl, rfl⟩
      exact ⟨_, (), rfl, fun _ _ => rfl, rfl, hst⟩
    · intro LL xx ac wc sg hst hwant QQ hgo
      exact op_val hwant hgo hst _ (exec_assign rfl (sg.slot 1 (sg.anc 1 rfl))) rfl
  · exact skips [] (by kernel_rfl) (fun _ h => by cases h)
  · intro xx ac1 wz hfr hsl hst
    exact hfin ac1 wz (hfr.size.trans hz) hfr.defers (fr_keep hfr [4, 17, 18] (by kernel_rfl)) (hsl 2 (by decide)) (Lib.hid hst)
set_option maxRecDepth 20000 in
theorem nameC (who : Int) (key : Int) (w : World) (hk0 : 0 ≤ key) (hk1 : key ≤ 18446744073709551615) (hand : bits BinOp.and IntKind.u64 key 4294967295 = key % 4294967296) : Calls Try.prog 79 #[.int .i64 who, .int .u64 key] w fun e w' => e = .returned (.string (nameV who key)) ∧ Off [] w w' := by
  have H := Lib.hid (Hp.start [] w)
  refine calls_start Try.func79 rfl 19 rfl (by simp) (fun aa nn dd sl => ?_)
  have ss0 : aa.eval (.tmp 0) = .int .i64 who := sl 0 (by simp)
  have ss1 : aa.eval (.tmp 1) = .int .u64 key := sl 1 (by simp)
  clear sl
  have hw : IntKind.i64.wrap (key % 4294967296) = key % 4294967296 := IntWalk.i64_in _ (by omega)
  refine wp_seq_k fun KK1 hK1 => ?_
  refine nameC_r0 key hk0 hk1 hand hw H aa nn  ?_
  clear H nn
  intro aa ww nn dd1 kp ss4 H
  replace ss0 := (kp 0 rfl).trans ss0
  replace ss1 := (kp 1 rfl).trans ss1
  replace dd := dd1.trans dd
  clear dd1 kp
  refine then_normal ?_
  refine hK1 _ _ ?_
  refine wp_seq_k fun KK2 hK2 => ?_
  refine nameC_r1 key hk0 hk1 hand hw H aa nn  ?_
  clear H nn
  intro b7 aa ww nn dd1 kp ss5 H
  replace ss0 := (kp 0 rfl).trans ss0
  replace ss1 := (kp 1 rfl).trans ss1
  replace ss4 := (kp 4 rfl).trans ss4
  replace dd := dd1.trans dd
  clear dd1 kp
  replace H := outNewH H
  refine then_normal ?_
  refine hK2 _ _ ?_
  refine wp_seq_k fun KK3 hK3 => ?_
  refine nameC_r2 who key hk0 hk1 hand hw b7 H aa nn ss0 ss1 ss5 ?_
  clear H nn
  intro b15 fF2_8 aa ww nn dd1 kp H
  replace ss0 := (kp 0 rfl).trans ss0
  replace ss1 := (kp 1 rfl).trans ss1
  replace ss4 := (kp 4 rfl).trans ss4
  replace ss5 := (kp 5 rfl).trans ss5
  replace dd := dd1.trans dd
  clear dd1 kp
  refine then_normal ?_
  refine hK3 _ _ ?_
  refine wp_seq_k fun KK4 hK4 => ?_
  refine nameC_r3 who key hk0 hk1 hand hw b7 b15 fF2_8 H aa nn ss5 ?_
  clear H nn ss4
  intro aa ww nn dd1 kp ss4 H
  replace ss0 := (kp 0 rfl).trans ss0
  replace ss1 := (kp 1 rfl).trans ss1
  replace ss5 := (kp 5 rfl).trans ss5
  replace dd := dd1.trans dd
  clear dd1 kp
  refine then_normal ?_
  refine hK4 _ _ ?_
  refine wp_ret ?_
  exact ret1 rfl dd ss4 ⟨rfl, H.out.off⟩
set_option maxRecDepth 20000 in
theorem counts1C_r0 (c : Cfg) (now : Int) (room : Int) (sl : Value) (v : EntryV) (bn : Nat) (bk : Nat) {wa wb : World} (H : Hid (Hp [] wa wb [rK bk 84 (kL c room (sl)), rK bn 3 [.int .i64 now]])) (ac0 : Act) (hz : ac0.tmps.size = 15) (so1 : ac0.eval (.tmp 1) = .agg #[.int .i64 v.stamp, .string v.body, .string v.answer]) {QR : Exit → Act → World → Prop} (hfin : ∀ (b5 : Nat) (ac1 : Act) (wz : World), ac1.tmps.size = 15 → ac1.defers = ac0.defers → (∀ t, ([5, 6] : List Nat).contains t = false → ac1.eval (.tmp t) = ac0.eval (.tmp t)) → ac1.eval (.tmp 5) = .pointer (some ⟨b5, 0, none⟩) → ac1.eval (.tmp 6) = .bool false →  Hid (Hp [] wa wz [rB b5 127 [.int .i64 v.stamp, .string v.body, .string v.answer], rK bk 84 (kL c room (sl)), rK bn 3 [.int .i64 now]]) → QR .normal ac1 wz) : (regAt Try.f93 0).wp Try.prog QR ac0 wb := by
  refine wp_region_sq (by kernel_rfl) 15 hz (by kernel_rfl) (fun (xx : Nat) jx => match xx with | b5 => nth [.pointer (some ⟨b5, 0, none⟩), .bool false] jx) (fun (LL : Nat → Bool) (xx : Nat) ww => match xx with | b5 => Hp [] wa ww (bif LL 0 then [rB b5 127 [.int .i64 v.stamp, .string v.body, .string v.answer], rK bk 84 (kL c room (sl)), rK bn 3 [.int .i64 now]] else [rK bk 84 (kL c room (sl)), rK bn 3 [.int .i64 now]])) default H.out ?_ (steps_al ?_) ?_ ?_
  · intro L1 L2 xx ww hL sg
    have lh0 := hL 0 (by decide)
    simp only [lh0] at sg
    exact sg
  · refine al_cons ?_ (al_cons ?_ (al_nil))
    · intro LL xx ac wc sg hst hwant QQ hgo
      revert sg hst hgo; revert xx; intro xold sg hst hgo
      have H := Lib.hid hst
      simp only [sg.self, cond_true, cond_false] at H
      refine hp_box rfl 127 _ rfl _ ((sg.free 1 (by kernel_rfl)).trans so1) _ (by rfl) H ?_
      intro wd b5 H2
      exact hgo _ b5 _ (sg.agree (x' := b5) (n := 2) rfl (by (iterate 2 (refine ix_cons (by first | exact fun _ => rfl | exact no sg.self | exact no (sg.des _ rfl)) ?_)); exact ix_nil)) rfl (by simp only [(show upd LL 0 0 = true from rfl), cond_true, cond_false]; exact H2.out)
    · intro LL xx ac wc sg hst hwant QQ hgo
      revert sg hst hgo; revert xx; intro b5 sg hst hgo
      exact op_val hwant hgo hst _ (exec_assign rfl rfl) rfl
  · exact skips [] (by kernel_rfl) (fun _ h => by cases h)
  · intro xx ac1 wz hfr hsl hst
    revert hsl hst; revert xx; intro b5 hsl hst
    exact hfin b5 ac1 wz (hfr.size.trans hz) hfr.defers (fr_keep hfr [5, 6] (by kernel_rfl)) (hsl 0 (by decide)) (hsl 1 (by decide)) (Lib.hid hst)
set_option maxRecDepth 20000 in
theorem counts1C_r1 (c : Cfg) (now : Int) (room : Int) (sl : Value) (v : EntryV) (bn : Nat) (bk : Nat) (b5 : Nat) {wa wb : World} (H : Hid (Hp [] wa wb [rB b5 127 [.int .i64 v.stamp, .string v.body, .string v.answer], rK bk 84 (kL c room (sl)), rK bn 3 [.int .i64 now]])) (ac0 : Act) (hz : ac0.tmps.size = 15) (so2 : ac0.eval (.tmp 2) = .pointer (some ⟨bn, 0, none⟩)) (so3 : ac0.eval (.tmp 3) = .pointer (some ⟨bk, 0, none⟩)) (so5 : ac0.eval (.tmp 5) = .pointer (some ⟨b5, 0, none⟩)) {QR : Exit → Act → World → Prop} (hfin : ∀ (ac1 : Act) (wz : World), ac1.tmps.size = 15 → ac1.defers = ac0.defers → (∀ t, ([6, 7, 8, 9, 10, 11, 12, 13, 14] : List Nat).contains t = false → ac1.eval (.tmp t) = ac0.eval (.tmp t)) → ac1.eval (.tmp 6) = .bool (decide (now ≤ (IntKind.i64.wrap (v.stamp + c.window)))) →  Hid (Hp [] wa wz [rB b5 127 [.int .i64 v.stamp, .string v.body, .string v.answer], rK bk 84 (kL c room (sl)), rK bn 3 [.int .i64 now]]) → QR .normal ac1 wz) : (regAt Try.f93 1).wp Try.prog QR ac0 wb := by
  refine wp_region_sq (by kernel_rfl) 15 hz (by kernel_rfl) (fun (xx : Unit) jx => nth [.int .i64 now, .pointer (some ⟨b5, 0, none⟩), .int .i64 v.stamp, .pointer (some ⟨bk, 0, none⟩), .pointer (some ⟨bk, 6, none⟩), .int .i64 c.window, .int .i64 (IntKind.i64.wrap (v.stamp + c.window)), .bool (decide (now ≤ (IntKind.i64.wrap (v.stamp + c.window)))), .bool (decide (now ≤ (IntKind.i64.wrap (v.stamp + c.window))))] jx) (fun (LL : Nat → Bool) (xx : Unit) ww => Hp [] wa ww [rB b5 127 [.int .i64 v.stamp, .string v.body, .string v.answer], rK bk 84 (kL c room (sl)), rK bn 3 [.int .i64 now]]) () H.out ?_ (steps_al ?_) ?_ ?_
  · exact fun _ _ _ _ _ h => h
  · refine al_cons ?_ (al_cons ?_ (al_cons ?_ (al_cons ?_ (al_cons ?_ (al_cons ?_ (al_cons ?_ (al_cons ?_ (al_cons ?_ (al_nil)))))))))
    · intro LL xx ac wc sg hst hwant QQ hgo
      have H := Lib.hid hst
      refine hpK_load1 tyint H rfl ((sg.free 2 (by kernel_rfl)).trans so2) hwant (by (repeat (first | exact List.Mem.head _ | apply List.Mem.tail))) (by rfl) ?_
      exact hgo _ () _ (fun _ _ => rfl) rfl hst
    · intro LL xx ac wc sg hst hwant QQ hgo
      have se5 : ac.eval (.tmp 5) = _ := ((sg.free 5 (by kernel_rfl)).trans so5)
      have sg5 := gt_of se5
      exact op_val hwant hgo hst _ (by simp only [execOp, nth]; go_simp <;> omega) rfl
    · intro LL xx ac wc sg hst hwant QQ hgo
      have H := Lib.hid hst
      refine hpA_load1 tyint H rfl (sg.slot 1 (sg.anc 1 rfl)) hwant (by (repeat (first | exact List.Mem.head _ | apply List.Mem.tail))) (by rfl) ?_
      exact hgo _ () _ (fun _ _ => rfl) rfl hst
    · intro LL xx ac wc sg hst hwant QQ hgo
      have se3 : ac.eval (.tmp 3) = _ := ((sg.free 3 (by kernel_rfl)).trans so3)
      have sg3 := gt_of se3
      exact op_val hwant hgo hst _ (by simp only [execOp, nth]; go_simp <;> omega) rfl
    · intro LL xx ac wc sg hst hwant QQ hgo
      have se10 : ac.eval (.tmp 10) = _ := (sg.slot 3 (sg.anc 3 rfl))
      have sg10 := gt_of se10
      (try simp only [nth] at se10 sg10)
      exact op_val hwant hgo hst _ (by simp only [execOp, nth]; go_simp <;> omega) rfl
    · intro LL xx ac wc sg hst hwant QQ hgo
      have H := Lib.hid hst
      refine hpK_load1 tyint H rfl (sg.slot 4 (sg.anc 4 rfl)) hwant (by (repeat (first | exact List.Mem.head _ | apply List.Mem.tail))) (by rfl) ?_
      exact hgo _ () _ (fun _ _ => rfl) rfl hst
    · intro LL xx ac wc sg hst hwant QQ hgo
      have se9 : ac.eval (.tmp 9) = _ := (sg.slot 2 (sg.anc 2 rfl))
      have sg9 := gt_of se9
      have se12 : ac.eval (.tmp 12) = _ := (sg.slot 5 (sg.anc 5 rfl))
      have sg12 := gt_of se12
      (try simp only [nth] at se9 sg9 se12 sg12)
      exact op_val hwant hgo hst _ (by simp only [execOp, nth]; go_simp <;> omega) rfl
    · intro LL xx ac wc sg hst hwant QQ hgo
      have se7 : ac.eval (.tmp 7) = _ := (sg.slot 0 (sg.anc 0 rfl))
      have sg7 := gt_of se7
      have se13 : ac.eval (.tmp 13) = _ := (sg.slot 6 (sg.anc 6 rfl))
      have sg13 := gt_of se13
      (try simp only [nth] at se7 sg7 se13 sg13)
      exact op_val hwant hgo hst _ (by simp only [execOp, nth]; go_simp <;> omega) rfl
    · intro LL xx ac wc sg hst hwant QQ hgo
      exact op_val hwant hgo hst _ (exec_assign rfl (sg.slot 7 (sg.anc 7 rfl))) rfl
  · exact skips [] (by kernel_rfl) (fun _ h => by cases h)
  · intro xx ac1 wz hfr hsl hst
    exact hfin ac1 wz (hfr.size.trans hz) hfr.defers (fr_keep hfr [6, 7, 8, 9, 10, 11, 12, 13, 14] (by kernel_rfl)) (hsl 8 (by decide)) (Lib.hid hst)
set_option maxRecDepth 20000 in
theorem counts1C (c : Cfg) (now : Int) (room : Int) (sl : Value) (k : ByteArray) (v : EntryV) (bn : Nat) (bk : Nat) (w : World) (hn : Blk w bn #[.int .i64 now] 3) (hk : Blk w bk #[.int .i64 c.floors, .int .i64 c.cars, .int .i64 c.seats, .int .i64 c.calls, .int .i64 c.lines, .int .i64 c.keys, .int .i64 c.window, .int .i64 c.burst, .int .i64 c.rate, .int .i64 c.idle, .int .i64 c.inn, .int .i64 c.out, .int .i64 c.feed, .int .i64 c.retries, .int .i64 c.life, .int .i64 c.door, .int .i64 c.holds, .int .u32 c.secret, .int .i64 room, sl] 84) : Calls Try.prog 93 #[.string k, .agg #[.int .i64 v.stamp, .string v.body, .string v.answer], .pointer (some ⟨bn, 0, none⟩), .pointer (some ⟨bk, 0, none⟩)] w fun e w' => e = .returned (.bool (asks (keepB c now) (k, v))) ∧ Off [] w w' := by
  have H := Lib.hid (Hp.start [] w)
  have H := hp_oldK H hn
  replace H := hp_oldK H hk
  refine calls_start Try.func93 rfl 15 rfl (by simp) (fun aa nn dd sl => ?_)
  have ss0 : aa.eval (.tmp 0) = .string k := sl 0 (by simp)
  have ss1 : aa.eval (.tmp 1) = .agg #[.int .i64 v.stamp, .string v.body, .string v.answer] := sl 1 (by simp)
  have ss2 : aa.eval (.tmp 2) = .pointer (some ⟨bn, 0, none⟩) := sl 2 (by simp)
  have ss3 : aa.eval (.tmp 3) = .pointer (some ⟨bk, 0, none⟩) := sl 3 (by simp)
  clear sl
  refine wp_seq_k fun KK1 hK1 => ?_
  refine counts1C_r0 c now room sl v bn bk H aa nn ss1 ?_
  clear H nn ss0
  intro b5 aa ww nn dd1 kp ss5 ss6 H
  replace ss1 := (kp 1 rfl).trans ss1
  replace ss2 := (kp 2 rfl).trans ss2
  replace ss3 := (kp 3 rfl).trans ss3
  replace dd := dd1.trans dd
  clear dd1 kp
  refine then_normal ?_
  refine hK1 _ _ ?_
  refine wp_seq_k fun KK2 hK2 => ?_
  refine counts1C_r1 c now room sl v bn bk b5 H aa nn ss2 ss3 ss5 ?_
  clear H nn ss6
  intro aa ww nn dd1 kp ss6 H
  replace ss1 := (kp 1 rfl).trans ss1
  replace ss2 := (kp 2 rfl).trans ss2
  replace ss3 := (kp 3 rfl).trans ss3
  replace ss5 := (kp 5 rfl).trans ss5
  replace dd := dd1.trans dd
  clear dd1 kp
  refine then_normal ?_
  refine hK2 _ _ ?_
  refine wp_ret ?_
  exact ret1 rfl dd ss6 ⟨rfl, H.out.off⟩
set_option maxRecDepth 20000 in
theorem countsC_r0 (c : Cfg) (now : Int) (room : Int) (a : Option Addr) (cc : Nat) (ps : List PairV) (hb : ps.length ≤ 1000000) {wa wb : World} (H : Hid (Hp [] wa wb [rS a cc 4 (ps.map rowOf)])) (ac0 : Act) (hz : ac0.tmps.size = 9) (so0 : ac0.eval (.tmp 0) = .agg (kA c room (.slice a ps.length cc))) (so1 : ac0.eval (.tmp 1) = .int .i64 now) {QR : Exit → Act → World → Prop} (hfin : ∀ (b2 : Nat) (b3 : Nat) (b4 : Nat) (ac1 : Act) (wz : World), ac1.tmps.size = 9 → ac1.defers = ac0.defers → (∀ t, ([2, 3, 4] : List Nat).contains t = false → ac1.eval (.tmp t) = ac0.eval (.tmp t)) → ac1.eval (.tmp 2) = .pointer (some ⟨b2, 0, none⟩) → ac1.eval (.tmp 3) = .pointer (some ⟨b3, 0, none⟩) → ac1.eval (.tmp 4) = .pointer (some ⟨b4, 0, none⟩) →  Hid (Hp [] wa wz [rB b4 82 [.int .i64 0, .slice none 0 0], rB b3 3 [.int .i64 now], rB b2 84 (kL c room (.slice a ps.length cc)), rS a cc 4 (ps.map rowOf)]) → QR .normal ac1 wz) : (regAt Try.f77 0).wp Try.prog QR ac0 wb := by
  refine wp_region_sq (by kernel_rfl) 9 hz (by kernel_rfl) (fun (xx : Nat × Nat × Nat) jx => match xx with | (b2, b3, b4) => nth [.pointer (some ⟨b2, 0, none⟩), .pointer (some ⟨b3, 0, none⟩), .pointer (some ⟨b4, 0, none⟩)] jx) (fun (LL : Nat → Bool) (xx : Nat × Nat × Nat) ww => match xx with | (b2, b3, b4) => Hp [] wa ww (bif LL 2 then [rB b4 82 [.int .i64 0, .slice none 0 0], rB b3 3 [.int .i64 now], rB b2 84 (kL c room (.slice a ps.length cc)), rS a cc 4 (ps.map rowOf)] else (bif LL 1 then [rB b3 3 [.int .i64 now], rB b2 84 (kL c room (.slice a ps.length cc)), rS a cc 4 (ps.map rowOf)] else (bif LL 0 then [rB b2 84 (kL c room (.slice a ps.length cc)), rS a cc 4 (ps.map rowOf)] else [rS a cc 4 (ps.map rowOf)])))) (default, default, default) H.out ?_ (steps_al ?_) ?_ ?_
  · intro L1 L2 xx ww hL sg
    have lh0 := hL 0 (by decide)
    have lh1 := hL 1 (by decide)
    have lh2 := hL 2 (by decide)
    simp only [lh0, lh1, lh2] at sg
    exact sg
  · refine al_cons ?_ (al_cons ?_ (al_cons ?_ (al_nil)))
    · intro LL xx ac wc sg hst hwant QQ hgo
      obtain ⟨_, b3, b4⟩ := xx
      have H := Lib.hid hst
      simp only [sg.self, sg.des 1 rfl, sg.des 2 rfl, cond_true, cond_false] at H
      refine hp_box rfl 84 _ rfl _ ((sg.free 0 (by kernel_rfl)).trans so0) _ (by rfl) H ?_
      intro wd b2 H2
      exact hgo _ (b2, b3, b4) _ (sg.agree (x' := (b2, b3, b4)) (n := 3) rfl (by (iterate 3 (refine ix_cons (by first | exact fun _ => rfl | exact no sg.self | exact no (sg.des _ rfl)) ?_)); exact ix_nil)) rfl (by simp only [(show upd LL 0 0 = true from rfl), (show upd LL 0 1 = LL 1 from rfl), sg.des 1 rfl, (show upd LL 0 2 = LL 2 from rfl), sg.des 2 rfl, cond_true, cond_false]; exact H2.out)
    · intro LL xx ac wc sg hst hwant QQ hgo
      obtain ⟨b2, _, b4⟩ := xx
      have H := Lib.hid hst
      simp only [sg.anc 0 rfl, sg.self, sg.des 2 rfl, cond_true, cond_false] at H
      refine hpA_box1 3 H rfl rfl ((sg.free 1 (by kernel_rfl)).trans so1) (by rfl) ?_
      intro wd b3 H2
      exact hgo _ (b2, b3, b4) _ (sg.agree (x' := (b2, b3, b4)) (n := 3) rfl (by (iterate 3 (refine ix_cons (by first | exact fun _ => rfl | exact no sg.self | exact no (sg.des _ rfl)) ?_)); exact ix_nil)) rfl (by simp only [(show upd LL 1 0 = LL 0 from rfl), sg.anc 0 rfl, (show upd LL 1 1 = true from rfl), (show upd LL 1 2 = LL 2 from rfl), sg.des 2 rfl, cond_true, cond_false]; exact H2.out)
    · intro LL xx ac wc sg hst hwant QQ hgo
      obtain ⟨b2, b3, _⟩ := xx
      have H := Lib.hid hst
      simp only [sg.anc 0 rfl, sg.anc 1 rfl, sg.self, cond_true, cond_false] at H
      refine hpA_alloc tyshelf_Shelf_string__keys_entry_ H rfl rfl ?_
      intro wd b4 H2
      exact hgo _ (b2, b3, b4) _ (sg.agree (x' := (b2, b3, b4)) (n := 3) rfl (by (iterate 3 (refine ix_cons (by first | exact fun _ => rfl | exact no sg.self | exact no (sg.des _ rfl)) ?_)); exact ix_nil)) rfl (by simp only [(show upd LL 2 0 = LL 0 from rfl), sg.anc 0 rfl, (show upd LL 2 1 = LL 1 from rfl), sg.anc 1 rfl, (show upd LL 2 2 = true from rfl), cond_true, cond_false]; exact H2.out)
  · exact skips [] (by kernel_rfl) (fun _ h => by cases h)
  · intro xx ac1 wz hfr hsl hst
    obtain ⟨b2, b3, b4⟩ := xx
    exact hfin b2 b3 b4 ac1 wz (hfr.size.trans hz) hfr.defers (fr_keep hfr [2, 3, 4] (by kernel_rfl)) (hsl 0 (by decide)) (hsl 1 (by decide)) (hsl 2 (by decide)) (Lib.hid hst)
set_option maxRecDepth 20000 in
theorem countsC_r1 (c : Cfg) (now : Int) (room : Int) (a : Option Addr) (cc : Nat) (ps : List PairV) (hb : ps.length ≤ 1000000) (b2 : Nat) (b3 : Nat) (b4 : Nat) {wa wb : World} (H : Hid (Hp [] wa wb [rB b4 82 [.int .i64 0, .slice none 0 0], rB b3 3 [.int .i64 now], rB b2 84 (kL c room (.slice a ps.length cc)), rS a cc 4 (ps.map rowOf)])) (ac0 : Act) (hz : ac0.tmps.size = 9) (so2 : ac0.eval (.tmp 2) = .pointer (some ⟨b2, 0, none⟩)) (so3 : ac0.eval (.tmp 3) = .pointer (some ⟨b3, 0, none⟩)) (so4 : ac0.eval (.tmp 4) = .pointer (some ⟨b4, 0, none⟩)) {QR : Exit → Act → World → Prop} (hfin : ∀ (a1_3 : Option Addr) (c1_3 : Nat) (ac1 : Act) (wz : World), ac1.tmps.size = 9 → ac1.defers = ac0.defers → (∀ t, ([5, 6, 7, 8] : List Nat).contains t = false → ac1.eval (.tmp t) = ac0.eval (.tmp t)) →  Hid (Hp [] wa wz [rP (From wa [] (rS a1_3 c1_3 4 (((ps).filter (keepB c now)).map rowOf)).foot), rS a1_3 c1_3 4 (((ps).filter (keepB c now)).map rowOf), rB b4 82 [.int .i64 room, .slice a1_3 (((ps).filter (keepB c now)).length) c1_3], rB b3 3 [.int .i64 now], rB b2 84 (kL c room (.slice a ps.length cc)), rS a cc 4 (ps.map rowOf)]) → QR .normal ac1 wz) : (regAt Try.f77 1).wp Try.prog QR ac0 wb := by
  refine wp_region_sq (by kernel_rfl) 9 hz (by kernel_rfl) (fun (xx : Option Addr × Nat) jx => match xx with | (a1_3, c1_3) => nth [.pointer (some ⟨b2, 18, none⟩), .agg #[.int .i64 room, .slice a ps.length cc], .func (.func 93) #[] #[.pointer (some ⟨b3, 0, none⟩), .pointer (some ⟨b2, 0, none⟩)], .agg #[.int .i64 room, .slice a1_3 (((ps).filter (keepB c now)).length) c1_3], undef] jx) (fun (LL : Nat → Bool) (xx : Option Addr × Nat) ww => match xx with | (a1_3, c1_3) => Hp [] wa ww (bif LL 4 then [rP (From wa [] (rS a1_3 c1_3 4 (((ps).filter (keepB c now)).map rowOf)).foot), rS a1_3 c1_3 4 (((ps).filter (keepB c now)).map rowOf), rB b4 82 [.int .i64 room, .slice a1_3 (((ps).filter (keepB c now)).length) c1_3], rB b3 3 [.int .i64 now], rB b2 84 (kL c room (.slice a ps.length cc)), rS a cc 4 (ps.map rowOf)] else (bif LL 3 then [rP (From wa [] (rS a1_3 c1_3 4 (((ps).filter (keepB c now)).map rowOf)).foot), rS a1_3 c1_3 4 (((ps).filter (keepB c now)).map rowOf), rB b4 82 [.int .i64 0, .slice none 0 0], rB b3 3 [.int .i64 now], rB b2 84 (kL c room (.slice a ps.length cc)), rS a cc 4 (ps.map rowOf)] else [rB b4 82 [.int .i64 0, .slice none 0 0], rB b3 3 [.int .i64 now], rB b2 84 (kL c room (.slice a ps.length cc)), rS a cc 4 (ps.map rowOf)]))) (default, default) H.out ?_ (steps_al ?_) ?_ ?_
  · intro L1 L2 xx ww hL sg
    have lh3 := hL 3 (by decide)
    have lh4 := hL 4 (by decide)
    simp only [lh3, lh4] at sg
    exact sg
  · refine al_cons ?_ (al_cons ?_ (al_cons ?_ (al_cons ?_ (al_cons ?_ (al_nil)))))
    · intro LL xx ac wc sg hst hwant QQ hgo
      obtain ⟨a1_3, c1_3⟩ := xx
      have se2 : ac.eval (.tmp 2) = _ := ((sg.free 2 (by kernel_rfl)).trans so2)
      have sg2 := gt_of se2
      exact op_val hwant hgo hst _ (by simp only [execOp, nth]; go_simp <;> omega) rfl
    · intro LL xx ac wc sg hst hwant QQ hgo
      obtain ⟨a1_3, c1_3⟩ := xx
      have H := Lib.hid hst
      simp only [sg.des 3 rfl, sg.des 4 rfl, cond_true, cond_false] at H
      refine hpA_load tyshelf_Shelf_string__keys_entry_ H rfl (sg.slot 0 (sg.anc 0 rfl)) hwant (by (repeat (first | exact List.Mem.head _ | apply List.Mem.tail))) (by rfl) rfl ?_
      exact hgo _ (a1_3, c1_3) _ (fun _ _ => rfl) rfl hst
    · intro LL xx ac wc sg hst hwant QQ hgo
      obtain ⟨a1_3, c1_3⟩ := xx
      have se3 : ac.eval (.tmp 3) = _ := ((sg.free 3 (by kernel_rfl)).trans so3)
      have sg3 := gt_of se3
      have se2 : ac.eval (.tmp 2) = _ := ((sg.free 2 (by kernel_rfl)).trans so2)
      have sg2 := gt_of se2
      exact op_val hwant hgo hst _ (by simp only [execOp, nth]; go_simp <;> omega) rfl
    · intro LL xx ac wc sg hst hwant QQ hgo
      obtain ⟨_, _⟩ := xx
      have se6 : ac.eval (.tmp 6) = _ := (sg.slot 1 (sg.anc 1 rfl))
      have sg6 := gt_of se6
      have se7 : ac.eval (.tmp 7) = _ := (sg.slot 2 (sg.anc 2 rfl))
      have sg7 := gt_of se7
      (try simp only [nth] at se6 sg6 se7 sg7)
      have H := Lib.hid hst
      simp only [sg.self, sg.des 4 rfl, cond_true, cond_false] at H
      refine op_call hwant hgo 92 _ (by simp only [execOp]; go_simp) (keepCnt room a cc ps (keepB c now) (.pointer (some ⟨b3, 0, none⟩)) (.pointer (some ⟨b2, 0, none⟩)) wc (hp_held H (by (repeat (first | exact List.Mem.head _ | apply List.Mem.tail)))) hb (fun w2 hof2 p _ => counts1C c now room (.slice a ps.length cc) p.1 p.2 b3 b2 w2 (hof2.blk (H.out.holds (rB b3 3 [.int .i64 now]) (by (repeat (first | exact List.Mem.head _ | apply List.Mem.tail)))) (by simp)) (hof2.blk (H.out.holds (rB b2 84 (kL c room (.slice a ps.length cc))) (by (repeat (first | exact List.Mem.head _ | apply List.Mem.tail)))) (by simp)))) ?_
      rintro er wd ⟨a1_3, c1_3, rfl, hgv⟩
      have H2 := hp_got H hgv.2.2 hgv.1 (by decide) hgv.2.1 (by simp)
      replace H2 := hp_fact H2 (p := From wa [] (rS a1_3 c1_3 4 (((ps).filter (keepB c now)).map rowOf)).foot) (from_trans hgv.2.1 H.out.off (fun r hr => by cases hr))
      exact ⟨_, (a1_3, c1_3), rfl, (sg.agree (x' := (a1_3, c1_3)) (n := 5) rfl (by (iterate 5 (refine ix_cons (by first | exact fun _ => rfl | exact no sg.self | exact no (sg.des _ rfl)) ?_)); exact ix_nil)), rfl, (by simp only [(show upd LL 3 3 = true from rfl), (show upd LL 3 4 = LL 4 from rfl), sg.des 4 rfl, cond_true, cond_false]; exact H2.out)⟩
    · intro LL xx ac wc sg hst hwant QQ hgo
      obtain ⟨a1_3, c1_3⟩ := xx
      have H := Lib.hid hst
      simp only [sg.anc 3 rfl, sg.self, cond_true, cond_false] at H
      refine hpA_store tyshelf_Shelf_string__keys_entry_ H rfl rfl ((sg.free 4 (by kernel_rfl)).trans so4) (sg.slot 3 (sg.anc 3 rfl)) rfl (by repeat (first | apply Put.head | apply Put.tail)) (by simp [kA, kL, rkA, rkL, cA, cL]) (by simp [kA, kL, rkA, rkL, cA, cL, Value.oneCell']) (by first | rfl | (simp only [spl]; rfl)) rfl ?_
      intro wd H2
      exact hgo _ (a1_3, c1_3) _ (sg.agree (x' := (a1_3, c1_3)) (n := 5) rfl (by (iterate 5 (refine ix_cons (by first | exact fun _ => rfl | exact no sg.self | exact no (sg.des _ rfl)) ?_)); exact ix_nil)) rfl (by simp only [(show upd LL 4 3 = LL 3 from rfl), sg.anc 3 rfl, (show upd LL 4 4 = true from rfl), cond_true, cond_false]; exact H2.out)
  · exact skips [] (by kernel_rfl) (fun _ h => by cases h)
  · intro xx ac1 wz hfr hsl hst
    obtain ⟨a1_3, c1_3⟩ := xx
    exact hfin a1_3 c1_3 ac1 wz (hfr.size.trans hz) hfr.defers (fr_keep hfr [5, 6, 7, 8] (by kernel_rfl)) (Lib.hid hst)
set_option maxRecDepth 20000 in
theorem countsC (c : Cfg) (now : Int) (room : Int) (a : Option Addr) (cc : Nat) (ps : List PairV) (w : World) (h : (rS a cc 4 (ps.map rowOf)).holds w) (hb : ps.length ≤ 1000000) : Calls Try.prog 77 #[.agg (kA c room (.slice a ps.length cc)), .int .i64 now] w fun e w' => ∃ a' c', e = .returned (.agg #[.int .i64 room, .slice a' (ps.filter (keepB c now)).length c']) ∧ Gives w w' [] a' c' (ps.filter (keepB c now)) := by
  have H := Lib.hid (Hp.start [] w)
  have H := hp_old H h (by decide)
  clear h
  refine calls_start Try.func77 rfl 9 rfl (by simp) (fun aa nn dd sl => ?_)
  have ss0 : aa.eval (.tmp 0) = .agg (kA c room (.slice a ps.length cc)) := sl 0 (by simp)
  have ss1 : aa.eval (.tmp 1) = .int .i64 now := sl 1 (by simp)
  clear sl
  refine wp_seq_k fun KK1 hK1 => ?_
  refine countsC_r0 c now room a cc ps hb H aa nn ss0 ss1 ?_
  clear H nn
  intro b2 b3 b4 aa ww nn dd1 kp ss2 ss3 ss4 H
  replace ss0 := (kp 0 rfl).trans ss0
  replace ss1 := (kp 1 rfl).trans ss1
  replace dd := dd1.trans dd
  clear dd1 kp
  refine then_normal ?_
  refine hK1 _ _ ?_
  refine wp_seq_k fun KK2 hK2 => ?_
  refine countsC_r1 c now room a cc ps hb b2 b3 b4 H aa nn ss2 ss3 ss4 ?_
  clear H nn
  intro a1_3 c1_3 aa ww nn dd1 kp H
  replace ss0 := (kp 0 rfl).trans ss0
  replace ss1 := (kp 1 rfl).trans ss1
  replace ss2 := (kp 2 rfl).trans ss2
  replace ss3 := (kp 3 rfl).trans ss3
  replace ss4 := (kp 4 rfl).trans ss4
  replace dd := dd1.trans dd
  clear dd1 kp
  refine then_normal ?_
  refine hK2 _ _ ?_
  refine wp_ret ?_
  exact hp_ret_c tyshelf_Shelf_string__keys_entry_ H rfl dd ss4  (by (repeat (first | exact List.Mem.head _ | apply List.Mem.tail))) rfl ⟨a1_3, c1_3, rfl, hp_held H (by (repeat (first | exact List.Mem.head _ | apply List.Mem.tail))), hp_told H (by (repeat (first | exact List.Mem.head _ | apply List.Mem.tail))), H.out.off⟩
set_option maxRecDepth 20000 in
theorem lookC_r0 (c : Cfg) (room : Int) (a : Option Addr) (cc : Nat) (ps : List PairV) (key : Int) (hk0 : 0 ≤ key) (hk1 : key ≤ 18446744073709551615) (hb : ps.length ≤ 1000000) {wa wb : World} (H : Hid (Hp [] wa wb [rS a cc 4 (ps.map rowOf)])) (ac0 : Act) (hz : ac0.tmps.size = 57) (so0 : ac0.eval (.tmp 0) = .agg (kA c room (.slice a ps.length cc))) {QR : Exit → Act → World → Prop} (hfin : ∀ (b5 : Nat) (ac1 : Act) (wz : World), ac1.tmps.size = 57 → ac1.defers = ac0.defers → (∀ t, ([5, 10, 11] : List Nat).contains t = false → ac1.eval (.tmp t) = ac0.eval (.tmp t)) → ac1.eval (.tmp 5) = .pointer (some ⟨b5, 0, none⟩) → ac1.eval (.tmp 10) = .string (⟨#[]⟩ : ByteArray) → ac1.eval (.tmp 11) = .int .i64 0 →  Hid (Hp [] wa wz [rB b5 84 (kL c room (.slice a ps.length cc)), rS a cc 4 (ps.map rowOf)]) → QR .normal ac1 wz) : (regAt Try.f48 0).wp Try.prog QR ac0 wb := by
  refine wp_region_sq (by kernel_rfl) 57 hz (by kernel_rfl) (fun (xx : Nat) jx => match xx with | b5 => nth [.pointer (some ⟨b5, 0, none⟩), .string (⟨#[]⟩ : ByteArray), .int .i64 0] jx) (fun (LL : Nat → Bool) (xx : Nat) ww => match xx with | b5 => Hp [] wa ww (bif LL 0 then [rB b5 84 (kL c room (.slice a ps.length cc)), rS a cc 4 (ps.map rowOf)] else [rS a cc 4 (ps.map rowOf)])) default H.out ?_ (steps_al ?_) ?_ ?_
  · intro L1 L2 xx ww hL sg
    have lh0 := hL 0 (by decide)
    simp only [lh0] at sg
    exact sg
  · refine al_cons ?_ (al_cons ?_ (al_cons ?_ (al_nil)))
    · intro LL xx ac wc sg hst hwant QQ hgo
      revert sg hst hgo; revert xx; intro xold sg hst hgo
      have H := Lib.hid hst
      simp only [sg.self, cond_true, cond_false] at H
      refine hp_box rfl 84 _ rfl _ ((sg.free 0 (by kernel_rfl)).trans so0) _ (by rfl) H ?_
      intro wd b5 H2
      exact hgo _ b5 _ (sg.agree (x' := b5) (n := 3) rfl (by (iterate 3 (refine ix_cons (by first | exact fun _ => rfl | exact no sg.self | exact no (sg.des _ rfl)) ?_)); exact ix_nil)) rfl (by simp only [(show upd LL 0 0 = true from rfl), cond_true, cond_false]; exact H2.out)
    · intro LL xx ac wc sg hst hwant QQ hgo
      revert sg hst hgo; revert xx; intro b5 sg hst hgo
      exact op_val hwant hgo hst _ (exec_assign rfl rfl) rfl
    · intro LL xx ac wc sg hst hwant QQ hgo
      revert sg hst hgo; revert xx; intro b5 sg hst hgo
      exact op_val hwant hgo hst _ (exec_assign rfl rfl) rfl
  · exact skips [] (by kernel_rfl) (fun _ h => by cases h)
  · intro xx ac1 wz hfr hsl hst
    revert hsl hst; revert xx; intro b5 hsl hst
    exact hfin b5 ac1 wz (hfr.size.trans hz) hfr.defers (fr_keep hfr [5, 10, 11] (by kernel_rfl)) (hsl 0 (by decide)) (hsl 1 (by decide)) (hsl 2 (by decide)) (Lib.hid hst)
set_option maxRecDepth 20000 in
theorem lookC_r1 (c : Cfg) (room : Int) (a : Option Addr) (cc : Nat) (ps : List PairV) (now : Int) (who : Int) (key : Int) (hk0 : 0 ≤ key) (hk1 : key ≤ 18446744073709551615) (hb : ps.length ≤ 1000000) (b5 : Nat) {wa wb : World} (H : Hid (Hp [] wa wb [rB b5 84 (kL c room (.slice a ps.length cc)), rS a cc 4 (ps.map rowOf)])) (ac0 : Act) (hz : ac0.tmps.size = 57) (so1 : ac0.eval (.tmp 1) = .int .i64 now) (so2 : ac0.eval (.tmp 2) = .int .i64 who) (so3 : ac0.eval (.tmp 3) = .int .u64 key) (so5 : ac0.eval (.tmp 5) = .pointer (some ⟨b5, 0, none⟩)) {QR : Exit → Act → World → Prop} (hfin : ∀ (ac1 : Act) (wz : World), ac1.tmps.size = 57 → ac1.defers = ac0.defers → (∀ t, ([15, 16, 17, 18, 19, 20, 21, 22, 23, 24, 25, 26] : List Nat).contains t = false → ac1.eval (.tmp t) = ac0.eval (.tmp t)) → ac1.eval (.tmp 26) = .bool ((!(isTickV now who)) || (!(isGoodV c key now))) →  Hid (Hp [] wa wz [rB b5 84 (kL c room (.slice a ps.length cc)), rS a cc 4 (ps.map rowOf)]) → QR .normal ac1 wz) : (regAt Try.f48 1).wp Try.prog QR ac0 wb := by
  refine wp_region_sq (by kernel_rfl) 57 hz (by kernel_rfl) (fun (xx : Unit) jx => nth [.int .i64 now, .int .i64 who, .bool (isTickV now who), .bool (!(isTickV now who)), .bool (!(isTickV now who)), bif !(!(isTickV now who)) then .pointer (some ⟨b5, 0, none⟩) else undef, bif !(!(isTickV now who)) then .agg (cA c) else undef, bif !(!(isTickV now who)) then .int .u64 key else undef, bif !(!(isTickV now who)) then .int .i64 now else undef, bif !(!(isTickV now who)) then .bool (isGoodV c key now) else undef, bif !(!(isTickV now who)) then .bool (!(isGoodV c key now)) else undef, .bool ((!(isTickV now who)) || (!(isGoodV c key now)))] jx) (fun (LL : Nat → Bool) (xx : Unit) ww => Hp [] wa ww [rB b5 84 (kL c room (.slice a ps.length cc)), rS a cc 4 (ps.map rowOf)]) () H.out ?_ (steps_al ?_) ?_ ?_
  · exact fun _ _ _ _ _ h => h
  · refine al_cons ?_ (al_cons ?_ (al_cons ?_ (al_cons ?_ (al_cons ?_ (al_cons ?_ (al_cons ?_ (al_cons ?_ (al_cons ?_ (al_cons ?_ (al_cons ?_ (al_cons ?_ (al_nil))))))))))))
    · intro LL xx ac wc sg hst hwant QQ hgo
      exact op_val hwant hgo hst _ (exec_move rfl ((sg.free 1 (by kernel_rfl)).trans so1)) rfl
    · intro LL xx ac wc sg hst hwant QQ hgo
      exact op_val hwant hgo hst _ (exec_move rfl ((sg.free 2 (by kernel_rfl)).trans so2)) rfl
    · intro LL xx ac wc sg hst hwant QQ hgo
      have se15 : ac.eval (.tmp 15) = _ := (sg.slot 0 (sg.anc 0 rfl))
      have sg15 := gt_of se15
      have se16 : ac.eval (.tmp 16) = _ := (sg.slot 1 (sg.anc 1 rfl))
      have sg16 := gt_of se16
      (try simp only [nth] at se15 sg15 se16 sg16)
      refine op_call hwant hgo 76 _ (by simp only [execOp]; go_simp) (isTickC now who wc) ?_
      rintro er wd ⟨rfl, hof⟩
      exact ⟨_, (), rfl, fun _ _ => rfl, rfl, Hp.quiet hst hof⟩
    · intro LL xx ac wc sg hst hwant QQ hgo
      have se17 : ac.eval (.tmp 17) = _ := (sg.slot 2 (sg.anc 2 rfl))
      have sg17 := gt_of se17
      (try simp only [nth] at se17 sg17)
      exact op_val hwant hgo hst _ (by simp only [execOp, nth]; go_simp <;> omega) rfl
    · intro LL xx ac wc sg hst hwant QQ hgo
      exact op_val hwant hgo hst _ (exec_move rfl (sg.slot 3 (sg.anc 3 rfl))) rfl
    · intro LL xx ac wc sg hst hwant QQ hgo
      have hG : (!(!(isTickV now who))) = true := (want_f rfl rfl (sg.slot 4 (sg.anc 4 rfl))).symm.trans hwant
      have se5 : ac.eval (.tmp 5) = _ := ((sg.free 5 (by kernel_rfl)).trans so5)
      have sg5 := gt_of se5
      exact op_val hwant hgo hst _ (by simp only [execOp, nth]; go_simp <;> omega) (cI hG)
    · intro LL xx ac wc sg hst hwant QQ hgo
      have hG : (!(!(isTickV now who))) = true := (want_f rfl rfl (sg.slot 4 (sg.anc 4 rfl))).symm.trans hwant
      have H := Lib.hid hst
      refine hpA_load tyapi_Config H rfl (cT (sg.slot 5 (sg.anc 5 rfl)) hG) hwant (by (repeat (first | exact List.Mem.head _ | apply List.Mem.tail))) (by rfl) rfl ?_
      exact hgo _ () _ (fun _ _ => rfl) (cI hG) hst
    · intro LL xx ac wc sg hst hwant QQ hgo
      have hG : (!(!(isTickV now who))) = true := (want_f rfl rfl (sg.slot 4 (sg.anc 4 rfl))).symm.trans hwant
      exact op_val hwant hgo hst _ (exec_move rfl ((sg.free 3 (by kernel_rfl)).trans so3)) (cI hG)
    · intro LL xx ac wc sg hst hwant QQ hgo
      have hG : (!(!(isTickV now who))) = true := (want_f rfl rfl (sg.slot 4 (sg.anc 4 rfl))).symm.trans hwant
      exact op_val hwant hgo hst _ (exec_move rfl ((sg.free 1 (by kernel_rfl)).trans so1)) (cI hG)
    · intro LL xx ac wc sg hst hwant QQ hgo
      have hG : (!(!(isTickV now who))) = true := (want_f rfl rfl (sg.slot 4 (sg.anc 4 rfl))).symm.trans hwant
      have se21 : ac.eval (.tmp 21) = _ := (cT (sg.slot 6 (sg.anc 6 rfl)) hG)
      have sg21 := gt_of se21
      have se22 : ac.eval (.tmp 22) = _ := (cT (sg.slot 7 (sg.anc 7 rfl)) hG)
      have sg22 := gt_of se22
      have se23 : ac.eval (.tmp 23) = _ := (cT (sg.slot 8 (sg.anc 8 rfl)) hG)
      have sg23 := gt_of se23
      (try simp only [nth] at se21 sg21 se22 sg22 se23 sg23)
      refine op_call hwant hgo 49 _ (by simp only [execOp]; go_simp) (isGoodC c key now wc hk0 hk1) ?_
      rintro er wd ⟨rfl, hof⟩
      exact ⟨_, (), rfl, fun _ _ => rfl, (cI hG), Hp.quiet hst hof⟩
    · intro LL xx ac wc sg hst hwant QQ hgo
      have hG : (!(!(isTickV now who))) = true := (want_f rfl rfl (sg.slot 4 (sg.anc 4 rfl))).symm.trans hwant
      have se24 : ac.eval (.tmp 24) = _ := (cT (sg.slot 9 (sg.anc 9 rfl)) hG)
      have sg24 := gt_of se24
      (try simp only [nth] at se24 sg24)
      exact op_val hwant hgo hst _ (by simp only [execOp, nth]; go_simp <;> omega) (cI hG)
    · intro LL xx ac wc sg hst hwant QQ hgo
      exact op_val hwant hgo hst (.bool ((!(isTickV now who)) || (!(isGoodV c key now)))) (exec_or (Y := !(isGoodV c key now)) rfl (sg.slot 4 (sg.anc 4 rfl)) (fun qq => cT (sg.slot 10 (sg.anc 10 rfl)) (bk qq))) rfl
  · refine skips [5, 6, 7, 8, 9, 10] (by kernel_rfl) ?_
    refine List.forall_mem_cons.2 ⟨?_, List.forall_mem_cons.2 ⟨?_, List.forall_mem_cons.2 ⟨?_, List.forall_mem_cons.2 ⟨?_, List.forall_mem_cons.2 ⟨?_, List.forall_mem_cons.2 ⟨?_, fun _ h => by cases h⟩⟩⟩⟩⟩⟩
    · intro oo hop LL xx ac sg hwant
      cases Option.some.inj hop
      have hG : (!(!(isTickV now who))) = false := (want_f rfl rfl (sg.slot 4 (sg.anc 4 rfl))).symm.trans hwant
      exact ⟨cF hG, fun _ h => h⟩
    · intro oo hop LL xx ac sg hwant
      cases Option.some.inj hop
      have hG : (!(!(isTickV now who))) = false := (want_f rfl rfl (sg.slot 4 (sg.anc 4 rfl))).symm.trans hwant
      exact ⟨cF hG, fun _ h => h⟩
    · intro oo hop LL xx ac sg hwant
      cases Option.some.inj hop
      have hG : (!(!(isTickV now who))) = false := (want_f rfl rfl (sg.slot 4 (sg.anc 4 rfl))).symm.trans hwant
      exact ⟨cF hG, fun _ h => h⟩
    · intro oo hop LL xx ac sg hwant
      cases Option.some.inj hop
      have hG : (!(!(isTickV now who))) = false := (want_f rfl rfl (sg.slot 4 (sg.anc 4 rfl))).symm.trans hwant
      exact ⟨cF hG, fun _ h => h⟩
    · intro oo hop LL xx ac sg hwant
      cases Option.some.inj hop
      have hG : (!(!(isTickV now who))) = false := (want_f rfl rfl (sg.slot 4 (sg.anc 4 rfl))).symm.trans hwant
      exact ⟨cF hG, fun _ h => h⟩
    · intro oo hop LL xx ac sg hwant
      cases Option.some.inj hop
      have hG : (!(!(isTickV now who))) = false := (want_f rfl rfl (sg.slot 4 (sg.anc 4 rfl))).symm.trans hwant
      exact ⟨cF hG, fun _ h => h⟩
  · intro xx ac1 wz hfr hsl hst
    exact hfin ac1 wz (hfr.size.trans hz) hfr.defers (fr_keep hfr [15, 16, 17, 18, 19, 20, 21, 22, 23, 24, 25, 26] (by kernel_rfl)) (hsl 11 (by decide)) (Lib.hid hst)
set_option maxRecDepth 20000 in
theorem lookC_r2 (c : Cfg) (room : Int) (a : Option Addr) (cc : Nat) (ps : List PairV) (key : Int) (hk0 : 0 ≤ key) (hk1 : key ≤ 18446744073709551615) (hb : ps.length ≤ 1000000) (b5 : Nat) {wa wb : World} (H : Hid (Hp [] wa wb [rB b5 84 (kL c room (.slice a ps.length cc)), rS a cc 4 (ps.map rowOf)])) (ac0 : Act) (hz : ac0.tmps.size = 57)  {QR : Exit → Act → World → Prop} (hfin : ∀ (ac1 : Act) (wz : World), ac1.tmps.size = 57 → ac1.defers = ac0.defers → (∀ t, ([10, 11] : List Nat).contains t = false → ac1.eval (.tmp t) = ac0.eval (.tmp t)) → ac1.eval (.tmp 10) = .string (⟨#[]⟩ : ByteArray) → ac1.eval (.tmp 11) = .int .i64 4 →  Hid (Hp [] wa wz [rB b5 84 (kL c room (.slice a ps.length cc)), rS a cc 4 (ps.map rowOf)]) → QR .normal ac1 wz) : (regAt Try.f48 2).wp Try.prog QR ac0 wb := by
  refine wp_region_sq (by kernel_rfl) 57 hz (by kernel_rfl) (fun (xx : Unit) jx => nth [.string (⟨#[]⟩ : ByteArray), .int .i64 4] jx) (fun (LL : Nat → Bool) (xx : Unit) ww => Hp [] wa ww [rB b5 84 (kL c room (.slice a ps.length cc)), rS a cc 4 (ps.map rowOf)]) () H.out ?_ (steps_al ?_) ?_ ?_
  · exact fun _ _ _ _ _ h => h
  · refine al_cons ?_ (al_cons ?_ (al_nil))
    · intro LL xx ac wc sg hst hwant QQ hgo
      exact op_val hwant hgo hst _ (exec_assign rfl rfl) rfl
    · intro LL xx ac wc sg hst hwant QQ hgo
      exact op_val hwant hgo hst _ (exec_assign rfl rfl) rfl
  · exact skips [] (by kernel_rfl) (fun _ h => by cases h)
  · intro xx ac1 wz hfr hsl hst
    exact hfin ac1 wz (hfr.size.trans hz) hfr.defers (fr_keep hfr [10, 11] (by kernel_rfl)) (hsl 0 (by decide)) (hsl 1 (by decide)) (Lib.hid hst)
set_option maxRecDepth 20000 in
theorem lookC_r3 (c : Cfg) (room : Int) (a : Option Addr) (cc : Nat) (ps : List PairV) (now : Int) (key : Int) (hk0 : 0 ≤ key) (hk1 : key ≤ 18446744073709551615) (hb : ps.length ≤ 1000000) (b5 : Nat) {wa wb : World} (H : Hid (Hp [] wa wb [rB b5 84 (kL c room (.slice a ps.length cc)), rS a cc 4 (ps.map rowOf)])) (ac0 : Act) (hz : ac0.tmps.size = 57) (so1 : ac0.eval (.tmp 1) = .int .i64 now) (so5 : ac0.eval (.tmp 5) = .pointer (some ⟨b5, 0, none⟩)) {QR : Exit → Act → World → Prop} (hfin : ∀ (a3_2 : Option Addr) (c3_2 : Nat) (b12 : Nat) (ac1 : Act) (wz : World), ac1.tmps.size = 57 → ac1.defers = ac0.defers → (∀ t, ([12, 27, 28, 29] : List Nat).contains t = false → ac1.eval (.tmp t) = ac0.eval (.tmp t)) → ac1.eval (.tmp 12) = .pointer (some ⟨b12, 0, none⟩) →  Hid (Hp [] wa wz [rB b12 82 [.int .i64 room, .slice a3_2 ((ps.filter (keepB c now)).length) c3_2], rP (From wa [] (rS a3_2 c3_2 4 ((ps.filter (keepB c now)).map rowOf)).foot), rS a3_2 c3_2 4 ((ps.filter (keepB c now)).map rowOf), rB b5 84 (kL c room (.slice a ps.length cc)), rS a cc 4 (ps.map rowOf)]) → QR .normal ac1 wz) : (regAt Try.f48 3).wp Try.prog QR ac0 wb := by
  refine wp_region_sq (by kernel_rfl) 57 hz (by kernel_rfl) (fun (xx : Option Addr × Nat × Nat) jx => match xx with | (a3_2, c3_2, b12) => nth [.agg (kA c room (.slice a ps.length cc)), .int .i64 now, .agg #[.int .i64 room, .slice a3_2 ((ps.filter (keepB c now)).length) c3_2], .pointer (some ⟨b12, 0, none⟩), undef] jx) (fun (LL : Nat → Bool) (xx : Option Addr × Nat × Nat) ww => match xx with | (a3_2, c3_2, b12) => Hp [] wa ww (bif LL 4 then [rB b12 82 [.int .i64 room, .slice a3_2 ((ps.filter (keepB c now)).length) c3_2], rP (From wa [] (rS a3_2 c3_2 4 ((ps.filter (keepB c now)).map rowOf)).foot), rS a3_2 c3_2 4 ((ps.filter (keepB c now)).map rowOf), rB b5 84 (kL c room (.slice a ps.length cc)), rS a cc 4 (ps.map rowOf)] else (bif LL 3 then [rB b12 82 [.int .i64 0, .slice none 0 0], rP (From wa [] (rS a3_2 c3_2 4 ((ps.filter (keepB c now)).map rowOf)).foot), rS a3_2 c3_2 4 ((ps.filter (keepB c now)).map rowOf), rB b5 84 (kL c room (.slice a ps.length cc)), rS a cc 4 (ps.map rowOf)] else (bif LL 2 then [rP (From wa [] (rS a3_2 c3_2 4 ((ps.filter (keepB c now)).map rowOf)).foot), rS a3_2 c3_2 4 ((ps.filter (keepB c now)).map rowOf), rB b5 84 (kL c room (.slice a ps.length cc)), rS a cc 4 (ps.map rowOf)] else [rB b5 84 (kL c room (.slice a ps.length cc)), rS a cc 4 (ps.map rowOf)])))) (default, default, default) H.out ?_ (steps_al ?_) ?_ ?_
  · intro L1 L2 xx ww hL sg
    have lh2 := hL 2 (by decide)
    have lh3 := hL 3 (by decide)
    have lh4 := hL 4 (by decide)
    simp only [lh2, lh3, lh4] at sg
    exact sg
  · refine al_cons ?_ (al_cons ?_ (al_cons ?_ (al_cons ?_ (al_cons ?_ (al_nil)))))
    · intro LL xx ac wc sg hst hwant QQ hgo
      obtain ⟨a3_2, c3_2, b12⟩ := xx
      have H := Lib.hid hst
      simp only [sg.des 2 rfl, sg.des 3 rfl, sg.des 4 rfl, cond_true, cond_false] at H
      refine hpA_load tykeys_Keys H rfl ((sg.free 5 (by kernel_rfl)).trans so5) hwant (by (repeat (first | exact List.Mem.head _ | apply List.Mem.tail))) (by rfl) rfl ?_
      exact hgo _ (a3_2, c3_2, b12) _ (fun _ _ => rfl) rfl hst
    · intro LL xx ac wc sg hst hwant QQ hgo
      obtain ⟨a3_2, c3_2, b12⟩ := xx
      exact op_val hwant hgo hst _ (exec_move rfl ((sg.free 1 (by kernel_rfl)).trans so1)) rfl
    · intro LL xx ac wc sg hst hwant QQ hgo
      obtain ⟨_, _, b12⟩ := xx
      have se27 : ac.eval (.tmp 27) = _ := (sg.slot 0 (sg.anc 0 rfl))
      have sg27 := gt_of se27
      have se28 : ac.eval (.tmp 28) = _ := (sg.slot 1 (sg.anc 1 rfl))
      have sg28 := gt_of se28
      (try simp only [nth] at se27 sg27 se28 sg28)
      have H := Lib.hid hst
      simp only [sg.self, sg.des 3 rfl, sg.des 4 rfl, cond_true, cond_false] at H
      refine op_call hwant hgo 77 _ (by simp only [execOp]; go_simp) (countsC c now room a cc ps wc (hp_held H (by (repeat (first | exact List.Mem.head _ | apply List.Mem.tail)))) hb) ?_
      rintro er wd ⟨a3_2, c3_2, rfl, hgv⟩
      have H2 := hp_got H hgv.2.2 hgv.1 (by decide) hgv.2.1 (by simp)
      replace H2 := hp_fact H2 (p := From wa [] (rS a3_2 c3_2 4 ((ps.filter (keepB c now)).map rowOf)).foot) (from_trans hgv.2.1 H.out.off (fun r hr => by cases hr))
      exact ⟨_, (a3_2, c3_2, b12), rfl, (sg.agree (x' := (a3_2, c3_2, b12)) (n := 5) rfl (by (iterate 5 (refine ix_cons (by first | exact fun _ => rfl | exact no sg.self | exact no (sg.des _ rfl)) ?_)); exact ix_nil)), rfl, (by simp only [(show upd LL 2 2 = true from rfl), (show upd LL 2 3 = LL 3 from rfl), sg.des 3 rfl, (show upd LL 2 4 = LL 4 from rfl), sg.des 4 rfl, cond_true, cond_false]; exact H2.out)⟩
    · intro LL xx ac wc sg hst hwant QQ hgo
      obtain ⟨a3_2, c3_2, _⟩ := xx
      have H := Lib.hid hst
      simp only [sg.anc 2 rfl, sg.self, sg.des 4 rfl, cond_true, cond_false] at H
      refine hpA_alloc tyshelf_Shelf_string__keys_entry_ H rfl rfl ?_
      intro wd b12 H2
      exact hgo _ (a3_2, c3_2, b12) _ (sg.agree (x' := (a3_2, c3_2, b12)) (n := 5) rfl (by (iterate 5 (refine ix_cons (by first | exact fun _ => rfl | exact no sg.self | exact no (sg.des _ rfl)) ?_)); exact ix_nil)) rfl (by simp only [(show upd LL 3 2 = LL 2 from rfl), sg.anc 2 rfl, (show upd LL 3 3 = true from rfl), (show upd LL 3 4 = LL 4 from rfl), sg.des 4 rfl, cond_true, cond_false]; exact H2.out)
    · intro LL xx ac wc sg hst hwant QQ hgo
      obtain ⟨a3_2, c3_2, b12⟩ := xx
      have H := Lib.hid hst
      simp only [sg.anc 2 rfl, sg.anc 3 rfl, sg.self, cond_true, cond_false] at H
      refine hpA_store tyshelf_Shelf_string__keys_entry_ H rfl rfl (sg.slot 3 (sg.anc 3 rfl)) (sg.slot 2 (sg.anc 2 rfl)) rfl (by repeat (first | apply Put.head | apply Put.tail)) (by simp [kA, kL, rkA, rkL, cA, cL]) (by simp [kA, kL, rkA, rkL, cA, cL, Value.oneCell']) (by first | rfl | (simp only [spl]; rfl)) rfl ?_
      intro wd H2
      exact hgo _ (a3_2, c3_2, b12) _ (sg.agree (x' := (a3_2, c3_2, b12)) (n := 5) rfl (by (iterate 5 (refine ix_cons (by first | exact fun _ => rfl | exact no sg.self | exact no (sg.des _ rfl)) ?_)); exact ix_nil)) rfl (by simp only [(show upd LL 4 2 = LL 2 from rfl), sg.anc 2 rfl, (show upd LL 4 3 = LL 3 from rfl), sg.anc 3 rfl, (show upd LL 4 4 = true from rfl), cond_true, cond_false]; exact H2.out)
  · exact skips [] (by kernel_rfl) (fun _ h => by cases h)
  · intro xx ac1 wz hfr hsl hst
    obtain ⟨a3_2, c3_2, b12⟩ := xx
    exact hfin a3_2 c3_2 b12 ac1 wz (hfr.size.trans hz) hfr.defers (fr_keep hfr [12, 27, 28, 29] (by kernel_rfl)) (hsl 3 (by decide)) (Lib.hid hst)
set_option maxRecDepth 20000 in
theorem lookC_r4 (c : Cfg) (room : Int) (a : Option Addr) (cc : Nat) (ps : List PairV) (now : Int) (who : Int) (key : Int) (body : ByteArray) (hk0 : 0 ≤ key) (hk1 : key ≤ 18446744073709551615) (hs : Hid (Sorted ps)) (hb : ps.length ≤ 1000000) (b5 : Nat) (a3_2 : Option Addr) (c3_2 : Nat) (b12 : Nat) {wa wb : World} (H : Hid (Hp [] wa wb [rB b12 82 [.int .i64 room, .slice a3_2 ((ps.filter (keepB c now)).length) c3_2], rP (From wa [] (rS a3_2 c3_2 4 ((ps.filter (keepB c now)).map rowOf)).foot), rS a3_2 c3_2 4 ((ps.filter (keepB c now)).map rowOf), rB b5 84 (kL c room (.slice a ps.length cc)), rS a cc 4 (ps.map rowOf)])) (ac0 : Act) (hz : ac0.tmps.size = 57) (so2 : ac0.eval (.tmp 2) = .int .i64 who) (so3 : ac0.eval (.tmp 3) = .int .u64 key) (so12 : ac0.eval (.tmp 12) = .pointer (some ⟨b12, 0, none⟩)) {QR : Exit → Act → World → Prop} (hfin : ∀ (b13 : Nat) (ac1 : Act) (wz : World), ac1.tmps.size = 57 → ac1.defers = ac0.defers → (∀ t, ([13, 14, 30, 31, 32, 33, 34, 35, 36, 37] : List Nat).contains t = false → ac1.eval (.tmp t) = ac0.eval (.tmp t)) → ac1.eval (.tmp 13) = .pointer (some ⟨b13, 0, none⟩) → ac1.eval (.tmp 14) = .bool ((getV (nameV who key) (ps.filter (keepB c now))).2) →  Hid (Hp [] wa wz [rB b13 127 [.int .i64 ((getV (nameV who key) (ps.filter (keepB c now))).1.stamp), .string ((getV (nameV who key) (ps.filter (keepB c now))).1.body), .string ((getV (nameV who key) (ps.filter (keepB c now))).1.answer)], rB b12 82 [.int .i64 room, .slice a3_2 ((ps.filter (keepB c now)).length) c3_2], rP (From wa [] (rS a3_2 c3_2 4 ((ps.filter (keepB c now)).map rowOf)).foot), rS a3_2 c3_2 4 ((ps.filter (keepB c now)).map rowOf), rB b5 84 (kL c room (.slice a ps.length cc)), rS a cc 4 (ps.map rowOf)]) → QR .normal ac1 wz) : (regAt Try.f48 4).wp Try.prog QR ac0 wb := by
  refine wp_region_st mixedP ⟨[0, 0, 0, 1, 2, 3, 4, 4, 0, 5, 6], by kernel_rfl⟩ [[], [], [], [1, 2], [0, 1, 2, 3], [0, 1, 2, 3, 4], [0, 1, 2, 3, 4, 5], [0, 1, 2, 3, 4, 5], [], [0, 1, 2, 3, 4, 5, 6, 8], [0, 1, 2, 3, 4, 5, 6, 7, 8, 9]] (by kernel_rfl) (by kernel_rfl) 57 hz (by kernel_rfl) (fun (xx : Nat) jx => match xx with | b13 => nth [.agg #[.int .i64 room, .slice a3_2 ((ps.filter (keepB c now)).length) c3_2], .int .i64 who, .int .u64 key, .string (nameV who key), .tuple #[.agg #[.int .i64 ((getV (nameV who key) (ps.filter (keepB c now))).1.stamp), .string ((getV (nameV who key) (ps.filter (keepB c now))).1.body), .string ((getV (nameV who key) (ps.filter (keepB c now))).1.answer)], .bool ((getV (nameV who key) (ps.filter (keepB c now))).2)], .tuple #[.agg #[.int .i64 ((getV (nameV who key) (ps.filter (keepB c now))).1.stamp), .string ((getV (nameV who key) (ps.filter (keepB c now))).1.body), .string ((getV (nameV who key) (ps.filter (keepB c now))).1.answer)], .bool ((getV (nameV who key) (ps.filter (keepB c now))).2)], .agg #[.int .i64 ((getV (nameV who key) (ps.filter (keepB c now))).1.stamp), .string ((getV (nameV who key) (ps.filter (keepB c now))).1.body), .string ((getV (nameV who key) (ps.filter (keepB c now))).1.answer)], .bool ((getV (nameV who key) (ps.filter (keepB c now))).2), .pointer (some ⟨b13, 0, none⟩), undef, .bool ((getV (nameV who key) (ps.filter (keepB c now))).2)] jx) (fun (LL : Nat → Bool) (xx : Nat) ww => match xx with | b13 => Hp [] wa ww (bif LL 8 then (bif LL 9 then [rB b13 127 [.int .i64 ((getV (nameV who key) (ps.filter (keepB c now))).1.stamp), .string ((getV (nameV who key) (ps.filter (keepB c now))).1.body), .string ((getV (nameV who key) (ps.filter (keepB c now))).1.answer)], rB b12 82 [.int .i64 room, .slice a3_2 ((ps.filter (keepB c now)).length) c3_2], rP (From wa [] (rS a3_2 c3_2 4 ((ps.filter (keepB c now)).map rowOf)).foot), rS a3_2 c3_2 4 ((ps.filter (keepB c now)).map rowOf), rB b5 84 (kL c room (.slice a ps.length cc)), rS a cc 4 (ps.map rowOf)] else [rB b13 127 [.int .i64 0, .string (⟨#[]⟩ : ByteArray), .string (⟨#[]⟩ : ByteArray)], rB b12 82 [.int .i64 room, .slice a3_2 ((ps.filter (keepB c now)).length) c3_2], rP (From wa [] (rS a3_2 c3_2 4 ((ps.filter (keepB c now)).map rowOf)).foot), rS a3_2 c3_2 4 ((ps.filter (keepB c now)).map rowOf), rB b5 84 (kL c room (.slice a ps.length cc)), rS a cc 4 (ps.map rowOf)]) else [rB b12 82 [.int .i64 room, .slice a3_2 ((ps.filter (keepB c now)).length) c3_2], rP (From wa [] (rS a3_2 c3_2 4 ((ps.filter (keepB c now)).map rowOf)).foot), rS a3_2 c3_2 4 ((ps.filter (keepB c now)).map rowOf), rB b5 84 (kL c room (.slice a ps.length cc)), rS a cc 4 (ps.map rowOf)])) default H.out.drew ?_ (steps_al ?_) ?_ ?_
  · intro L1 L2 xx ww hL sg
    have lh8 := hL 8 (by decide)
    have lh9 := hL 9 (by decide)
    simp only [lh8, lh9] at sg
    exact sg
  · refine al_cons ?_ (al_cons ?_ (al_cons ?_ (al_cons ?_ (al_cons ?_ (al_cons ?_ (al_cons ?_ (al_cons ?_ (al_cons ?_ (al_cons ?_ (al_cons ?_ (al_nil)))))))))))
    · intro LL xx ac wc sg hst hwant QQ hgo
      revert sg hst hgo; revert xx; intro b13 sg hst hgo
      rcases Bool.eq_false_or_eq_true (LL 8) with lh8 | lh8
      · skip
        have H := Lib.hid hst
        simp only [lh8, sg.des 9 rfl, cond_true, cond_false] at H
        refine hpA_load tyshelf_Shelf_string__keys_entry_ H rfl ((sg.free 12 (by kernel_rfl)).trans so12) hwant (by (repeat (first | exact List.Mem.head _ | apply List.Mem.tail))) (by rfl) rfl ?_
        exact hgo _ b13 _ (fun _ _ => rfl) rfl hst
      · skip
        have H := Lib.hid hst
        simp only [lh8, sg.des 9 rfl, cond_true, cond_false] at H
        refine hpA_load tyshelf_Shelf_string__keys_entry_ H rfl ((sg.free 12 (by kernel_rfl)).trans so12) hwant (by (repeat (first | exact List.Mem.head _ | apply List.Mem.tail))) (by rfl) rfl ?_
        exact hgo _ b13 _ (fun _ _ => rfl) rfl hst
    · intro LL xx ac wc sg hst hwant QQ hgo
      revert sg hst hgo; revert xx; intro b13 sg hst hgo
      exact op_val hwant hgo hst _ (exec_move rfl ((sg.free 2 (by kernel_rfl)).trans so2)) rfl
    · intro LL xx ac wc sg hst hwant QQ hgo
      revert sg hst hgo; revert xx; intro b13 sg hst hgo
      exact op_val hwant hgo hst _ (exec_move rfl ((sg.free 3 (by kernel_rfl)).trans so3)) rfl
    · intro LL xx ac wc sg hst hwant QQ hgo
      revert sg hst hgo; revert xx; intro b13 sg hst hgo
      have se32 : ac.eval (.tmp 32) = _ := (sg.slot 1 (sg.anc 1 rfl))
      have sg32 := gt_of se32
      have se33 : ac.eval (.tmp 33) = _ := (sg.slot 2 (sg.anc 2 rfl))
      have sg33 := gt_of se33
      (try simp only [nth] at se32 sg32 se33 sg33)
      refine op_call hwant hgo 79 _ (by simp only [execOp]; go_simp) (nameC who key wc hk0 hk1 (and_low32 _ hk0 (by omega))) ?_
      rintro er wd ⟨rfl, hof⟩
      exact ⟨_, b13, rfl, fun _ _ => rfl, rfl, Hp.quiet hst hof⟩
    · intro LL xx ac wc sg hst hwant QQ hgo
      revert sg hst hgo; revert xx; intro b13 sg hst hgo
      have se31 : ac.eval (.tmp 31) = _ := (sg.slot 0 (sg.anc 0 rfl))
      have sg31 := gt_of se31
      have se34 : ac.eval (.tmp 34) = _ := (sg.slot 3 (sg.anc 3 rfl))
      have sg34 := gt_of se34
      (try simp only [nth] at se31 sg31 se34 sg34)
      rcases Bool.eq_false_or_eq_true (LL 8) with lh8 | lh8
      · skip
        have H := Lib.hid hst
        simp only [lh8, sg.des 9 rfl, cond_true, cond_false] at H
        refine op_call hwant hgo 78 _ (by simp only [execOp]; go_simp) (getC room a3_2 c3_2 (ps.filter (keepB c now)) (nameV who key) wc (hp_held H (by (repeat (first | exact List.Mem.head _ | apply List.Mem.tail)))) (sorted_keep hs.out _) (few_keep hb)) ?_
        rintro er wd ⟨rfl, hof⟩
        exact ⟨_, b13, rfl, fun _ _ => rfl, rfl, Hp.quiet hst hof⟩
      · skip
        have H := Lib.hid hst
        simp only [lh8, sg.des 9 rfl, cond_true, cond_false] at H
        refine op_call hwant hgo 78 _ (by simp only [execOp]; go_simp) (getC room a3_2 c3_2 (ps.filter (keepB c now)) (nameV who key) wc (hp_held H (by (repeat (first | exact List.Mem.head _ | apply List.Mem.tail)))) (sorted_keep hs.out _) (few_keep hb)) ?_
        rintro er wd ⟨rfl, hof⟩
        exact ⟨_, b13, rfl, fun _ _ => rfl, rfl, Hp.quiet hst hof⟩
    · intro LL xx ac wc sg hst hwant QQ hgo
      revert sg hst hgo; revert xx; intro b13 sg hst hgo
      exact op_val hwant hgo hst _ (exec_move rfl (sg.slot 4 (sg.anc 4 rfl))) rfl
    · intro LL xx ac wc sg hst hwant QQ hgo
      revert sg hst hgo; revert xx; intro b13 sg hst hgo
      have se30 : ac.eval (.tmp 30) = _ := (sg.slot 5 (sg.anc 5 rfl))
      have sg30 := gt_of se30
      (try simp only [nth] at se30 sg30)
      exact op_val hwant hgo hst _ (by simp only [execOp, nth]; go_simp <;> omega) rfl
    · intro LL xx ac wc sg hst hwant QQ hgo
      revert sg hst hgo; revert xx; intro b13 sg hst hgo
      have se30 : ac.eval (.tmp 30) = _ := (sg.slot 5 (sg.anc 5 rfl))
      have sg30 := gt_of se30
      (try simp only [nth] at se30 sg30)
      exact op_val hwant hgo hst _ (by simp only [execOp, nth]; go_simp <;> omega) rfl
    · intro LL xx ac wc sg hst hwant QQ hgo
      revert sg hst hgo; revert xx; intro xold sg hst hgo
      have H := Lib.hid hst
      simp only [sg.self, sg.des 9 rfl, cond_true, cond_false] at H
      refine hpA_alloc tykeys_entry H rfl rfl ?_
      intro wd b13 H2
      exact hgo _ b13 _ (sg.agree (x' := b13) (n := 11) rfl (by (iterate 11 (refine ix_cons (by first | exact fun _ => rfl | exact no sg.self | exact no (sg.des _ rfl)) ?_)); exact ix_nil)) rfl (by simp only [(show upd LL 8 8 = true from rfl), (show upd LL 8 9 = LL 9 from rfl), sg.des 9 rfl, cond_true, cond_false]; exact H2.out)
    · intro LL xx ac wc sg hst hwant QQ hgo
      revert sg hst hgo; revert xx; intro b13 sg hst hgo
      have H := Lib.hid hst
      simp only [sg.anc 8 rfl, sg.self, cond_true, cond_false] at H
      refine hpA_store tykeys_entry H rfl rfl (sg.slot 8 (sg.anc 8 rfl)) (sg.slot 6 (sg.anc 6 rfl)) rfl (by repeat (first | apply Put.head | apply Put.tail)) (by simp [kA, kL, rkA, rkL, cA, cL]) (by simp [kA, kL, rkA, rkL, cA, cL, Value.oneCell']) (by first | rfl | (simp only [spl]; rfl)) rfl ?_
      intro wd H2
      exact hgo _ b13 _ (sg.agree (x' := b13) (n := 11) rfl (by (iterate 11 (refine ix_cons (by first | exact fun _ => rfl | exact no sg.self | exact no (sg.des _ rfl)) ?_)); exact ix_nil)) rfl (by simp only [(show upd LL 9 8 = LL 8 from rfl), sg.anc 8 rfl, (show upd LL 9 9 = true from rfl), cond_true, cond_false]; exact H2.out)
    · intro LL xx ac wc sg hst hwant QQ hgo
      revert sg hst hgo; revert xx; intro b13 sg hst hgo
      exact op_val hwant hgo hst _ (exec_assign rfl (sg.slot 7 (sg.anc 7 rfl))) rfl
  · exact skips [] (by kernel_rfl) (fun _ h => by cases h)
  · intro xx ac1 wz hfr hsl hst
    revert hsl hst; revert xx; intro b13 hsl hst
    exact hfin b13 ac1 wz (hfr.size.trans hz) hfr.defers (fr_keep hfr [13, 14, 30, 31, 32, 33, 34, 35, 36, 37] (by kernel_rfl)) (hsl 8 (by decide)) (hsl 10 (by decide)) (Lib.hid hst)
set_option maxRecDepth 20000 in
theorem lookC_r5 (c : Cfg) (room : Int) (a : Option Addr) (cc : Nat) (ps : List PairV) (now : Int) (who : Int) (key : Int) (body : ByteArray) (hk0 : 0 ≤ key) (hk1 : key ≤ 18446744073709551615) (hb : ps.length ≤ 1000000) (b5 : Nat) (a3_2 : Option Addr) (c3_2 : Nat) (b12 : Nat) (b13 : Nat) {wa wb : World} (H : Hid (Hp [] wa wb [rB b13 127 [.int .i64 ((getV (nameV who key) (ps.filter (keepB c now))).1.stamp), .string ((getV (nameV who key) (ps.filter (keepB c now))).1.body), .string ((getV (nameV who key) (ps.filter (keepB c now))).1.answer)], rB b12 82 [.int .i64 room, .slice a3_2 ((ps.filter (keepB c now)).length) c3_2], rP (From wa [] (rS a3_2 c3_2 4 ((ps.filter (keepB c now)).map rowOf)).foot), rS a3_2 c3_2 4 ((ps.filter (keepB c now)).map rowOf), rB b5 84 (kL c room (.slice a ps.length cc)), rS a cc 4 (ps.map rowOf)])) (ac0 : Act) (hz : ac0.tmps.size = 57) (so4 : ac0.eval (.tmp 4) = .string body) (so13 : ac0.eval (.tmp 13) = .pointer (some ⟨b13, 0, none⟩)) (so14 : ac0.eval (.tmp 14) = .bool ((getV (nameV who key) (ps.filter (keepB c now))).2)) {QR : Exit → Act → World → Prop} (hfin : ∀ (ac1 : Act) (wz : World), ac1.tmps.size = 57 → ac1.defers = ac0.defers → (∀ t, ([38, 39, 40, 41, 42, 43, 44, 45] : List Nat).contains t = false → ac1.eval (.tmp t) = ac0.eval (.tmp t)) → ac1.eval (.tmp 38) = .bool (((getV (nameV who key) (ps.filter (keepB c now))).2) && (((getV (nameV who key) (ps.filter (keepB c now))).1.body).toList == body.toList)) →  Hid (Hp [] wa wz [rB b13 127 [.int .i64 ((getV (nameV who key) (ps.filter (keepB c now))).1.stamp), .string ((getV (nameV who key) (ps.filter (keepB c now))).1.body), .string ((getV (nameV who key) (ps.filter (keepB c now))).1.answer)], rB b12 82 [.int .i64 room, .slice a3_2 ((ps.filter (keepB c now)).length) c3_2], rP (From wa [] (rS a3_2 c3_2 4 ((ps.filter (keepB c now)).map rowOf)).foot), rS a3_2 c3_2 4 ((ps.filter (keepB c now)).map rowOf), rB b5 84 (kL c room (.slice a ps.length cc)), rS a cc 4 (ps.map rowOf)]) → QR .normal ac1 wz) : (regAt Try.f48 5).wp Try.prog QR ac0 wb := by
  refine wp_region_sq (by kernel_rfl) 57 hz (by kernel_rfl) (fun (xx : Unit) jx => nth [.bool ((getV (nameV who key) (ps.filter (keepB c now))).2), .bool ((getV (nameV who key) (ps.filter (keepB c now))).2), bif ((getV (nameV who key) (ps.filter (keepB c now))).2) then .pointer (some ⟨b13, 1, none⟩) else undef, bif ((getV (nameV who key) (ps.filter (keepB c now))).2) then .string ((getV (nameV who key) (ps.filter (keepB c now))).1.body) else undef, bif ((getV (nameV who key) (ps.filter (keepB c now))).2) then .string body else undef, bif ((getV (nameV who key) (ps.filter (keepB c now))).2) then .bool (((getV (nameV who key) (ps.filter (keepB c now))).1.body).toList == body.toList) else undef, .bool (((getV (nameV who key) (ps.filter (keepB c now))).2) && (((getV (nameV who key) (ps.filter (keepB c now))).1.body).toList == body.toList)), .bool (((getV (nameV who key) (ps.filter (keepB c now))).2) && (((getV (nameV who key) (ps.filter (keepB c now))).1.body).toList == body.toList))] jx) (fun (LL : Nat → Bool) (xx : Unit) ww => Hp [] wa ww [rB b13 127 [.int .i64 ((getV (nameV who key) (ps.filter (keepB c now))).1.stamp), .string ((getV (nameV who key) (ps.filter (keepB c now))).1.body), .string ((getV (nameV who key) (ps.filter (keepB c now))).1.answer)], rB b12 82 [.int .i64 room, .slice a3_2 ((ps.filter (keepB c now)).length) c3_2], rP (From wa [] (rS a3_2 c3_2 4 ((ps.filter (keepB c now)).map rowOf)).foot), rS a3_2 c3_2 4 ((ps.filter (keepB c now)).map rowOf), rB b5 84 (kL c room (.slice a ps.length cc)), rS a cc 4 (ps.map rowOf)]) () H.out ?_ (steps_al ?_) ?_ ?_
  · exact fun _ _ _ _ _ h => h
  · refine al_cons ?_ (al_cons ?_ (al_cons ?_ (al_cons ?_ (al_cons ?_ (al_cons ?_ (al_cons ?_ (al_cons ?_ (al_nil))))))))
    · intro LL xx ac wc sg hst hwant QQ hgo
      exact op_val hwant hgo hst _ (exec_move rfl ((sg.free 14 (by kernel_rfl)).trans so14)) rfl
    · intro LL xx ac wc sg hst hwant QQ hgo
      exact op_val hwant hgo hst _ (exec_move rfl (sg.slot 0 (sg.anc 0 rfl))) rfl
    · intro LL xx ac wc sg hst hwant QQ hgo
      have hG : ((getV (nameV who key) (ps.filter (keepB c now))).2) = true := (want_t rfl rfl (sg.slot 1 (sg.anc 1 rfl))).symm.trans hwant
      have se13 : ac.eval (.tmp 13) = _ := ((sg.free 13 (by kernel_rfl)).trans so13)
      have sg13 := gt_of se13
      exact op_val hwant hgo hst _ (by simp only [execOp, nth]; go_simp <;> omega) (cI hG)
    · intro LL xx ac wc sg hst hwant QQ hgo
      have hG : ((getV (nameV who key) (ps.filter (keepB c now))).2) = true := (want_t rfl rfl (sg.slot 1 (sg.anc 1 rfl))).symm.trans hwant
      have H := Lib.hid hst
      refine hpA_load1 tystring H rfl (cT (sg.slot 2 (sg.anc 2 rfl)) hG) hwant (by (repeat (first | exact List.Mem.head _ | apply List.Mem.tail))) (by rfl) ?_
      exact hgo _ () _ (fun _ _ => rfl) (cI hG) hst
    · intro LL xx ac wc sg hst hwant QQ hgo
      have hG : ((getV (nameV who key) (ps.filter (keepB c now))).2) = true := (want_t rfl rfl (sg.slot 1 (sg.anc 1 rfl))).symm.trans hwant
      exact op_val hwant hgo hst _ (exec_move rfl ((sg.free 4 (by kernel_rfl)).trans so4)) (cI hG)
    · intro LL xx ac wc sg hst hwant QQ hgo
      have hG : ((getV (nameV who key) (ps.filter (keepB c now))).2) = true := (want_t rfl rfl (sg.slot 1 (sg.anc 1 rfl))).symm.trans hwant
      have se42 : ac.eval (.tmp 42) = _ := (cT (sg.slot 3 (sg.anc 3 rfl)) hG)
      have sg42 := gt_of se42
      have se43 : ac.eval (.tmp 43) = _ := (cT (sg.slot 4 (sg.anc 4 rfl)) hG)
      have sg43 := gt_of se43
      (try simp only [nth] at se42 sg42 se43 sg43)
      exact op_val hwant hgo hst _ (by simp only [execOp, nth]; go_simp <;> omega) (cI hG)
    · intro LL xx ac wc sg hst hwant QQ hgo
      exact op_val hwant hgo hst (.bool (((getV (nameV who key) (ps.filter (keepB c now))).2) && (((getV (nameV who key) (ps.filter (keepB c now))).1.body).toList == body.toList))) (exec_and (Y := ((getV (nameV who key) (ps.filter (keepB c now))).1.body).toList == body.toList) rfl (sg.slot 1 (sg.anc 1 rfl)) (fun qq => cT (sg.slot 5 (sg.anc 5 rfl)) qq)) rfl
    · intro LL xx ac wc sg hst hwant QQ hgo
      exact op_val hwant hgo hst _ (exec_assign rfl (sg.slot 6 (sg.anc 6 rfl))) rfl
  · refine skips [2, 3, 4, 5] (by kernel_rfl) ?_
    refine List.forall_mem_cons.2 ⟨?_, List.forall_mem_cons.2 ⟨?_, List.forall_mem_cons.2 ⟨?_, List.forall_mem_cons.2 ⟨?_, fun _ h => by cases h⟩⟩⟩⟩
    · intro oo hop LL xx ac sg hwant
      cases Option.some.inj hop
      have hG : ((getV (nameV who key) (ps.filter (keepB c now))).2) = false := (want_t rfl rfl (sg.slot 1 (sg.anc 1 rfl))).symm.trans hwant
      exact ⟨cF hG, fun _ h => h⟩
    · intro oo hop LL xx ac sg hwant
      cases Option.some.inj hop
      have hG : ((getV (nameV who key) (ps.filter (keepB c now))).2) = false := (want_t rfl rfl (sg.slot 1 (sg.anc 1 rfl))).symm.trans hwant
      exact ⟨cF hG, fun _ h => h⟩
    · intro oo hop LL xx ac sg hwant
      cases Option.some.inj hop
      have hG : ((getV (nameV who key) (ps.filter (keepB c now))).2) = false := (want_t rfl rfl (sg.slot 1 (sg.anc 1 rfl))).symm.trans hwant
      exact ⟨cF hG, fun _ h => h⟩
    · intro oo hop LL xx ac sg hwant
      cases Option.some.inj hop
      have hG : ((getV (nameV who key) (ps.filter (keepB c now))).2) = false := (want_t rfl rfl (sg.slot 1 (sg.anc 1 rfl))).symm.trans hwant
      exact ⟨cF hG, fun _ h => h⟩
  · intro xx ac1 wz hfr hsl hst
    exact hfin ac1 wz (hfr.size.trans hz) hfr.defers (fr_keep hfr [38, 39, 40, 41, 42, 43, 44, 45] (by kernel_rfl)) (hsl 7 (by decide)) (Lib.hid hst)
set_option maxRecDepth 20000 in
theorem lookC_r6 (c : Cfg) (room : Int) (a : Option Addr) (cc : Nat) (ps : List PairV) (now : Int) (who : Int) (key : Int) (body : ByteArray) (hk0 : 0 ≤ key) (hk1 : key ≤ 18446744073709551615) (hb : ps.length ≤ 1000000) (b5 : Nat) (a3_2 : Option Addr) (c3_2 : Nat) (b12 : Nat) (b13 : Nat) {wa wb : World} (H : Hid (Hp [] wa wb [rB b13 127 [.int .i64 ((getV (nameV who key) (ps.filter (keepB c now))).1.stamp), .string ((getV (nameV who key) (ps.filter (keepB c now))).1.body), .string ((getV (nameV who key) (ps.filter (keepB c now))).1.answer)], rB b12 82 [.int .i64 room, .slice a3_2 ((ps.filter (keepB c now)).length) c3_2], rP (From wa [] (rS a3_2 c3_2 4 ((ps.filter (keepB c now)).map rowOf)).foot), rS a3_2 c3_2 4 ((ps.filter (keepB c now)).map rowOf), rB b5 84 (kL c room (.slice a ps.length cc)), rS a cc 4 (ps.map rowOf)])) (ac0 : Act) (hz : ac0.tmps.size = 57) (so13 : ac0.eval (.tmp 13) = .pointer (some ⟨b13, 0, none⟩)) {QR : Exit → Act → World → Prop} (hfin : ∀ (ac1 : Act) (wz : World), ac1.tmps.size = 57 → ac1.defers = ac0.defers → (∀ t, ([10, 11, 46, 47] : List Nat).contains t = false → ac1.eval (.tmp t) = ac0.eval (.tmp t)) → ac1.eval (.tmp 10) = .string ((getV (nameV who key) (ps.filter (keepB c now))).1.answer) → ac1.eval (.tmp 11) = .int .i64 2 →  Hid (Hp [] wa wz [rB b13 127 [.int .i64 ((getV (nameV who key) (ps.filter (keepB c now))).1.stamp), .string ((getV (nameV who key) (ps.filter (keepB c now))).1.body), .string ((getV (nameV who key) (ps.filter (keepB c now))).1.answer)], rB b12 82 [.int .i64 room, .slice a3_2 ((ps.filter (keepB c now)).length) c3_2], rP (From wa [] (rS a3_2 c3_2 4 ((ps.filter (keepB c now)).map rowOf)).foot), rS a3_2 c3_2 4 ((ps.filter (keepB c now)).map rowOf), rB b5 84 (kL c room (.slice a ps.length cc)), rS a cc 4 (ps.map rowOf)]) → QR .normal ac1 wz) : (regAt Try.f48 6).wp Try.prog QR ac0 wb := by
  refine wp_region_sq (by kernel_rfl) 57 hz (by kernel_rfl) (fun (xx : Unit) jx => nth [.pointer (some ⟨b13, 2, none⟩), .string ((getV (nameV who key) (ps.filter (keepB c now))).1.answer), .string ((getV (nameV who key) (ps.filter (keepB c now))).1.answer), .int .i64 2] jx) (fun (LL : Nat → Bool) (xx : Unit) ww => Hp [] wa ww [rB b13 127 [.int .i64 ((getV (nameV who key) (ps.filter (keepB c now))).1.stamp), .string ((getV (nameV who key) (ps.filter (keepB c now))).1.body), .string ((getV (nameV who key) (ps.filter (keepB c now))).1.answer)], rB b12 82 [.int .i64 room, .slice a3_2 ((ps.filter (keepB c now)).length) c3_2], rP (From wa [] (rS a3_2 c3_2 4 ((ps.filter (keepB c now)).map rowOf)).foot), rS a3_2 c3_2 4 ((ps.filter (keepB c now)).map rowOf), rB b5 84 (kL c room (.slice a ps.length cc)), rS a cc 4 (ps.map rowOf)]) () H.out ?_ (steps_al ?_) ?_ ?_
  · exact fun _ _ _ _ _ h => h
  · refine al_cons ?_ (al_cons ?_ (al_cons ?_ (al_cons ?_ (al_nil))))
    · intro LL xx ac wc sg hst hwant QQ hgo
      have se13 : ac.eval (.tmp 13) = _ := ((sg.free 13 (by kernel_rfl)).trans so13)
      have sg13 := gt_of se13
      exact op_val hwant hgo hst _ (by simp only [execOp, nth]; go_simp <;> omega) rfl
    · intro LL xx ac wc sg hst hwant QQ hgo
      have H := Lib.hid hst
      refine hpA_load1 tystring H rfl (sg.slot 0 (sg.anc 0 rfl)) hwant (by (repeat (first | exact List.Mem.head _ | apply List.Mem.tail))) (by rfl) ?_
      exact hgo _ () _ (fun _ _ => rfl) rfl hst
    · intro LL xx ac wc sg hst hwant QQ hgo
      exact op_val hwant hgo hst _ (exec_assign rfl (sg.slot 1 (sg.anc 1 rfl))) rfl
    · intro LL xx ac wc sg hst hwant QQ hgo
      exact op_val hwant hgo hst _ (exec_assign rfl rfl) rfl
  · exact skips [] (by kernel_rfl) (fun _ h => by cases h)
  · intro xx ac1 wz hfr hsl hst
    exact hfin ac1 wz (hfr.size.trans hz) hfr.defers (fr_keep hfr [10, 11, 46, 47] (by kernel_rfl)) (hsl 2 (by decide)) (hsl 3 (by decide)) (Lib.hid hst)
set_option maxRecDepth 20000 in
theorem lookC_r7 (c : Cfg) (room : Int) (a : Option Addr) (cc : Nat) (ps : List PairV) (now : Int) (who : Int) (key : Int) (body : ByteArray) (hk0 : 0 ≤ key) (hk1 : key ≤ 18446744073709551615) (hb : ps.length ≤ 1000000) (b5 : Nat) (a3_2 : Option Addr) (c3_2 : Nat) (b12 : Nat) (b13 : Nat) {wa wb : World} (H : Hid (Hp [] wa wb [rB b13 127 [.int .i64 ((getV (nameV who key) (ps.filter (keepB c now))).1.stamp), .string ((getV (nameV who key) (ps.filter (keepB c now))).1.body), .string ((getV (nameV who key) (ps.filter (keepB c now))).1.answer)], rB b12 82 [.int .i64 room, .slice a3_2 ((ps.filter (keepB c now)).length) c3_2], rP (From wa [] (rS a3_2 c3_2 4 ((ps.filter (keepB c now)).map rowOf)).foot), rS a3_2 c3_2 4 ((ps.filter (keepB c now)).map rowOf), rB b5 84 (kL c room (.slice a ps.length cc)), rS a cc 4 (ps.map rowOf)])) (ac0 : Act) (hz : ac0.tmps.size = 57) (so14 : ac0.eval (.tmp 14) = .bool ((getV (nameV who key) (ps.filter (keepB c now))).2)) {QR : Exit → Act → World → Prop} (hfin : ∀ (ac1 : Act) (wz : World), ac1.tmps.size = 57 → ac1.defers = ac0.defers → (∀ t, ([48, 49] : List Nat).contains t = false → ac1.eval (.tmp t) = ac0.eval (.tmp t)) → ac1.eval (.tmp 48) = .bool ((getV (nameV who key) (ps.filter (keepB c now))).2) →  Hid (Hp [] wa wz [rB b13 127 [.int .i64 ((getV (nameV who key) (ps.filter (keepB c now))).1.stamp), .string ((getV (nameV who key) (ps.filter (keepB c now))).1.body), .string ((getV (nameV who key) (ps.filter (keepB c now))).1.answer)], rB b12 82 [.int .i64 room, .slice a3_2 ((ps.filter (keepB c now)).length) c3_2], rP (From wa [] (rS a3_2 c3_2 4 ((ps.filter (keepB c now)).map rowOf)).foot), rS a3_2 c3_2 4 ((ps.filter (keepB c now)).map rowOf), rB b5 84 (kL c room (.slice a ps.length cc)), rS a cc 4 (ps.map rowOf)]) → QR .normal ac1 wz) : (regAt Try.f48 7).wp Try.prog QR ac0 wb := by
  refine wp_region_sq (by kernel_rfl) 57 hz (by kernel_rfl) (fun (xx : Unit) jx => nth [.bool ((getV (nameV who key) (ps.filter (keepB c now))).2), .bool ((getV (nameV who key) (ps.filter (keepB c now))).2)] jx) (fun (LL : Nat → Bool) (xx : Unit) ww => Hp [] wa ww [rB b13 127 [.int .i64 ((getV (nameV who key) (ps.filter (keepB c now))).1.stamp), .string ((getV (nameV who key) (ps.filter (keepB c now))).1.body), .string ((getV (nameV who key) (ps.filter (keepB c now))).1.answer)], rB b12 82 [.int .i64 room, .slice a3_2 ((ps.filter (keepB c now)).length) c3_2], rP (From wa [] (rS a3_2 c3_2 4 ((ps.filter (keepB c now)).map rowOf)).foot), rS a3_2 c3_2 4 ((ps.filter (keepB c now)).map rowOf), rB b5 84 (kL c room (.slice a ps.length cc)), rS a cc 4 (ps.map rowOf)]) () H.out ?_ (steps_al ?_) ?_ ?_
  · exact fun _ _ _ _ _ h => h
  · refine al_cons ?_ (al_cons ?_ (al_nil))
    · intro LL xx ac wc sg hst hwant QQ hgo
      exact op_val hwant hgo hst _ (exec_move rfl ((sg.free 14 (by kernel_rfl)).trans so14)) rfl
    · intro LL xx ac wc sg hst hwant QQ hgo
      exact op_val hwant hgo hst _ (exec_assign rfl (sg.slot 0 (sg.anc 0 rfl))) rfl
  · exact skips [] (by kernel_rfl) (fun _ h => by cases h)
  · intro xx ac1 wz hfr hsl hst
    exact hfin ac1 wz (hfr.size.trans hz) hfr.defers (fr_keep hfr [48, 49] (by kernel_rfl)) (hsl 1 (by decide)) (Lib.hid hst)
set_option maxRecDepth 20000 in
theorem lookC_r8 (c : Cfg) (room : Int) (a : Option Addr) (cc : Nat) (ps : List PairV) (now : Int) (who : Int) (key : Int) (body : ByteArray) (hk0 : 0 ≤ key) (hk1 : key ≤ 18446744073709551615) (hb : ps.length ≤ 1000000) (b5 : Nat) (a3_2 : Option Addr) (c3_2 : Nat) (b12 : Nat) (b13 : Nat) {wa wb : World} (H : Hid (Hp [] wa wb [rB b13 127 [.int .i64 ((getV (nameV who key) (ps.filter (keepB c now))).1.stamp), .string ((getV (nameV who key) (ps.filter (keepB c now))).1.body), .string ((getV (nameV who key) (ps.filter (keepB c now))).1.answer)], rB b12 82 [.int .i64 room, .slice a3_2 ((ps.filter (keepB c now)).length) c3_2], rP (From wa [] (rS a3_2 c3_2 4 ((ps.filter (keepB c now)).map rowOf)).foot), rS a3_2 c3_2 4 ((ps.filter (keepB c now)).map rowOf), rB b5 84 (kL c room (.slice a ps.length cc)), rS a cc 4 (ps.map rowOf)])) (ac0 : Act) (hz : ac0.tmps.size = 57)  {QR : Exit → Act → World → Prop} (hfin : ∀ (ac1 : Act) (wz : World), ac1.tmps.size = 57 → ac1.defers = ac0.defers → (∀ t, ([10, 11] : List Nat).contains t = false → ac1.eval (.tmp t) = ac0.eval (.tmp t)) → ac1.eval (.tmp 10) = .string (⟨#[]⟩ : ByteArray) → ac1.eval (.tmp 11) = .int .i64 3 →  Hid (Hp [] wa wz [rB b13 127 [.int .i64 ((getV (nameV who key) (ps.filter (keepB c now))).1.stamp), .string ((getV (nameV who key) (ps.filter (keepB c now))).1.body), .string ((getV (nameV who key) (ps.filter (keepB c now))).1.answer)], rB b12 82 [.int .i64 room, .slice a3_2 ((ps.filter (keepB c now)).length) c3_2], rP (From wa [] (rS a3_2 c3_2 4 ((ps.filter (keepB c now)).map rowOf)).foot), rS a3_2 c3_2 4 ((ps.filter (keepB c now)).map rowOf), rB b5 84 (kL c room (.slice a ps.length cc)), rS a cc 4 (ps.map rowOf)]) → QR .normal ac1 wz) : (regAt Try.f48 8).wp Try.prog QR ac0 wb := by
  refine wp_region_sq (by kernel_rfl) 57 hz (by kernel_rfl) (fun (xx : Unit) jx => nth [.string (⟨#[]⟩ : ByteArray), .int .i64 3] jx) (fun (LL : Nat → Bool) (xx : Unit) ww => Hp [] wa ww [rB b13 127 [.int .i64 ((getV (nameV who key) (ps.filter (keepB c now))).1.stamp), .string ((getV (nameV who key) (ps.filter (keepB c now))).1.body), .string ((getV (nameV who key) (ps.filter (keepB c now))).1.answer)], rB b12 82 [.int .i64 room, .slice a3_2 ((ps.filter (keepB c now)).length) c3_2], rP (From wa [] (rS a3_2 c3_2 4 ((ps.filter (keepB c now)).map rowOf)).foot), rS a3_2 c3_2 4 ((ps.filter (keepB c now)).map rowOf), rB b5 84 (kL c room (.slice a ps.length cc)), rS a cc 4 (ps.map rowOf)]) () H.out ?_ (steps_al ?_) ?_ ?_
  · exact fun _ _ _ _ _ h => h
  · refine al_cons ?_ (al_cons ?_ (al_nil))
    · intro LL xx ac wc sg hst hwant QQ hgo
      exact op_val hwant hgo hst _ (exec_assign rfl rfl) rfl
    · intro LL xx ac wc sg hst hwant QQ hgo
      exact op_val hwant hgo hst _ (exec_assign rfl rfl) rfl
  · exact skips [] (by kernel_rfl) (fun _ h => by cases h)
  · intro xx ac1 wz hfr hsl hst
    exact hfin ac1 wz (hfr.size.trans hz) hfr.defers (fr_keep hfr [10, 11] (by kernel_rfl)) (hsl 0 (by decide)) (hsl 1 (by decide)) (Lib.hid hst)
set_option maxRecDepth 20000 in
theorem lookC_r9 (c : Cfg) (room : Int) (a : Option Addr) (cc : Nat) (ps : List PairV) (now : Int) (who : Int) (key : Int) (body : ByteArray) (hk0 : 0 ≤ key) (hk1 : key ≤ 18446744073709551615) (hb : ps.length ≤ 1000000) (b5 : Nat) (a3_2 : Option Addr) (c3_2 : Nat) (b12 : Nat) (b13 : Nat) {wa wb : World} (H : Hid (Hp [] wa wb [rB b13 127 [.int .i64 ((getV (nameV who key) (ps.filter (keepB c now))).1.stamp), .string ((getV (nameV who key) (ps.filter (keepB c now))).1.body), .string ((getV (nameV who key) (ps.filter (keepB c now))).1.answer)], rB b12 82 [.int .i64 room, .slice a3_2 ((ps.filter (keepB c now)).length) c3_2], rP (From wa [] (rS a3_2 c3_2 4 ((ps.filter (keepB c now)).map rowOf)).foot), rS a3_2 c3_2 4 ((ps.filter (keepB c now)).map rowOf), rB b5 84 (kL c room (.slice a ps.length cc)), rS a cc 4 (ps.map rowOf)])) (ac0 : Act) (hz : ac0.tmps.size = 57) (so5 : ac0.eval (.tmp 5) = .pointer (some ⟨b5, 0, none⟩)) (so12 : ac0.eval (.tmp 12) = .pointer (some ⟨b12, 0, none⟩)) {QR : Exit → Act → World → Prop} (hfin : ∀ (ac1 : Act) (wz : World), ac1.tmps.size = 57 → ac1.defers = ac0.defers → (∀ t, ([50, 51, 52, 53, 54, 55, 56] : List Nat).contains t = false → ac1.eval (.tmp t) = ac0.eval (.tmp t)) → ac1.eval (.tmp 50) = .bool (((ps.filter (keepB c now)).length : Int) == c.keys) →  Hid (Hp [] wa wz [rB b13 127 [.int .i64 ((getV (nameV who key) (ps.filter (keepB c now))).1.stamp), .string ((getV (nameV who key) (ps.filter (keepB c now))).1.body), .string ((getV (nameV who key) (ps.filter (keepB c now))).1.answer)], rB b12 82 [.int .i64 room, .slice a3_2 ((ps.filter (keepB c now)).length) c3_2], rP (From wa [] (rS a3_2 c3_2 4 ((ps.filter (keepB c now)).map rowOf)).foot), rS a3_2 c3_2 4 ((ps.filter (keepB c now)).map rowOf), rB b5 84 (kL c room (.slice a ps.length cc)), rS a cc 4 (ps.map rowOf)]) → QR .normal ac1 wz) : (regAt Try.f48 9).wp Try.prog QR ac0 wb := by
  refine wp_region_st mixedP ⟨[0, 1, 0, 1, 2, 3, 4], by kernel_rfl⟩ [[], [0], [], [2], [2, 3], [0, 1, 2, 3, 4], [0, 1, 2, 3, 4, 5]] (by kernel_rfl) (by kernel_rfl) 57 hz (by kernel_rfl) (fun (xx : Unit) jx => nth [.agg #[.int .i64 room, .slice a3_2 ((ps.filter (keepB c now)).length) c3_2], .int .i64 ((ps.filter (keepB c now)).length), .pointer (some ⟨b5, 0, none⟩), .pointer (some ⟨b5, 5, none⟩), .int .i64 c.keys, .bool (((ps.filter (keepB c now)).length : Int) == c.keys), .bool (((ps.filter (keepB c now)).length : Int) == c.keys)] jx) (fun (LL : Nat → Bool) (xx : Unit) ww => Hp [] wa ww [rB b13 127 [.int .i64 ((getV (nameV who key) (ps.filter (keepB c now))).1.stamp), .string ((getV (nameV who key) (ps.filter (keepB c now))).1.body), .string ((getV (nameV who key) (ps.filter (keepB c now))).1.answer)], rB b12 82 [.int .i64 room, .slice a3_2 ((ps.filter (keepB c now)).length) c3_2], rP (From wa [] (rS a3_2 c3_2 4 ((ps.filter (keepB c now)).map rowOf)).foot), rS a3_2 c3_2 4 ((ps.filter (keepB c now)).map rowOf), rB b5 84 (kL c room (.slice a ps.length cc)), rS a cc 4 (ps.map rowOf)]) () H.out.drew ?_ (steps_al ?_) ?_ ?_
  · exact fun _ _ _ _ _ h => h
  · refine al_cons ?_ (al_cons ?_ (al_cons ?_ (al_cons ?_ (al_cons ?_ (al_cons ?_ (al_cons ?_ (al_nil)))))))
    · intro LL xx ac wc sg hst hwant QQ hgo
      have H := Lib.hid hst
      refine hpA_load tyshelf_Shelf_string__keys_entry_ H rfl ((sg.free 12 (by kernel_rfl)).trans so12) hwant (by (repeat (first | exact List.Mem.head _ | apply List.Mem.tail))) (by rfl) rfl ?_
      exact hgo _ () _ (fun _ _ => rfl) rfl hst
    · intro LL xx ac wc sg hst hwant QQ hgo
      have se51 : ac.eval (.tmp 51) = _ := (sg.slot 0 (sg.anc 0 rfl))
      have sg51 := gt_of se51
      (try simp only [nth] at se51 sg51)
      refine op_call hwant hgo 80 _ (by simp only [execOp]; go_simp) (lenC room a3_2 ((ps.filter (keepB c now)).length) c3_2 wc) ?_
      rintro er wd ⟨rfl, hof⟩
      exact ⟨_, (), rfl, fun _ _ => rfl, rfl, Hp.quiet hst hof⟩
    · intro LL xx ac wc sg hst hwant QQ hgo
      have se5 : ac.eval (.tmp 5) = _ := ((sg.free 5 (by kernel_rfl)).trans so5)
      have sg5 := gt_of se5
      exact op_val hwant hgo hst _ (by simp only [execOp, nth]; go_simp <;> omega) rfl
    · intro LL xx ac wc sg hst hwant QQ hgo
      have se53 : ac.eval (.tmp 53) = _ := (sg.slot 2 (sg.anc 2 rfl))
      have sg53 := gt_of se53
      (try simp only [nth] at se53 sg53)
      exact op_val hwant hgo hst _ (by simp only [execOp, nth]; go_simp <;> omega) rfl
    · intro LL xx ac wc sg hst hwant QQ hgo
      have H := Lib.hid hst
      refine hpA_load1 tyint H rfl (sg.slot 3 (sg.anc 3 rfl)) hwant (by (repeat (first | exact List.Mem.head _ | apply List.Mem.tail))) (by rfl) ?_
      exact hgo _ () _ (fun _ _ => rfl) rfl hst
    · intro LL xx ac wc sg hst hwant QQ hgo
      have se52 : ac.eval (.tmp 52) = _ := (sg.slot 1 (sg.anc 1 rfl))
      have sg52 := gt_of se52
      have se55 : ac.eval (.tmp 55) = _ := (sg.slot 4 (sg.anc 4 rfl))
      have sg55 := gt_of se55
      (try simp only [nth] at se52 sg52 se55 sg55)
      exact op_val hwant hgo hst _ (by simp only [execOp, nth]; go_simp <;> omega) rfl
    · intro LL xx ac wc sg hst hwant QQ hgo
      exact op_val hwant hgo hst _ (exec_assign rfl (sg.slot 5 (sg.anc 5 rfl))) rfl
  · exact skips [] (by kernel_rfl) (fun _ h => by cases h)
  · intro xx ac1 wz hfr hsl hst
    exact hfin ac1 wz (hfr.size.trans hz) hfr.defers (fr_keep hfr [50, 51, 52, 53, 54, 55, 56] (by kernel_rfl)) (hsl 6 (by decide)) (Lib.hid hst)
set_option maxRecDepth 20000 in
theorem lookC_r10 (c : Cfg) (room : Int) (a : Option Addr) (cc : Nat) (ps : List PairV) (now : Int) (who : Int) (key : Int) (body : ByteArray) (hk0 : 0 ≤ key) (hk1 : key ≤ 18446744073709551615) (hb : ps.length ≤ 1000000) (b5 : Nat) (a3_2 : Option Addr) (c3_2 : Nat) (b12 : Nat) (b13 : Nat) {wa wb : World} (H : Hid (Hp [] wa wb [rB b13 127 [.int .i64 ((getV (nameV who key) (ps.filter (keepB c now))).1.stamp), .string ((getV (nameV who key) (ps.filter (keepB c now))).1.body), .string ((getV (nameV who key) (ps.filter (keepB c now))).1.answer)], rB b12 82 [.int .i64 room, .slice a3_2 ((ps.filter (keepB c now)).length) c3_2], rP (From wa [] (rS a3_2 c3_2 4 ((ps.filter (keepB c now)).map rowOf)).foot), rS a3_2 c3_2 4 ((ps.filter (keepB c now)).map rowOf), rB b5 84 (kL c room (.slice a ps.length cc)), rS a cc 4 (ps.map rowOf)])) (ac0 : Act) (hz : ac0.tmps.size = 57)  {QR : Exit → Act → World → Prop} (hfin : ∀ (ac1 : Act) (wz : World), ac1.tmps.size = 57 → ac1.defers = ac0.defers → (∀ t, ([10, 11] : List Nat).contains t = false → ac1.eval (.tmp t) = ac0.eval (.tmp t)) → ac1.eval (.tmp 10) = .string (⟨#[]⟩ : ByteArray) → ac1.eval (.tmp 11) = .int .i64 5 →  Hid (Hp [] wa wz [rB b13 127 [.int .i64 ((getV (nameV who key) (ps.filter (keepB c now))).1.stamp), .string ((getV (nameV who key) (ps.filter (keepB c now))).1.body), .string ((getV (nameV who key) (ps.filter (keepB c now))).1.answer)], rB b12 82 [.int .i64 room, .slice a3_2 ((ps.filter (keepB c now)).length) c3_2], rP (From wa [] (rS a3_2 c3_2 4 ((ps.filter (keepB c now)).map rowOf)).foot), rS a3_2 c3_2 4 ((ps.filter (keepB c now)).map rowOf), rB b5 84 (kL c room (.slice a ps.length cc)), rS a cc 4 (ps.map rowOf)]) → QR .normal ac1 wz) : (regAt Try.f48 10).wp Try.prog QR ac0 wb := by
  refine wp_region_sq (by kernel_rfl) 57 hz (by kernel_rfl) (fun (xx : Unit) jx => nth [.string (⟨#[]⟩ : ByteArray), .int .i64 5] jx) (fun (LL : Nat → Bool) (xx : Unit) ww => Hp [] wa ww [rB b13 127 [.int .i64 ((getV (nameV who key) (ps.filter (keepB c now))).1.stamp), .string ((getV (nameV who key) (ps.filter (keepB c now))).1.body), .string ((getV (nameV who key) (ps.filter (keepB c now))).1.answer)], rB b12 82 [.int .i64 room, .slice a3_2 ((ps.filter (keepB c now)).length) c3_2], rP (From wa [] (rS a3_2 c3_2 4 ((ps.filter (keepB c now)).map rowOf)).foot), rS a3_2 c3_2 4 ((ps.filter (keepB c now)).map rowOf), rB b5 84 (kL c room (.slice a ps.length cc)), rS a cc 4 (ps.map rowOf)]) () H.out ?_ (steps_al ?_) ?_ ?_
  · exact fun _ _ _ _ _ h => h
  · refine al_cons ?_ (al_cons ?_ (al_nil))
    · intro LL xx ac wc sg hst hwant QQ hgo
      exact op_val hwant hgo hst _ (exec_assign rfl rfl) rfl
    · intro LL xx ac wc sg hst hwant QQ hgo
      exact op_val hwant hgo hst _ (exec_assign rfl rfl) rfl
  · exact skips [] (by kernel_rfl) (fun _ h => by cases h)
  · intro xx ac1 wz hfr hsl hst
    exact hfin ac1 wz (hfr.size.trans hz) hfr.defers (fr_keep hfr [10, 11] (by kernel_rfl)) (hsl 0 (by decide)) (hsl 1 (by decide)) (Lib.hid hst)
set_option maxRecDepth 20000 in
theorem lookC_r11 (c : Cfg) (room : Int) (a : Option Addr) (cc : Nat) (ps : List PairV) (now : Int) (who : Int) (key : Int) (body : ByteArray) (hk0 : 0 ≤ key) (hk1 : key ≤ 18446744073709551615) (hb : ps.length ≤ 1000000) (b5 : Nat) (a3_2 : Option Addr) (c3_2 : Nat) (b12 : Nat) (b13 : Nat) {wa wb : World} (H : Hid (Hp [] wa wb [rB b13 127 [.int .i64 ((getV (nameV who key) (ps.filter (keepB c now))).1.stamp), .string ((getV (nameV who key) (ps.filter (keepB c now))).1.body), .string ((getV (nameV who key) (ps.filter (keepB c now))).1.answer)], rB b12 82 [.int .i64 room, .slice a3_2 ((ps.filter (keepB c now)).length) c3_2], rP (From wa [] (rS a3_2 c3_2 4 ((ps.filter (keepB c now)).map rowOf)).foot), rS a3_2 c3_2 4 ((ps.filter (keepB c now)).map rowOf), rB b5 84 (kL c room (.slice a ps.length cc)), rS a cc 4 (ps.map rowOf)])) (ac0 : Act) (hz : ac0.tmps.size = 57)  {QR : Exit → Act → World → Prop} (hfin : ∀ (ac1 : Act) (wz : World), ac1.tmps.size = 57 → ac1.defers = ac0.defers → (∀ t, ([10, 11] : List Nat).contains t = false → ac1.eval (.tmp t) = ac0.eval (.tmp t)) → ac1.eval (.tmp 10) = .string (⟨#[]⟩ : ByteArray) → ac1.eval (.tmp 11) = .int .i64 1 →  Hid (Hp [] wa wz [rB b13 127 [.int .i64 ((getV (nameV who key) (ps.filter (keepB c now))).1.stamp), .string ((getV (nameV who key) (ps.filter (keepB c now))).1.body), .string ((getV (nameV who key) (ps.filter (keepB c now))).1.answer)], rB b12 82 [.int .i64 room, .slice a3_2 ((ps.filter (keepB c now)).length) c3_2], rP (From wa [] (rS a3_2 c3_2 4 ((ps.filter (keepB c now)).map rowOf)).foot), rS a3_2 c3_2 4 ((ps.filter (keepB c now)).map rowOf), rB b5 84 (kL c room (.slice a ps.length cc)), rS a cc 4 (ps.map rowOf)]) → QR .normal ac1 wz) : (regAt Try.f48 11).wp Try.prog QR ac0 wb := by
  refine wp_region_sq (by kernel_rfl) 57 hz (by kernel_rfl) (fun (xx : Unit) jx => nth [.string (⟨#[]⟩ : ByteArray), .int .i64 1] jx) (fun (LL : Nat → Bool) (xx : Unit) ww => Hp [] wa ww [rB b13 127 [.int .i64 ((getV (nameV who key) (ps.filter (keepB c now))).1.stamp), .string ((getV (nameV who key) (ps.filter (keepB c now))).1.body), .string ((getV (nameV who key) (ps.filter (keepB c now))).1.answer)], rB b12 82 [.int .i64 room, .slice a3_2 ((ps.filter (keepB c now)).length) c3_2], rP (From wa [] (rS a3_2 c3_2 4 ((ps.filter (keepB c now)).map rowOf)).foot), rS a3_2 c3_2 4 ((ps.filter (keepB c now)).map rowOf), rB b5 84 (kL c room (.slice a ps.length cc)), rS a cc 4 (ps.map rowOf)]) () H.out ?_ (steps_al ?_) ?_ ?_
  · exact fun _ _ _ _ _ h => h
  · refine al_cons ?_ (al_cons ?_ (al_nil))
    · intro LL xx ac wc sg hst hwant QQ hgo
      exact op_val hwant hgo hst _ (exec_assign rfl rfl) rfl
    · intro LL xx ac wc sg hst hwant QQ hgo
      exact op_val hwant hgo hst _ (exec_assign rfl rfl) rfl
  · exact skips [] (by kernel_rfl) (fun _ h => by cases h)
  · intro xx ac1 wz hfr hsl hst
    exact hfin ac1 wz (hfr.size.trans hz) hfr.defers (fr_keep hfr [10, 11] (by kernel_rfl)) (hsl 0 (by decide)) (hsl 1 (by decide)) (Lib.hid hst)
set_option maxRecDepth 20000 in
theorem lookC (c : Cfg) (room : Int) (a : Option Addr) (cc : Nat) (ps : List PairV) (now : Int) (who : Int) (key : Int) (body : ByteArray) (w : World) (h : (rS a cc 4 (ps.map rowOf)).holds w) (hk0 : 0 ≤ key) (hk1 : key ≤ 18446744073709551615) (hs : Hid (Sorted ps)) (hb : ps.length ≤ 1000000) : Calls Try.prog 48 #[.agg (kA c room (.slice a ps.length cc)), .int .i64 now, .int .i64 who, .int .u64 key, .string body] w fun e w' => e = .returned (.tuple #[.string (lookV c ps now who key body).1, .int .i64 (lookV c ps now who key body).2]) ∧ Off [] w w' := by
  have H := Lib.hid (Hp.start [] w)
  have H := hp_old H h (by decide)
  clear h
  refine calls_start Try.func48 rfl 57 rfl (by simp) (fun aa nn dd sl => ?_)
  have ss0 : aa.eval (.tmp 0) = .agg (kA c room (.slice a ps.length cc)) := sl 0 (by simp)
  have ss1 : aa.eval (.tmp 1) = .int .i64 now := sl 1 (by simp)
  have ss2 : aa.eval (.tmp 2) = .int .i64 who := sl 2 (by simp)
  have ss3 : aa.eval (.tmp 3) = .int .u64 key := sl 3 (by simp)
  have ss4 : aa.eval (.tmp 4) = .string body := sl 4 (by simp)
  clear sl
  refine wp_seq_k fun KK1 hK1 => ?_
  refine lookC_r0 c room a cc ps key hk0 hk1 hb H aa nn ss0 ?_
  clear H nn
  intro b5 aa ww nn dd1 kp ss5 ss10 ss11 H
  replace ss0 := (kp 0 rfl).trans ss0
  replace ss1 := (kp 1 rfl).trans ss1
  replace ss2 := (kp 2 rfl).trans ss2
  replace ss3 := (kp 3 rfl).trans ss3
  replace ss4 := (kp 4 rfl).trans ss4
  replace dd := dd1.trans dd
  clear dd1 kp
  refine then_normal ?_
  refine hK1 _ _ ?_
  refine wp_seq_k fun KK2 hK2 => ?_
  refine wp_seq_k fun KK3 hK3 => ?_
  refine lookC_r1 c room a cc ps now who key hk0 hk1 hb b5 H aa nn ss1 ss2 ss3 ss5 ?_
  clear H nn
  intro aa ww nn dd1 kp ss26 H
  replace ss0 := (kp 0 rfl).trans ss0
  replace ss1 := (kp 1 rfl).trans ss1
  replace ss2 := (kp 2 rfl).trans ss2
  replace ss3 := (kp 3 rfl).trans ss3
  replace ss4 := (kp 4 rfl).trans ss4
  replace ss5 := (kp 5 rfl).trans ss5
  replace ss10 := (kp 10 rfl).trans ss10
  replace ss11 := (kp 11 rfl).trans ss11
  replace dd := dd1.trans dd
  clear dd1 kp
  refine then_normal ?_
  refine hK3 _ _ ?_
  refine wp_cond_split ss26 (fun z1 => ?_) (fun z1 => ?_)
  · skip
    refine wp_seq_k fun KK4 hK4 => ?_
    refine lookC_r2 c room a cc ps key hk0 hk1 hb b5 H aa nn  ?_
    clear H nn ss10 ss11
    intro aa ww nn dd1 kp ss10 ss11 H
    replace ss0 := (kp 0 rfl).trans ss0
    replace ss1 := (kp 1 rfl).trans ss1
    replace ss2 := (kp 2 rfl).trans ss2
    replace ss3 := (kp 3 rfl).trans ss3
    replace ss4 := (kp 4 rfl).trans ss4
    replace ss5 := (kp 5 rfl).trans ss5
    replace ss26 := (kp 26 rfl).trans ss26
    replace dd := dd1.trans dd
    clear dd1 kp
    refine then_normal ?_
    refine hK4 _ _ ?_
    refine wp_ret ?_
    refine then_ret ?_
    exact ret2 rfl dd ss10 ss11 ⟨by simp only [lookV, z1, cond_true, cond_false, Bool.not_true, Bool.not_false, Bool.true_and, Bool.and_true, Bool.false_and, Bool.and_false, Bool.true_or, Bool.or_true, Bool.false_or, Bool.or_false], H.out.off⟩
  · skip
    have z1l : (!(isTickV now who)) = false := ol z1
    have z1ln : (isTickV now who) = true := bt z1l
    have z1r : (!(isGoodV c key now)) = false := orr z1
    have z1rn : (isGoodV c key now) = true := bt z1r
    refine wp_skip ?_
    refine then_normal ?_
    refine hK2 _ _ ?_
    refine wp_seq_k fun KK5 hK5 => ?_
    refine lookC_r3 c room a cc ps now key hk0 hk1 hb b5 H aa nn ss1 ss5 ?_
    clear H nn
    intro a3_2 c3_2 b12 aa ww nn dd1 kp ss12 H
    replace ss0 := (kp 0 rfl).trans ss0
    replace ss1 := (kp 1 rfl).trans ss1
    replace ss2 := (kp 2 rfl).trans ss2
    replace ss3 := (kp 3 rfl).trans ss3
    replace ss4 := (kp 4 rfl).trans ss4
    replace ss5 := (kp 5 rfl).trans ss5
    replace ss10 := (kp 10 rfl).trans ss10
    replace ss11 := (kp 11 rfl).trans ss11
    replace ss26 := (kp 26 rfl).trans ss26
    replace dd := dd1.trans dd
    clear dd1 kp
    refine then_normal ?_
    refine hK5 _ _ ?_
    refine wp_seq_k fun KK6 hK6 => ?_
    refine lookC_r4 c room a cc ps now who key body hk0 hk1 hs hb b5 a3_2 c3_2 b12 H aa nn ss2 ss3 ss12 ?_
    clear H nn
    intro b13 aa ww nn dd1 kp ss13 ss14 H
    replace ss0 := (kp 0 rfl).trans ss0
    replace ss1 := (kp 1 rfl).trans ss1
    replace ss2 := (kp 2 rfl).trans ss2
    replace ss3 := (kp 3 rfl).trans ss3
    replace ss4 := (kp 4 rfl).trans ss4
    replace ss5 := (kp 5 rfl).trans ss5
    replace ss10 := (kp 10 rfl).trans ss10
    replace ss11 := (kp 11 rfl).trans ss11
    replace ss12 := (kp 12 rfl).trans ss12
    replace ss26 := (kp 26 rfl).trans ss26
    replace dd := dd1.trans dd
    clear dd1 kp
    refine then_normal ?_
    refine hK6 _ _ ?_
    refine wp_seq_k fun KK7 hK7 => ?_
    refine wp_block ?_
    refine wp_seq_k fun KK8 hK8 => ?_
    refine lookC_r5 c room a cc ps now who key body hk0 hk1 hb b5 a3_2 c3_2 b12 b13 H aa nn ss4 ss13 ss14 ?_
    clear H nn
    intro aa ww nn dd1 kp ss38 H
    replace ss0 := (kp 0 rfl).trans ss0
    replace ss1 := (kp 1 rfl).trans ss1
    replace ss2 := (kp 2 rfl).trans ss2
    replace ss3 := (kp 3 rfl).trans ss3
    replace ss4 := (kp 4 rfl).trans ss4
    replace ss5 := (kp 5 rfl).trans ss5
    replace ss10 := (kp 10 rfl).trans ss10
    replace ss11 := (kp 11 rfl).trans ss11
    replace ss12 := (kp 12 rfl).trans ss12
    replace ss13 := (kp 13 rfl).trans ss13
    replace ss14 := (kp 14 rfl).trans ss14
    replace ss26 := (kp 26 rfl).trans ss26
    replace dd := dd1.trans dd
    clear dd1 kp
    refine then_normal ?_
    refine hK8 _ _ ?_
    refine wp_cond_split ss38 (fun z2 => ?_) (fun z2 => ?_)
    · skip
      have z2l : ((getV (nameV who key) (ps.filter (keepB c now))).2) = true := bl z2
      have z2r : (((getV (nameV who key) (ps.filter (keepB c now))).1.body).toList == body.toList) = true := br z2
      have z2ro : (((getV (nameV who key) (ps.filter (keepB c now))).1.body).toList != body.toList) = false := eqq_t z2r
      refine wp_seq_k fun KK9 hK9 => ?_
      refine lookC_r6 c room a cc ps now who key body hk0 hk1 hb b5 a3_2 c3_2 b12 b13 H aa nn ss13 ?_
      clear H nn ss10 ss11
      intro aa ww nn dd1 kp ss10 ss11 H
      replace ss0 := (kp 0 rfl).trans ss0
      replace ss1 := (kp 1 rfl).trans ss1
      replace ss2 := (kp 2 rfl).trans ss2
      replace ss3 := (kp 3 rfl).trans ss3
      replace ss4 := (kp 4 rfl).trans ss4
      replace ss5 := (kp 5 rfl).trans ss5
      replace ss12 := (kp 12 rfl).trans ss12
      replace ss13 := (kp 13 rfl).trans ss13
      replace ss14 := (kp 14 rfl).trans ss14
      replace ss26 := (kp 26 rfl).trans ss26
      replace ss38 := (kp 38 rfl).trans ss38
      replace dd := dd1.trans dd
      clear dd1 kp
      refine then_normal ?_
      refine hK9 _ _ ?_
      refine wp_ret ?_
      refine block_ret ?_
      refine then_ret ?_
      exact ret2 rfl dd ss10 ss11 ⟨by simp only [lookV, z1, z1l, z1ln, z1r, z1rn, z2, z2l, z2r, z2ro, cond_true, cond_false, Bool.not_true, Bool.not_false, Bool.true_and, Bool.and_true, Bool.false_and, Bool.and_false, Bool.true_or, Bool.or_true, Bool.false_or, Bool.or_false], H.out.off⟩
    · skip
      refine wp_seq_k fun KK10 hK10 => ?_
      refine lookC_r7 c room a cc ps now who key body hk0 hk1 hb b5 a3_2 c3_2 b12 b13 H aa nn ss14 ?_
      clear H nn
      intro aa ww nn dd1 kp ss48 H
      replace ss0 := (kp 0 rfl).trans ss0
      replace ss1 := (kp 1 rfl).trans ss1
      replace ss2 := (kp 2 rfl).trans ss2
      replace ss3 := (kp 3 rfl).trans ss3
      replace ss4 := (kp 4 rfl).trans ss4
      replace ss5 := (kp 5 rfl).trans ss5
      replace ss10 := (kp 10 rfl).trans ss10
      replace ss11 := (kp 11 rfl).trans ss11
      replace ss12 := (kp 12 rfl).trans ss12
      replace ss13 := (kp 13 rfl).trans ss13
      replace ss14 := (kp 14 rfl).trans ss14
      replace ss26 := (kp 26 rfl).trans ss26
      replace ss38 := (kp 38 rfl).trans ss38
      replace dd := dd1.trans dd
      clear dd1 kp
      refine then_normal ?_
      refine hK10 _ _ ?_
      refine wp_cond_split ss48 (fun z3 => ?_) (fun z3 => ?_)
      · skip
        have z2c1 : (((getV (nameV who key) (ps.filter (keepB c now))).1.body).toList == body.toList) = false := af1 z2 z3
        have z2c1o : (((getV (nameV who key) (ps.filter (keepB c now))).1.body).toList != body.toList) = true := eqq_f z2c1
        refine wp_seq_k fun KK11 hK11 => ?_
        refine lookC_r8 c room a cc ps now who key body hk0 hk1 hb b5 a3_2 c3_2 b12 b13 H aa nn  ?_
        clear H nn ss10 ss11
        intro aa ww nn dd1 kp ss10 ss11 H
        replace ss0 := (kp 0 rfl).trans ss0
        replace ss1 := (kp 1 rfl).trans ss1
        replace ss2 := (kp 2 rfl).trans ss2
        replace ss3 := (kp 3 rfl).trans ss3
        replace ss4 := (kp 4 rfl).trans ss4
        replace ss5 := (kp 5 rfl).trans ss5
        replace ss12 := (kp 12 rfl).trans ss12
        replace ss13 := (kp 13 rfl).trans ss13
        replace ss14 := (kp 14 rfl).trans ss14
        replace ss26 := (kp 26 rfl).trans ss26
        replace ss38 := (kp 38 rfl).trans ss38
        replace ss48 := (kp 48 rfl).trans ss48
        replace dd := dd1.trans dd
        clear dd1 kp
        refine then_normal ?_
        refine hK11 _ _ ?_
        refine wp_ret ?_
        refine block_ret ?_
        refine then_ret ?_
        exact ret2 rfl dd ss10 ss11 ⟨by simp only [lookV, z1, z1l, z1ln, z1r, z1rn, z2, z3, z2c1, z2c1o, cond_true, cond_false, Bool.not_true, Bool.not_false, Bool.true_and, Bool.and_true, Bool.false_and, Bool.and_false, Bool.true_or, Bool.or_true, Bool.false_or, Bool.or_false], H.out.off⟩
      · skip
        refine wp_seq_k fun KK12 hK12 => ?_
        refine lookC_r9 c room a cc ps now who key body hk0 hk1 hb b5 a3_2 c3_2 b12 b13 H aa nn ss5 ss12 ?_
        clear H nn
        intro aa ww nn dd1 kp ss50 H
        replace ss0 := (kp 0 rfl).trans ss0
        replace ss1 := (kp 1 rfl).trans ss1
        replace ss2 := (kp 2 rfl).trans ss2
        replace ss3 := (kp 3 rfl).trans ss3
        replace ss4 := (kp 4 rfl).trans ss4
        replace ss5 := (kp 5 rfl).trans ss5
        replace ss10 := (kp 10 rfl).trans ss10
        replace ss11 := (kp 11 rfl).trans ss11
        replace ss12 := (kp 12 rfl).trans ss12
        replace ss13 := (kp 13 rfl).trans ss13
        replace ss14 := (kp 14 rfl).trans ss14
        replace ss26 := (kp 26 rfl).trans ss26
        replace ss38 := (kp 38 rfl).trans ss38
        replace ss48 := (kp 48 rfl).trans ss48
        replace dd := dd1.trans dd
        clear dd1 kp
        refine then_normal ?_
        refine hK12 _ _ ?_
        refine wp_cond_split ss50 (fun z4 => ?_) (fun z4 => ?_)
        · skip
          have z4o : (((ps.filter (keepB c now)).length : Int) != c.keys) = false := eqq_t z4
          refine wp_seq_k fun KK13 hK13 => ?_
          refine lookC_r10 c room a cc ps now who key body hk0 hk1 hb b5 a3_2 c3_2 b12 b13 H aa nn  ?_
          clear H nn ss10 ss11
          intro aa ww nn dd1 kp ss10 ss11 H
          replace ss0 := (kp 0 rfl).trans ss0
          replace ss1 := (kp 1 rfl).trans ss1
          replace ss2 := (kp 2 rfl).trans ss2
          replace ss3 := (kp 3 rfl).trans ss3
          replace ss4 := (kp 4 rfl).trans ss4
          replace ss5 := (kp 5 rfl).trans ss5
          replace ss12 := (kp 12 rfl).trans ss12
          replace ss13 := (kp 13 rfl).trans ss13
          replace ss14 := (kp 14 rfl).trans ss14
          replace ss26 := (kp 26 rfl).trans ss26
          replace ss38 := (kp 38 rfl).trans ss38
          replace ss48 := (kp 48 rfl).trans ss48
          replace ss50 := (kp 50 rfl).trans ss50
          replace dd := dd1.trans dd
          clear dd1 kp
          refine then_normal ?_
          refine hK13 _ _ ?_
          refine wp_ret ?_
          refine block_ret ?_
          refine then_ret ?_
          exact ret2 rfl dd ss10 ss11 ⟨by simp only [lookV, z1, z1l, z1ln, z1r, z1rn, z2, z3, z4, z4o, cond_true, cond_false, Bool.not_true, Bool.not_false, Bool.true_and, Bool.and_true, Bool.false_and, Bool.and_false, Bool.true_or, Bool.or_true, Bool.false_or, Bool.or_false], H.out.off⟩
        · skip
          have z4o : (((ps.filter (keepB c now)).length : Int) != c.keys) = true := eqq_f z4
          refine wp_skip ?_
          refine block_normal ?_
          refine then_normal ?_
          refine hK7 _ _ ?_
          refine wp_seq_k fun KK14 hK14 => ?_
          refine lookC_r11 c room a cc ps now who key body hk0 hk1 hb b5 a3_2 c3_2 b12 b13 H aa nn  ?_
          clear H nn ss10 ss11
          intro aa ww nn dd1 kp ss10 ss11 H
          replace ss0 := (kp 0 rfl).trans ss0
          replace ss1 := (kp 1 rfl).trans ss1
          replace ss2 := (kp 2 rfl).trans ss2
          replace ss3 := (kp 3 rfl).trans ss3
          replace ss4 := (kp 4 rfl).trans ss4
          replace ss5 := (kp 5 rfl).trans ss5
          replace ss12 := (kp 12 rfl).trans ss12
          replace ss13 := (kp 13 rfl).trans ss13
          replace ss14 := (kp 14 rfl).trans ss14
          replace ss26 := (kp 26 rfl).trans ss26
          replace ss38 := (kp 38 rfl).trans ss38
          replace ss48 := (kp 48 rfl).trans ss48
          replace ss50 := (kp 50 rfl).trans ss50
          replace dd := dd1.trans dd
          clear dd1 kp
          refine then_normal ?_
          refine hK14 _ _ ?_
          refine wp_ret ?_
          exact ret2 rfl dd ss10 ss11 ⟨by simp only [lookV, z1, z1l, z1ln, z1r, z1rn, z2, z3, z4, z4o, cond_true, cond_false, Bool.not_true, Bool.not_false, Bool.true_and, Bool.and_true, Bool.false_and, Bool.and_false, Bool.true_or, Bool.or_true, Bool.false_or, Bool.or_false], H.out.off⟩
set_option maxRecDepth 20000 in
theorem countC_r0 (c : Cfg) (room : Int) (a : Option Addr) (cc : Nat) (ps : List PairV) (hb : ps.length ≤ 1000000) {wa wb : World} (H : Hid (Hp [] wa wb [rS a cc 4 (ps.map rowOf)])) (ac0 : Act) (hz : ac0.tmps.size = 9) (so0 : ac0.eval (.tmp 0) = .agg (kA c room (.slice a ps.length cc))) {QR : Exit → Act → World → Prop} (hfin : ∀ (b2 : Nat) (ac1 : Act) (wz : World), ac1.tmps.size = 9 → ac1.defers = ac0.defers → (∀ t, ([2, 4] : List Nat).contains t = false → ac1.eval (.tmp t) = ac0.eval (.tmp t)) → ac1.eval (.tmp 2) = .pointer (some ⟨b2, 0, none⟩) → ac1.eval (.tmp 4) = .int .i64 0 →  Hid (Hp [] wa wz [rB b2 84 (kL c room (.slice a ps.length cc)), rS a cc 4 (ps.map rowOf)]) → QR .normal ac1 wz) : (regAt Try.f51 0).wp Try.prog QR ac0 wb := by
  refine wp_region_sq (by kernel_rfl) 9 hz (by kernel_rfl) (fun (xx : Nat) jx => match xx with | b2 => nth [.pointer (some ⟨b2, 0, none⟩), .int .i64 0] jx) (fun (LL : Nat → Bool) (xx : Nat) ww => match xx with | b2 => Hp [] wa ww (bif LL 0 then [rB b2 84 (kL c room (.slice a ps.length cc)), rS a cc 4 (ps.map rowOf)] else [rS a cc 4 (ps.map rowOf)])) default H.out ?_ (steps_al ?_) ?_ ?_
  · intro L1 L2 xx ww hL sg
    have lh0 := hL 0 (by decide)
    simp only [lh0] at sg
    exact sg
  · refine al_cons ?_ (al_cons ?_ (al_nil))
    · intro LL xx ac wc sg hst hwant QQ hgo
      revert sg hst hgo; revert xx; intro xold sg hst hgo
      have H := Lib.hid hst
      simp only [sg.self, cond_true, cond_false] at H
      refine hp_box rfl 84 _ rfl _ ((sg.free 0 (by kernel_rfl)).trans so0) _ (by rfl) H ?_
      intro wd b2 H2
      exact hgo _ b2 _ (sg.agree (x' := b2) (n := 2) rfl (by (iterate 2 (refine ix_cons (by first | exact fun _ => rfl | exact no sg.self | exact no (sg.des _ rfl)) ?_)); exact ix_nil)) rfl (by simp only [(show upd LL 0 0 = true from rfl), cond_true, cond_false]; exact H2.out)
    · intro LL xx ac wc sg hst hwant QQ hgo
      revert sg hst hgo; revert xx; intro b2 sg hst hgo
      exact op_val hwant hgo hst _ (exec_assign rfl rfl) rfl
  · exact skips [] (by kernel_rfl) (fun _ h => by cases h)
  · intro xx ac1 wz hfr hsl hst
    revert hsl hst; revert xx; intro b2 hsl hst
    exact hfin b2 ac1 wz (hfr.size.trans hz) hfr.defers (fr_keep hfr [2, 4] (by kernel_rfl)) (hsl 0 (by decide)) (hsl 1 (by decide)) (Lib.hid hst)
set_option maxRecDepth 20000 in
theorem countC_r1 (c : Cfg) (room : Int) (a : Option Addr) (cc : Nat) (ps : List PairV) (now : Int) (hb : ps.length ≤ 1000000) (b2 : Nat) {wa wb : World} (H : Hid (Hp [] wa wb [rB b2 84 (kL c room (.slice a ps.length cc)), rS a cc 4 (ps.map rowOf)])) (ac0 : Act) (hz : ac0.tmps.size = 9) (so1 : ac0.eval (.tmp 1) = .int .i64 now) (so2 : ac0.eval (.tmp 2) = .pointer (some ⟨b2, 0, none⟩)) {QR : Exit → Act → World → Prop} (hfin : ∀ (a1_2 : Option Addr) (c1_2 : Nat) (ac1 : Act) (wz : World), ac1.tmps.size = 9 → ac1.defers = ac0.defers → (∀ t, ([4, 5, 6, 7, 8] : List Nat).contains t = false → ac1.eval (.tmp t) = ac0.eval (.tmp t)) → ac1.eval (.tmp 4) = .int .i64 ((ps.filter (keepB c now)).length) →  Hid (Hp [] wa wz [rP (From wa [] (rS a1_2 c1_2 4 ((ps.filter (keepB c now)).map rowOf)).foot), rS a1_2 c1_2 4 ((ps.filter (keepB c now)).map rowOf), rB b2 84 (kL c room (.slice a ps.length cc)), rS a cc 4 (ps.map rowOf)]) → QR .normal ac1 wz) : (regAt Try.f51 1).wp Try.prog QR ac0 wb := by
  refine wp_region_sq (by kernel_rfl) 9 hz (by kernel_rfl) (fun (xx : Option Addr × Nat) jx => match xx with | (a1_2, c1_2) => nth [.agg (kA c room (.slice a ps.length cc)), .int .i64 now, .agg #[.int .i64 room, .slice a1_2 ((ps.filter (keepB c now)).length) c1_2], .int .i64 ((ps.filter (keepB c now)).length), .int .i64 ((ps.filter (keepB c now)).length)] jx) (fun (LL : Nat → Bool) (xx : Option Addr × Nat) ww => match xx with | (a1_2, c1_2) => Hp [] wa ww (bif LL 2 then [rP (From wa [] (rS a1_2 c1_2 4 ((ps.filter (keepB c now)).map rowOf)).foot), rS a1_2 c1_2 4 ((ps.filter (keepB c now)).map rowOf), rB b2 84 (kL c room (.slice a ps.length cc)), rS a cc 4 (ps.map rowOf)] else [rB b2 84 (kL c room (.slice a ps.length cc)), rS a cc 4 (ps.map rowOf)])) (default, default) H.out ?_ (steps_al ?_) ?_ ?_
  · intro L1 L2 xx ww hL sg
    have lh2 := hL 2 (by decide)
    simp only [lh2] at sg
    exact sg
  · refine al_cons ?_ (al_cons ?_ (al_cons ?_ (al_cons ?_ (al_cons ?_ (al_nil)))))
    · intro LL xx ac wc sg hst hwant QQ hgo
      obtain ⟨a1_2, c1_2⟩ := xx
      have H := Lib.hid hst
      simp only [sg.des 2 rfl, cond_true, cond_false] at H
      refine hpA_load tykeys_Keys H rfl ((sg.free 2 (by kernel_rfl)).trans so2) hwant (by (repeat (first | exact List.Mem.head _ | apply List.Mem.tail))) (by rfl) rfl ?_
      exact hgo _ (a1_2, c1_2) _ (fun _ _ => rfl) rfl hst
    · intro LL xx ac wc sg hst hwant QQ hgo
      obtain ⟨a1_2, c1_2⟩ := xx
      exact op_val hwant hgo hst _ (exec_move rfl ((sg.free 1 (by kernel_rfl)).trans so1)) rfl
    · intro LL xx ac wc sg hst hwant QQ hgo
      obtain ⟨_, _⟩ := xx
      have se5 : ac.eval (.tmp 5) = _ := (sg.slot 0 (sg.anc 0 rfl))
      have sg5 := gt_of se5
      have se6 : ac.eval (.tmp 6) = _ := (sg.slot 1 (sg.anc 1 rfl))
      have sg6 := gt_of se6
      (try simp only [nth] at se5 sg5 se6 sg6)
      have H := Lib.hid hst
      simp only [sg.self, cond_true, cond_false] at H
      refine op_call hwant hgo 77 _ (by simp only [execOp]; go_simp) (countsC c now room a cc ps wc (hp_held H (by (repeat (first | exact List.Mem.head _ | apply List.Mem.tail)))) hb) ?_
      rintro er wd ⟨a1_2, c1_2, rfl, hgv⟩
      have H2 := hp_got H hgv.2.2 hgv.1 (by decide) hgv.2.1 (by simp)
      replace H2 := hp_fact H2 (p := From wa [] (rS a1_2 c1_2 4 ((ps.filter (keepB c now)).map rowOf)).foot) (from_trans hgv.2.1 H.out.off (fun r hr => by cases hr))
      exact ⟨_, (a1_2, c1_2), rfl, (sg.agree (x' := (a1_2, c1_2)) (n := 5) rfl (by (iterate 5 (refine ix_cons (by first | exact fun _ => rfl | exact no sg.self | exact no (sg.des _ rfl)) ?_)); exact ix_nil)), rfl, (by simp only [(show upd LL 2 2 = true from rfl), cond_true, cond_false]; exact H2.out)⟩
    · intro LL xx ac wc sg hst hwant QQ hgo
      obtain ⟨a1_2, c1_2⟩ := xx
      have se7 : ac.eval (.tmp 7) = _ := (sg.slot 2 (sg.anc 2 rfl))
      have sg7 := gt_of se7
      (try simp only [nth] at se7 sg7)
      refine op_call hwant hgo 80 _ (by simp only [execOp]; go_simp) (lenC room a1_2 ((ps.filter (keepB c now)).length) c1_2 wc) ?_
      rintro er wd ⟨rfl, hof⟩
      exact ⟨_, (a1_2, c1_2), rfl, fun _ _ => rfl, rfl, Hp.quiet hst hof⟩
    · intro LL xx ac wc sg hst hwant QQ hgo
      obtain ⟨a1_2, c1_2⟩ := xx
      exact op_val hwant hgo hst _ (exec_assign rfl (sg.slot 3 (sg.anc 3 rfl))) rfl
  · exact skips [] (by kernel_rfl) (fun _ h => by cases h)
  · intro xx ac1 wz hfr hsl hst
    obtain ⟨a1_2, c1_2⟩ := xx
    exact hfin a1_2 c1_2 ac1 wz (hfr.size.trans hz) hfr.defers (fr_keep hfr [4, 5, 6, 7, 8] (by kernel_rfl)) (hsl 4 (by decide)) (Lib.hid hst)
set_option maxRecDepth 20000 in
theorem countC (c : Cfg) (room : Int) (a : Option Addr) (cc : Nat) (ps : List PairV) (now : Int) (w : World) (h : (rS a cc 4 (ps.map rowOf)).holds w) (hb : ps.length ≤ 1000000) : Calls Try.prog 51 #[.agg (kA c room (.slice a ps.length cc)), .int .i64 now] w fun e w' => e = .returned (.int .i64 (ps.filter (keepB c now)).length) ∧ Off [] w w' := by
  have H := Lib.hid (Hp.start [] w)
  have H := hp_old H h (by decide)
  clear h
  refine calls_start Try.func51 rfl 9 rfl (by simp) (fun aa nn dd sl => ?_)
  have ss0 : aa.eval (.tmp 0) = .agg (kA c room (.slice a ps.length cc)) := sl 0 (by simp)
  have ss1 : aa.eval (.tmp 1) = .int .i64 now := sl 1 (by simp)
  clear sl
  refine wp_seq_k fun KK1 hK1 => ?_
  refine countC_r0 c room a cc ps hb H aa nn ss0 ?_
  clear H nn
  intro b2 aa ww nn dd1 kp ss2 ss4 H
  replace ss0 := (kp 0 rfl).trans ss0
  replace ss1 := (kp 1 rfl).trans ss1
  replace dd := dd1.trans dd
  clear dd1 kp
  refine then_normal ?_
  refine hK1 _ _ ?_
  refine wp_seq_k fun KK2 hK2 => ?_
  refine countC_r1 c room a cc ps now hb b2 H aa nn ss1 ss2 ?_
  clear H nn ss4
  intro a1_2 c1_2 aa ww nn dd1 kp ss4 H
  replace ss0 := (kp 0 rfl).trans ss0
  replace ss1 := (kp 1 rfl).trans ss1
  replace ss2 := (kp 2 rfl).trans ss2
  replace dd := dd1.trans dd
  clear dd1 kp
  refine then_normal ?_
  refine hK2 _ _ ?_
  refine wp_ret ?_
  exact ret1 rfl dd ss4 ⟨rfl, H.out.off⟩
end Go.Proofs.Ytfhhfmkfkoemjaa.Se6
