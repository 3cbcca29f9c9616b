/- Keys: small functions. -/
import Derived.Test.YtfhhfmkfkoemjaaProg
import Derived.Below
import Derived.WalkKit
import Derived.KernelRfl
import Derived.RowKit3
import Derived.Deep.LoopGhost
import Derived.Deep.QuietTactic
import Derived.BigQuiet
import Derived.WideLaws
import Derived.Deep.DeepCutAuto
import Derived.Deep.CutBlock
import Derived.Lib.Hide
import Derived.Laws.BitsLemmas
import Derived.Laws.Bits64
import Derived.Laws.BitsAllLaws
import Derived.IntWalk
import Derived.Outline
import Derived.WalkSpells
import Derived.Test.YtfhhfmkfkoemjaaMem
import Derived.Test.YtfhhfmkfkoemjaaRegK
import Derived.Test.YtfhhfmkfkoemjaaPkR
import Derived.Test.YtfhhfmkfkoemjaaSeOut
import Derived.Test.YtfhhfmkfkoemjaaSeEql
import Derived.Test.YtfhhfmkfkoemjaaSite
import Derived.WalkLawsBesides
namespace Go.Proofs.Ytfhhfmkfkoemjaa.Se6
open Go.RowKit Go.Proofs.Ytfhhfmkfkoemjaa.Mem Go.Proofs.Ytfhhfmkfkoemjaa.Reg Go.Proofs.Ytfhhfmkfkoemjaa.Pk Go.Proofs.Ytfhhfmkfkoemjaa.Si
set_option linter.unusedVariables false
set_option linter.unusedSimpArgs false

def cL (c : Cfg) : List Value := [.int .i64 c.floors, .int .i64 c.cars, .int .i64 c.seats, .int .i64 c.calls, .int .i64 c.lines, .int .i64 c.keys, .int .i64 c.window, .int .i64 c.burst, .int .i64 c.rate, .int .i64 c.idle, .int .i64 c.inn, .int .i64 c.out, .int .i64 c.feed, .int .i64 c.retries, .int .i64 c.life, .int .i64 c.door, .int .i64 c.holds, .int .u32 c.secret]
def cA (c : Cfg) : Array Value := (cL c).toArray
def rkL (c : Cfg) (sl : Value) : List Value := [.int .i64 c.floors, .int .i64 c.cars, .int .i64 c.seats, .int .i64 c.calls, .int .i64 c.lines, .int .i64 c.keys, .int .i64 c.window, .int .i64 c.burst, .int .i64 c.rate, .int .i64 c.idle, .int .i64 c.inn, .int .i64 c.out, .int .i64 c.feed, .int .i64 c.retries, .int .i64 c.life, .int .i64 c.door, .int .i64 c.holds, .int .u32 c.secret, sl]
def rkA (c : Cfg) (sl : Value) : Array Value := (rkL c sl).toArray
def kL (c : Cfg) (room : Int) (sl : Value) : List Value := [.int .i64 c.floors, .int .i64 c.cars, .int .i64 c.seats, .int .i64 c.calls, .int .i64 c.lines, .int .i64 c.keys, .int .i64 c.window, .int .i64 c.burst, .int .i64 c.rate, .int .i64 c.idle, .int .i64 c.inn, .int .i64 c.out, .int .i64 c.feed, .int .i64 c.retries, .int .i64 c.life, .int .i64 c.door, .int .i64 c.holds, .int .u32 c.secret, .int .i64 room, sl]
def kA (c : Cfg) (room : Int) (sl : Value) : Array Value := (kL c room sl).toArray
def isTickV (n m : Int) : Bool := decide (0 ≤ n) && decide (n ≤ 1073741824) && decide (1 ≤ m) && decide (m ≤ 1073741824)
def isGoodV (c : Cfg) (key now : Int) : Bool := (checkV c == 0) && decide (key / 4294967296 ≤ now) && decide (now ≤ IntKind.i64.wrap (key / 4294967296 + c.window))
def nameV (who key : Int) : ByteArray := str ([] ++ (encs 4 [who, key / 4294967296, key % 4294967296]).1)
theorem tyapi_Config : TyI Try.prog 24 18 true [.int .i64 0, .int .i64 0, .int .i64 0, .int .i64 0, .int .i64 0, .int .i64 0, .int .i64 0, .int .i64 0, .int .i64 0, .int .i64 0, .int .i64 0, .int .i64 0, .int .i64 0, .int .i64 0, .int .i64 0, .int .i64 0, .int .i64 0, .int .u32 0] := ⟨by kernel_rfl, by kernel_rfl, by kernel_rfl⟩
theorem typack_Out : TyI Try.prog 158 1 true [.slice none 0 0] := ⟨by kernel_rfl, by kernel_rfl, by kernel_rfl⟩
theorem tykeys_Keys : TyI Try.prog 84 20 true [.int .i64 0, .int .i64 0, .int .i64 0, .int .i64 0, .int .i64 0, .int .i64 0, .int .i64 0, .int .i64 0, .int .i64 0, .int .i64 0, .int .i64 0, .int .i64 0, .int .i64 0, .int .i64 0, .int .i64 0, .int .i64 0, .int .i64 0, .int .u32 0, .int .i64 0, .slice none 0 0] := ⟨by kernel_rfl, by kernel_rfl, by kernel_rfl⟩
set_option maxRecDepth 20000 in
theorem stampC_r0 (key : Int) (hk0 : 0 ≤ key) (hk1 : key ≤ 18446744073709551615) (hw : IntKind.i64.wrap (key / 4294967296) = key / 4294967296) {wa wb : World} (H : Hid (Hp [] wa wb [])) (ac0 : Act) (hz : ac0.tmps.size = 6)  {QR : Exit → Act → World → Prop} (hfin : ∀ (ac1 : Act) (wz : World), ac1.tmps.size = 6 → ac1.defers = ac0.defers → (∀ t, ([2] : List Nat).contains t = false → ac1.eval (.tmp t) = ac0.eval (.tmp t)) → ac1.eval (.tmp 2) = .int .i64 0 →  Hid (Hp [] wa wz []) → QR .normal ac1 wz) : (regAt Try.f46 0).wp Try.prog QR ac0 wb := by
  refine wp_region_sq (by kernel_rfl) 6 hz (by kernel_rfl) (fun (xx : Unit) jx => nth [.int .i64 0] jx) (fun (LL : Nat → Bool) (xx : Unit) ww => Hp [] wa ww []) () H.out ?_ (steps_al ?_) ?_ ?_
  · exact fun _ _ _ _ _ h => h
  · refine al_cons ?_ (al_nil)
    · intro LL xx ac wc sg hst hwant QQ hgo
      exact op_val hwant hgo hst _ (exec_assign rfl rfl) rfl
  · exact skips [] (by kernel_rfl) (fun _ h => by cases h)
  · intro xx ac1 wz hfr hsl hst
    exact hfin ac1 wz (hfr.size.trans hz) hfr.defers (fr_keep hfr [2] (by kernel_rfl)) (hsl 0 (by decide)) (Lib.hid hst)
set_option maxRecDepth 20000 in
theorem stampC_r1 (key : Int) (hk0 : 0 ≤ key) (hk1 : key ≤ 18446744073709551615) (hw : IntKind.i64.wrap (key / 4294967296) = key / 4294967296) {wa wb : World} (H : Hid (Hp [] wa wb [])) (ac0 : Act) (hz : ac0.tmps.size = 6) (so0 : ac0.eval (.tmp 0) = .int .u64 key) {QR : Exit → Act → World → Prop} (hfin : ∀ (ac1 : Act) (wz : World), ac1.tmps.size = 6 → ac1.defers = ac0.defers → (∀ t, ([2, 3, 4, 5] : List Nat).contains t = false → ac1.eval (.tmp t) = ac0.eval (.tmp t)) → ac1.eval (.tmp 2) = .int .i64 (key / 4294967296) →  Hid (Hp [] wa wz []) → QR .normal ac1 wz) : (regAt Try.f46 1).wp Try.prog QR ac0 wb := by
  refine wp_region_sq (by kernel_rfl) 6 hz (by kernel_rfl) (fun (xx : Unit) jx => nth [.int .u64 key, .int .u64 (key / 4294967296), .int .i64 (key / 4294967296), .int .i64 (key / 4294967296)] jx) (fun (LL : Nat → Bool) (xx : Unit) ww => Hp [] wa ww []) () H.out ?_ (steps_al ?_) ?_ ?_
  · exact fun _ _ _ _ _ h => h
  · refine al_cons ?_ (al_cons ?_ (al_cons ?_ (al_cons ?_ (al_nil))))
    · intro LL xx ac wc sg hst hwant QQ hgo
      exact op_val hwant hgo hst _ (exec_move rfl ((sg.free 0 (by kernel_rfl)).trans so0)) rfl
    · intro LL xx ac wc sg hst hwant QQ hgo
      have se3 : ac.eval (.tmp 3) = _ := (sg.slot 0 (sg.anc 0 rfl))
      have sg3 := gt_of se3
      (try simp only [nth] at se3 sg3)
      exact op_val hwant hgo hst _ (by simp only [execOp, nth]; go_simp <;> omega) rfl
    · intro LL xx ac wc sg hst hwant QQ hgo
      have se4 : ac.eval (.tmp 4) = _ := (sg.slot 1 (sg.anc 1 rfl))
      have sg4 := gt_of se4
      (try simp only [nth] at se4 sg4)
      exact op_val hwant hgo hst _ (by simp only [execOp, nth]; go_simp <;> omega) rfl
    · intro LL xx ac wc sg hst hwant QQ hgo
      exact op_val hwant hgo hst _ (exec_assign rfl (sg.slot 2 (sg.anc 2 rfl))) rfl
  · exact skips [] (by kernel_rfl) (fun _ h => by cases h)
  · intro xx ac1 wz hfr hsl hst
    exact hfin ac1 wz (hfr.size.trans hz) hfr.defers (fr_keep hfr [2, 3, 4, 5] (by kernel_rfl)) (hsl 3 (by decide)) (Lib.hid hst)
set_option maxRecDepth 20000 in
theorem stampC (key : Int) (w : World) (hk0 : 0 ≤ key) (hk1 : key ≤ 18446744073709551615) : Calls Try.prog 46 #[.int .u64 key] w fun e w' => e = .returned (.int .i64 (key / 4294967296)) ∧ Off [] w w' := by
  have H := Lib.hid (Hp.start [] w)
  refine calls_start Try.func46 rfl 6 rfl (by simp) (fun aa nn dd sl => ?_)
  have ss0 : aa.eval (.tmp 0) = .int .u64 key := sl 0 (by simp)
  clear sl
  have hw : IntKind.i64.wrap (key / 4294967296) = key / 4294967296 := by rw [IntKind.wrap_i64]; omega
  refine wp_seq_k fun KK1 hK1 => ?_
  refine stampC_r0 key hk0 hk1 hw H aa nn  ?_
  clear H nn
  intro aa ww nn dd1 kp ss2 H
  replace ss0 := (kp 0 rfl).trans ss0
  replace dd := dd1.trans dd
  clear dd1 kp
  refine then_normal ?_
  refine hK1 _ _ ?_
  refine wp_seq_k fun KK2 hK2 => ?_
  refine stampC_r1 key hk0 hk1 hw H aa nn ss0 ?_
  clear H nn ss2
  intro aa ww nn dd1 kp ss2 H
  replace ss0 := (kp 0 rfl).trans ss0
  replace dd := dd1.trans dd
  clear dd1 kp
  refine then_normal ?_
  refine hK2 _ _ ?_
  refine wp_ret ?_
  exact ret1 rfl dd ss2 ⟨rfl, H.out.off⟩
set_option maxRecDepth 20000 in
theorem isTickC_r0  {wa wb : World} (H : Hid (Hp [] wa wb [])) (ac0 : Act) (hz : ac0.tmps.size = 19)  {QR : Exit → Act → World → Prop} (hfin : ∀ (ac1 : Act) (wz : World), ac1.tmps.size = 19 → ac1.defers = ac0.defers → (∀ t, ([4] : List Nat).contains t = false → ac1.eval (.tmp t) = ac0.eval (.tmp t)) → ac1.eval (.tmp 4) = .bool false →  Hid (Hp [] wa wz []) → QR .normal ac1 wz) : (regAt Try.f76 0).wp Try.prog QR ac0 wb := by
  refine wp_region_sq (by kernel_rfl) 19 hz (by kernel_rfl) (fun (xx : Unit) jx => nth [.bool false] jx) (fun (LL : Nat → Bool) (xx : Unit) ww => Hp [] wa ww []) () H.out ?_ (steps_al ?_) ?_ ?_
  · exact fun _ _ _ _ _ h => h
  · refine al_cons ?_ (al_nil)
    · intro LL xx ac wc sg hst hwant QQ hgo
      exact op_val hwant hgo hst _ (exec_assign rfl rfl) rfl
  · exact skips [] (by kernel_rfl) (fun _ h => by cases h)
  · intro xx ac1 wz hfr hsl hst
    exact hfin ac1 wz (hfr.size.trans hz) hfr.defers (fr_keep hfr [4] (by kernel_rfl)) (hsl 0 (by decide)) (Lib.hid hst)
set_option maxRecDepth 20000 in
theorem isTickC_r1 (n : Int) (m : Int) {wa wb : World} (H : Hid (Hp [] wa wb [])) (ac0 : Act) (hz : ac0.tmps.size = 19) (so0 : ac0.eval (.tmp 0) = .int .i64 n) (so1 : ac0.eval (.tmp 1) = .int .i64 m) {QR : Exit → Act → World → Prop} (hfin : ∀ (ac1 : Act) (wz : World), ac1.tmps.size = 19 → ac1.defers = ac0.defers → (∀ t, ([4, 5, 6, 7, 8, 9, 10, 11, 12, 13, 14, 15, 16, 17, 18] : List Nat).contains t = false → ac1.eval (.tmp t) = ac0.eval (.tmp t)) → ac1.eval (.tmp 4) = .bool ((((decide (0 ≤ n)) && (decide (n ≤ 1073741824))) && (decide (1 ≤ m))) && (decide (m ≤ 1073741824))) →  Hid (Hp [] wa wz []) → QR .normal ac1 wz) : (regAt Try.f76 1).wp Try.prog QR ac0 wb := by
  refine wp_region_sq (by kernel_rfl) 19 hz (by kernel_rfl) (fun (xx : Unit) jx => nth [.int .i64 n, .bool (decide (0 ≤ n)), .bool (decide (0 ≤ n)), bif (decide (0 ≤ n)) then .int .i64 n else undef, bif (decide (0 ≤ n)) then .bool (decide (n ≤ 1073741824)) else undef, .bool ((decide (0 ≤ n)) && (decide (n ≤ 1073741824))), .bool ((decide (0 ≤ n)) && (decide (n ≤ 1073741824))), bif ((decide (0 ≤ n)) && (decide (n ≤ 1073741824))) then .int .i64 m else undef, bif ((decide (0 ≤ n)) && (decide (n ≤ 1073741824))) then .bool (decide (1 ≤ m)) else undef, .bool (((decide (0 ≤ n)) && (decide (n ≤ 1073741824))) && (decide (1 ≤ m))), .bool (((decide (0 ≤ n)) && (decide (n ≤ 1073741824))) && (decide (1 ≤ m))), bif (((decide (0 ≤ n)) && (decide (n ≤ 1073741824))) && (decide (1 ≤ m))) then .int .i64 m else undef, bif (((decide (0 ≤ n)) && (decide (n ≤ 1073741824))) && (decide (1 ≤ m))) then .bool (decide (m ≤ 1073741824)) else undef, .bool ((((decide (0 ≤ n)) && (decide (n ≤ 1073741824))) && (decide (1 ≤ m))) && (decide (m ≤ 1073741824))), .bool ((((decide (0 ≤ n)) && (decide (n ≤ 1073741824))) && (decide (1 ≤ m))) && (decide (m ≤ 1073741824)))] jx) (fun (LL : Nat → Bool) (xx : Unit) ww => Hp [] wa ww []) () H.out ?_ (steps_al ?_) ?_ ?_
  · exact fun _ _ _ _ _ h => h
  · refine al_cons ?_ (al_cons ?_ (al_cons ?_ (al_cons ?_ (al_cons ?_ (al_cons ?_ (al_cons ?_ (al_cons ?_ (al_cons ?_ (al_cons ?_ (al_cons ?_ (al_cons ?_ (al_cons ?_ (al_cons ?_ (al_cons ?_ (al_nil)))))))))))))))
    · intro LL xx ac wc sg hst hwant QQ hgo
      exact op_val hwant hgo hst _ (exec_move rfl ((sg.free 0 (by kernel_rfl)).trans so0)) rfl
    · intro LL xx ac wc sg hst hwant QQ hgo
      have se5 : ac.eval (.tmp 5) = _ := (sg.slot 0 (sg.anc 0 rfl))
      have sg5 := gt_of se5
      (try simp only [nth] at se5 sg5)
      exact op_val hwant hgo hst _ (by simp only [execOp, nth]; go_simp <;> omega) rfl
    · intro LL xx ac wc sg hst hwant QQ hgo
      exact op_val hwant hgo hst _ (exec_move rfl (sg.slot 1 (sg.anc 1 rfl))) rfl
    · intro LL xx ac wc sg hst hwant QQ hgo
      have hG : (decide (0 ≤ n)) = true := (want_t rfl rfl (sg.slot 2 (sg.anc 2 rfl))).symm.trans hwant
      exact op_val hwant hgo hst _ (exec_move rfl ((sg.free 0 (by kernel_rfl)).trans so0)) (cI hG)
    · intro LL xx ac wc sg hst hwant QQ hgo
      have hG : (decide (0 ≤ n)) = true := (want_t rfl rfl (sg.slot 2 (sg.anc 2 rfl))).symm.trans hwant
      have se8 : ac.eval (.tmp 8) = _ := (cT (sg.slot 3 (sg.anc 3 rfl)) hG)
      have sg8 := gt_of se8
      (try simp only [nth] at se8 sg8)
      exact op_val hwant hgo hst _ (by simp only [execOp, nth]; go_simp <;> omega) (cI hG)
    · intro LL xx ac wc sg hst hwant QQ hgo
      exact op_val hwant hgo hst (.bool ((decide (0 ≤ n)) && (decide (n ≤ 1073741824)))) (exec_and (Y := decide (n ≤ 1073741824)) rfl (sg.slot 2 (sg.anc 2 rfl)) (fun qq => cT (sg.slot 4 (sg.anc 4 rfl)) qq)) rfl
    · intro LL xx ac wc sg hst hwant QQ hgo
      exact op_val hwant hgo hst _ (exec_move rfl (sg.slot 5 (sg.anc 5 rfl))) rfl
    · intro LL xx ac wc sg hst hwant QQ hgo
      have hG : ((decide (0 ≤ n)) && (decide (n ≤ 1073741824))) = true := (want_t rfl rfl (sg.slot 6 (sg.anc 6 rfl))).symm.trans hwant
      exact op_val hwant hgo hst _ (exec_move rfl ((sg.free 1 (by kernel_rfl)).trans so1)) (cI hG)
    · intro LL xx ac wc sg hst hwant QQ hgo
      have hG : ((decide (0 ≤ n)) && (decide (n ≤ 1073741824))) = true := (want_t rfl rfl (sg.slot 6 (sg.anc 6 rfl))).symm.trans hwant
      have se12 : ac.eval (.tmp 12) = _ := (cT (sg.slot 7 (sg.anc 7 rfl)) hG)
      have sg12 := gt_of se12
      (try simp only [nth] at se12 sg12)
      exact op_val hwant hgo hst _ (by simp only [execOp, nth]; go_simp <;> omega) (cI hG)
    · intro LL xx ac wc sg hst hwant QQ hgo
      exact op_val hwant hgo hst (.bool (((decide (0 ≤ n)) && (decide (n ≤ 1073741824))) && (decide (1 ≤ m)))) (exec_and (Y := decide (1 ≤ m)) rfl (sg.slot 6 (sg.anc 6 rfl)) (fun qq => cT (sg.slot 8 (sg.anc 8 rfl)) qq)) rfl
    · intro LL xx ac wc sg hst hwant QQ hgo
      exact op_val hwant hgo hst _ (exec_move rfl (sg.slot 9 (sg.anc 9 rfl))) rfl
    · intro LL xx ac wc sg hst hwant QQ hgo
      have hG : (((decide (0 ≤ n)) && (decide (n ≤ 1073741824))) && (decide (1 ≤ m))) = true := (want_t rfl rfl (sg.slot 10 (sg.anc 10 rfl))).symm.trans hwant
      exact op_val hwant hgo hst _ (exec_move rfl ((sg.free 1 (by kernel_rfl)).trans so1)) (cI hG)
    · intro LL xx ac wc sg hst hwant QQ hgo
      have hG : (((decide (0 ≤ n)) && (decide (n ≤ 1073741824))) && (decide (1 ≤ m))) = true := (want_t rfl rfl (sg.slot 10 (sg.anc 10 rfl))).symm.trans hwant
      have se16 : ac.eval (.tmp 16) = _ := (cT (sg.slot 11 (sg.anc 11 rfl)) hG)
      have sg16 := gt_of se16
      (try simp only [nth] at se16 sg16)
      exact op_val hwant hgo hst _ (by simp only [execOp, nth]; go_simp <;> omega) (cI hG)
    · intro LL xx ac wc sg hst hwant QQ hgo
      exact op_val hwant hgo hst (.bool ((((decide (0 ≤ n)) && (decide (n ≤ 1073741824))) && (decide (1 ≤ m))) && (decide (m ≤ 1073741824)))) (exec_and (Y := decide (m ≤ 1073741824)) rfl (sg.slot 10 (sg.anc 10 rfl)) (fun qq => cT (sg.slot 12 (sg.anc 12 rfl)) qq)) rfl
    · intro LL xx ac wc sg hst hwant QQ hgo
      exact op_val hwant hgo hst _ (exec_assign rfl (sg.slot 13 (sg.anc 13 rfl))) rfl
  · refine skips [3, 4, 7, 8, 11, 12] (by kernel_rfl) ?_
    refine List.forall_mem_cons.2 ⟨?_, List.forall_mem_cons.2 ⟨?_, List.forall_mem_cons.2 ⟨?_, List.forall_mem_cons.2 ⟨?_, List.forall_mem_cons.2 ⟨?_, List.forall_mem_cons.2 ⟨?_, fun _ h => by cases h⟩⟩⟩⟩⟩⟩
    · intro oo hop LL xx ac sg hwant
      cases Option.some.inj hop
      have hG : (decide (0 ≤ n)) = false := (want_t rfl rfl (sg.slot 2 (sg.anc 2 rfl))).symm.trans hwant
      exact ⟨cF hG, fun _ h => h⟩
    · intro oo hop LL xx ac sg hwant
      cases Option.some.inj hop
      have hG : (decide (0 ≤ n)) = false := (want_t rfl rfl (sg.slot 2 (sg.anc 2 rfl))).symm.trans hwant
      exact ⟨cF hG, fun _ h => h⟩
    · intro oo hop LL xx ac sg hwant
      cases Option.some.inj hop
      have hG : ((decide (0 ≤ n)) && (decide (n ≤ 1073741824))) = false := (want_t rfl rfl (sg.slot 6 (sg.anc 6 rfl))).symm.trans hwant
      exact ⟨cF hG, fun _ h => h⟩
    · intro oo hop LL xx ac sg hwant
      cases Option.some.inj hop
      have hG : ((decide (0 ≤ n)) && (decide (n ≤ 1073741824))) = false := (want_t rfl rfl (sg.slot 6 (sg.anc 6 rfl))).symm.trans hwant
      exact ⟨cF hG, fun _ h => h⟩
    · intro oo hop LL xx ac sg hwant
      cases Option.some.inj hop
      have hG : (((decide (0 ≤ n)) && (decide (n ≤ 1073741824))) && (decide (1 ≤ m))) = false := (want_t rfl rfl (sg.slot 10 (sg.anc 10 rfl))).symm.trans hwant
      exact ⟨cF hG, fun _ h => h⟩
    · intro oo hop LL xx ac sg hwant
      cases Option.some.inj hop
      have hG : (((decide (0 ≤ n)) && (decide (n ≤ 1073741824))) && (decide (1 ≤ m))) = false := (want_t rfl rfl (sg.slot 10 (sg.anc 10 rfl))).symm.trans hwant
      exact ⟨cF hG, fun _ h => h⟩
  · intro xx ac1 wz hfr hsl hst
    exact hfin ac1 wz (hfr.size.trans hz) hfr.defers (fr_keep hfr [4, 5, 6, 7, 8, 9, 10, 11, 12, 13, 14, 15, 16, 17, 18] (by kernel_rfl)) (hsl 14 (by decide)) (Lib.hid hst)
set_option maxRecDepth 20000 in
theorem isTickC (n : Int) (m : Int) (w : World) : Calls Try.prog 76 #[.int .i64 n, .int .i64 m] w fun e w' => e = .returned (.bool (isTickV n m)) ∧ Off [] w w' := by
  have H := Lib.hid (Hp.start [] w)
  refine calls_start Try.func76 rfl 19 rfl (by simp) (fun aa nn dd sl => ?_)
  have ss0 : aa.eval (.tmp 0) = .int .i64 n := sl 0 (by simp)
  have ss1 : aa.eval (.tmp 1) = .int .i64 m := sl 1 (by simp)
  clear sl
  refine wp_seq_k fun KK1 hK1 => ?_
  refine isTickC_r0  H aa nn  ?_
  clear H nn
  intro aa ww nn dd1 kp ss4 H
  replace ss0 := (kp 0 rfl).trans ss0
  replace ss1 := (kp 1 rfl).trans ss1
  replace dd := dd1.trans dd
  clear dd1 kp
  refine then_normal ?_
  refine hK1 _ _ ?_
  refine wp_seq_k fun KK2 hK2 => ?_
  refine isTickC_r1 n m H aa nn ss0 ss1 ?_
  clear H nn ss4
  intro aa ww nn dd1 kp ss4 H
  replace ss0 := (kp 0 rfl).trans ss0
  replace ss1 := (kp 1 rfl).trans ss1
  replace dd := dd1.trans dd
  clear dd1 kp
  refine then_normal ?_
  refine hK2 _ _ ?_
  refine wp_ret ?_
  exact ret1 rfl dd ss4 ⟨rfl, H.out.off⟩
set_option maxRecDepth 20000 in
theorem keyNo_r0 (s : Int) (n : Int) (q : ((decide (s < 0) || decide (n < 0)) || (max s n / 4294967296 != 0)) = true) {wa wb : World} (H : Hid (Hp [] wa wb [])) (ac0 : Act) (hz : ac0.tmps.size = 24)  {QR : Exit → Act → World → Prop} (hfin : ∀ (ac1 : Act) (wz : World), ac1.tmps.size = 24 → ac1.defers = ac0.defers → (∀ t, ([4] : List Nat).contains t = false → ac1.eval (.tmp t) = ac0.eval (.tmp t)) → ac1.eval (.tmp 4) = .int .u64 0 →  Hid (Hp [] wa wz []) → QR .normal ac1 wz) : (regAt Try.f45 0).wp Try.prog QR ac0 wb := by
  refine wp_region_sq (by kernel_rfl) 24 hz (by kernel_rfl) (fun (xx : Unit) jx => nth [.int .u64 0] jx) (fun (LL : Nat → Bool) (xx : Unit) ww => Hp [] wa ww []) () H.out ?_ (steps_al ?_) ?_ ?_
  · exact fun _ _ _ _ _ h => h
  · refine al_cons ?_ (al_nil)
    · intro LL xx ac wc sg hst hwant QQ hgo
      exact op_val hwant hgo hst _ (exec_assign rfl rfl) rfl
  · exact skips [] (by kernel_rfl) (fun _ h => by cases h)
  · intro xx ac1 wz hfr hsl hst
    exact hfin ac1 wz (hfr.size.trans hz) hfr.defers (fr_keep hfr [4] (by kernel_rfl)) (hsl 0 (by decide)) (Lib.hid hst)
set_option maxRecDepth 20000 in
theorem keyNo_r1 (s : Int) (n : Int) (q : ((decide (s < 0) || decide (n < 0)) || (max s n / 4294967296 != 0)) = true) {wa wb : World} (H : Hid (Hp [] wa wb [])) (ac0 : Act) (hz : ac0.tmps.size = 24) (so0 : ac0.eval (.tmp 0) = .int .i64 s) (so1 : ac0.eval (.tmp 1) = .int .i64 n) {QR : Exit → Act → World → Prop} (hfin : ∀ (ac1 : Act) (wz : World), ac1.tmps.size = 24 → ac1.defers = ac0.defers → (∀ t, ([5, 6, 7, 8, 9, 10, 11, 12, 13, 14, 15, 16, 17] : List Nat).contains t = false → ac1.eval (.tmp t) = ac0.eval (.tmp t)) → ac1.eval (.tmp 17) = .bool true →  Hid (Hp [] wa wz []) → QR .normal ac1 wz) : (regAt Try.f45 1).wp Try.prog QR ac0 wb := by
  refine wp_region_sq (by kernel_rfl) 24 hz (by kernel_rfl) (fun (xx : Unit) jx => nth [.int .i64 s, .bool (decide (s < 0)), .bool (decide (s < 0)), bif !(decide (s < 0)) then .int .i64 n else undef, bif !(decide (s < 0)) then .bool (decide (n < 0)) else undef, .bool ((decide (s < 0)) || (decide (n < 0))), .bool ((decide (s < 0)) || (decide (n < 0))), bif !((decide (s < 0)) || (decide (n < 0))) then .int .i64 s else undef, bif !((decide (s < 0)) || (decide (n < 0))) then .int .i64 n else undef, bif !((decide (s < 0)) || (decide (n < 0))) then .int .i64 (max s n) else undef, bif !((decide (s < 0)) || (decide (n < 0))) then .int .i64 ((max s n) / 4294967296) else undef, bif !((decide (s < 0)) || (decide (n < 0))) then .bool (((max s n) / 4294967296) != 0) else undef, .bool true] jx) (fun (LL : Nat → Bool) (xx : Unit) ww => Hp [] wa ww []) () H.out ?_ (steps_al ?_) ?_ ?_
  · exact fun _ _ _ _ _ h => h
  · refine al_cons ?_ (al_cons ?_ (al_cons ?_ (al_cons ?_ (al_cons ?_ (al_cons ?_ (al_cons ?_ (al_cons ?_ (al_cons ?_ (al_cons ?_ (al_cons ?_ (al_cons ?_ (al_cons ?_ (al_nil)))))))))))))
    · intro LL xx ac wc sg hst hwant QQ hgo
      exact op_val hwant hgo hst _ (exec_move rfl ((sg.free 0 (by kernel_rfl)).trans so0)) rfl
    · intro LL xx ac wc sg hst hwant QQ hgo
      have se5 : ac.eval (.tmp 5) = _ := (sg.slot 0 (sg.anc 0 rfl))
      have sg5 := gt_of se5
      (try simp only [nth] at se5 sg5)
      exact op_val hwant hgo hst _ (by simp only [execOp, nth]; go_simp <;> omega) rfl
    · intro LL xx ac wc sg hst hwant QQ hgo
      exact op_val hwant hgo hst _ (exec_move rfl (sg.slot 1 (sg.anc 1 rfl))) rfl
    · intro LL xx ac wc sg hst hwant QQ hgo
      have hG : (!(decide (s < 0))) = true := (want_f rfl rfl (sg.slot 2 (sg.anc 2 rfl))).symm.trans hwant
      exact op_val hwant hgo hst _ (exec_move rfl ((sg.free 1 (by kernel_rfl)).trans so1)) (cI hG)
    · intro LL xx ac wc sg hst hwant QQ hgo
      have hG : (!(decide (s < 0))) = true := (want_f rfl rfl (sg.slot 2 (sg.anc 2 rfl))).symm.trans hwant
      have se8 : ac.eval (.tmp 8) = _ := (cT (sg.slot 3 (sg.anc 3 rfl)) hG)
      have sg8 := gt_of se8
      (try simp only [nth] at se8 sg8)
      exact op_val hwant hgo hst _ (by simp only [execOp, nth]; go_simp <;> omega) (cI hG)
    · intro LL xx ac wc sg hst hwant QQ hgo
      exact op_val hwant hgo hst (.bool ((decide (s < 0)) || (decide (n < 0)))) (exec_or (Y := decide (n < 0)) rfl (sg.slot 2 (sg.anc 2 rfl)) (fun qq => cT (sg.slot 4 (sg.anc 4 rfl)) (bk qq))) rfl
    · intro LL xx ac wc sg hst hwant QQ hgo
      exact op_val hwant hgo hst _ (exec_move rfl (sg.slot 5 (sg.anc 5 rfl))) rfl
    · intro LL xx ac wc sg hst hwant QQ hgo
      have hG : (!((decide (s < 0)) || (decide (n < 0)))) = true := (want_f rfl rfl (sg.slot 6 (sg.anc 6 rfl))).symm.trans hwant
      exact op_val hwant hgo hst _ (exec_move rfl ((sg.free 0 (by kernel_rfl)).trans so0)) (cI hG)
    · intro LL xx ac wc sg hst hwant QQ hgo
      have hG : (!((decide (s < 0)) || (decide (n < 0)))) = true := (want_f rfl rfl (sg.slot 6 (sg.anc 6 rfl))).symm.trans hwant
      exact op_val hwant hgo hst _ (exec_move rfl ((sg.free 1 (by kernel_rfl)).trans so1)) (cI hG)
    · intro LL xx ac wc sg hst hwant QQ hgo
      have hG : (!((decide (s < 0)) || (decide (n < 0)))) = true := (want_f rfl rfl (sg.slot 6 (sg.anc 6 rfl))).symm.trans hwant
      have se12 : ac.eval (.tmp 12) = _ := (cT (sg.slot 7 (sg.anc 7 rfl)) hG)
      have sg12 := gt_of se12
      have se13 : ac.eval (.tmp 13) = _ := (cT (sg.slot 8 (sg.anc 8 rfl)) hG)
      have sg13 := gt_of se13
      (try simp only [nth] at se12 sg12 se13 sg13)
      exact op_val hwant hgo hst _ (by simp only [execOp, nth]; go_simp <;> omega) (cI hG)
    · intro LL xx ac wc sg hst hwant QQ hgo
      have hG : (!((decide (s < 0)) || (decide (n < 0)))) = true := (want_f rfl rfl (sg.slot 6 (sg.anc 6 rfl))).symm.trans hwant
      have se14 : ac.eval (.tmp 14) = _ := (cT (sg.slot 9 (sg.anc 9 rfl)) hG)
      have sg14 := gt_of se14
      (try simp only [nth] at se14 sg14)
      exact op_val hwant hgo hst _ (by simp only [execOp, nth]; go_simp <;> omega) (cI hG)
    · intro LL xx ac wc sg hst hwant QQ hgo
      have hG : (!((decide (s < 0)) || (decide (n < 0)))) = true := (want_f rfl rfl (sg.slot 6 (sg.anc 6 rfl))).symm.trans hwant
      have se15 : ac.eval (.tmp 15) = _ := (cT (sg.slot 10 (sg.anc 10 rfl)) hG)
      have sg15 := gt_of se15
      (try simp only [nth] at se15 sg15)
      exact op_val hwant hgo hst _ (by simp only [execOp, nth]; go_simp <;> omega) (cI hG)
    · intro LL xx ac wc sg hst hwant QQ hgo
      exact op_val hwant hgo hst (.bool (((decide (s < 0)) || (decide (n < 0))) || (((max s n) / 4294967296) != 0))) (exec_or (Y := ((max s n) / 4294967296) != 0) rfl (sg.slot 6 (sg.anc 6 rfl)) (fun qq => cT (sg.slot 11 (sg.anc 11 rfl)) (bk qq))) (congrArg Value.bool (by first | assumption | (simp; done)))
  · refine skips [3, 4, 7, 8, 9, 10, 11] (by kernel_rfl) ?_
    refine List.forall_mem_cons.2 ⟨?_, List.forall_mem_cons.2 ⟨?_, List.forall_mem_cons.2 ⟨?_, List.forall_mem_cons.2 ⟨?_, List.forall_mem_cons.2 ⟨?_, List.forall_mem_cons.2 ⟨?_, List.forall_mem_cons.2 ⟨?_, fun _ h => by cases h⟩⟩⟩⟩⟩⟩⟩
    · intro oo hop LL xx ac sg hwant
      cases Option.some.inj hop
      have hG : (!(decide (s < 0))) = false := (want_f rfl rfl (sg.slot 2 (sg.anc 2 rfl))).symm.trans hwant
      exact ⟨cF hG, fun _ h => h⟩
    · intro oo hop LL xx ac sg hwant
      cases Option.some.inj hop
      have hG : (!(decide (s < 0))) = false := (want_f rfl rfl (sg.slot 2 (sg.anc 2 rfl))).symm.trans hwant
      exact ⟨cF hG, fun _ h => h⟩
    · intro oo hop LL xx ac sg hwant
      cases Option.some.inj hop
      have hG : (!((decide (s < 0)) || (decide (n < 0)))) = false := (want_f rfl rfl (sg.slot 6 (sg.anc 6 rfl))).symm.trans hwant
      exact ⟨cF hG, fun _ h => h⟩
    · intro oo hop LL xx ac sg hwant
      cases Option.some.inj hop
      have hG : (!((decide (s < 0)) || (decide (n < 0)))) = false := (want_f rfl rfl (sg.slot 6 (sg.anc 6 rfl))).symm.trans hwant
      exact ⟨cF hG, fun _ h => h⟩
    · intro oo hop LL xx ac sg hwant
      cases Option.some.inj hop
      have hG : (!((decide (s < 0)) || (decide (n < 0)))) = false := (want_f rfl rfl (sg.slot 6 (sg.anc 6 rfl))).symm.trans hwant
      exact ⟨cF hG, fun _ h => h⟩
    · intro oo hop LL xx ac sg hwant
      cases Option.some.inj hop
      have hG : (!((decide (s < 0)) || (decide (n < 0)))) = false := (want_f rfl rfl (sg.slot 6 (sg.anc 6 rfl))).symm.trans hwant
      exact ⟨cF hG, fun _ h => h⟩
    · intro oo hop LL xx ac sg hwant
      cases Option.some.inj hop
      have hG : (!((decide (s < 0)) || (decide (n < 0)))) = false := (want_f rfl rfl (sg.slot 6 (sg.anc 6 rfl))).symm.trans hwant
      exact ⟨cF hG, fun _ h => h⟩
  · intro xx ac1 wz hfr hsl hst
    exact hfin ac1 wz (hfr.size.trans hz) hfr.defers (fr_keep hfr [5, 6, 7, 8, 9, 10, 11, 12, 13, 14, 15, 16, 17] (by kernel_rfl)) (hsl 12 (by decide)) (Lib.hid hst)
set_option maxRecDepth 20000 in
theorem keyNo_r2 (s : Int) (n : Int) (q : ((decide (s < 0) || decide (n < 0)) || (max s n / 4294967296 != 0)) = true) {wa wb : World} (H : Hid (Hp [] wa wb [])) (ac0 : Act) (hz : ac0.tmps.size = 24)  {QR : Exit → Act → World → Prop} (hfin : ∀ (ac1 : Act) (wz : World), ac1.tmps.size = 24 → ac1.defers = ac0.defers → (∀ t, ([4] : List Nat).contains t = false → ac1.eval (.tmp t) = ac0.eval (.tmp t)) → ac1.eval (.tmp 4) = .int .u64 0 →  Hid (Hp [] wa wz []) → QR .normal ac1 wz) : (regAt Try.f45 2).wp Try.prog QR ac0 wb := by
  refine wp_region_sq (by kernel_rfl) 24 hz (by kernel_rfl) (fun (xx : Unit) jx => nth [.int .u64 0] jx) (fun (LL : Nat → Bool) (xx : Unit) ww => Hp [] wa ww []) () H.out ?_ (steps_al ?_) ?_ ?_
  · exact fun _ _ _ _ _ h => h
  · refine al_cons ?_ (al_nil)
    · intro LL xx ac wc sg hst hwant QQ hgo
      exact op_val hwant hgo hst _ (exec_assign rfl rfl) rfl
  · exact skips [] (by kernel_rfl) (fun _ h => by cases h)
  · intro xx ac1 wz hfr hsl hst
    exact hfin ac1 wz (hfr.size.trans hz) hfr.defers (fr_keep hfr [4] (by kernel_rfl)) (hsl 0 (by decide)) (Lib.hid hst)
set_option maxRecDepth 20000 in
theorem keyNo (s : Int) (n : Int) (w : World) (q : ((decide (s < 0) || decide (n < 0)) || (max s n / 4294967296 != 0)) = true) : Calls Try.prog 45 #[.int .i64 s, .int .i64 n] w fun e w' => e = .returned (.int .u64 0) ∧ Off [] w w' := by
  have H := Lib.hid (Hp.start [] w)
  refine calls_start Try.func45 rfl 24 rfl (by simp) (fun aa nn dd sl => ?_)
  have ss0 : aa.eval (.tmp 0) = .int .i64 s := sl 0 (by simp)
  have ss1 : aa.eval (.tmp 1) = .int .i64 n := sl 1 (by simp)
  clear sl
  refine wp_seq_k fun KK1 hK1 => ?_
  refine keyNo_r0 s n q H aa nn  ?_
  clear H nn
  intro aa ww nn dd1 kp ss4 H
  replace ss0 := (kp 0 rfl).trans ss0
  replace ss1 := (kp 1 rfl).trans ss1
  replace dd := dd1.trans dd
  clear dd1 kp
  refine then_normal ?_
  refine hK1 _ _ ?_
  refine wp_seq_k fun KK2 hK2 => ?_
  refine wp_seq_k fun KK3 hK3 => ?_
  refine keyNo_r1 s n q H aa nn ss0 ss1 ?_
  clear H nn
  intro aa ww nn dd1 kp ss17 H
  replace ss0 := (kp 0 rfl).trans ss0
  replace ss1 := (kp 1 rfl).trans ss1
  replace ss4 := (kp 4 rfl).trans ss4
  replace dd := dd1.trans dd
  clear dd1 kp
  refine then_normal ?_
  refine hK3 _ _ ?_
  refine wp_cond_true ss17 ?_
  refine wp_seq_k fun KK4 hK4 => ?_
  refine keyNo_r2 s n q H aa nn  ?_
  clear H nn ss4
  intro aa ww nn dd1 kp ss4 H
  replace ss0 := (kp 0 rfl).trans ss0
  replace ss1 := (kp 1 rfl).trans ss1
  replace ss17 := (kp 17 rfl).trans ss17
  replace dd := dd1.trans dd
  clear dd1 kp
  refine then_normal ?_
  refine hK4 _ _ ?_
  refine wp_ret ?_
  refine then_ret ?_
  exact ret1 rfl dd ss4 ⟨rfl, H.out.off⟩
set_option maxRecDepth 20000 in
theorem keyYes_r0 (s : Int) (n : Int) (h0 : 0 ≤ s) (h1 : s ≤ 4294967295) (h2 : 0 ≤ n) (h3 : n ≤ 4294967295) (q0 : decide (s < 0) = false) (q1 : decide (n < 0) = false) (q2 : (max s n / 4294967296 != 0) = false) (hor : bits BinOp.or IntKind.u64 (s * 4294967296) n = s * 4294967296 + n) (hw1 : IntKind.u64.wrap s = s) (hw2 : IntKind.u64.wrap n = n) (hw3 : IntKind.u64.wrap (s * 4294967296) = s * 4294967296) {wa wb : World} (H : Hid (Hp [] wa wb [])) (ac0 : Act) (hz : ac0.tmps.size = 24)  {QR : Exit → Act → World → Prop} (hfin : ∀ (ac1 : Act) (wz : World), ac1.tmps.size = 24 → ac1.defers = ac0.defers → (∀ t, ([4] : List Nat).contains t = false → ac1.eval (.tmp t) = ac0.eval (.tmp t)) → ac1.eval (.tmp 4) = .int .u64 0 →  Hid (Hp [] wa wz []) → QR .normal ac1 wz) : (regAt Try.f45 0).wp Try.prog QR ac0 wb := by
  refine wp_region_sq (by kernel_rfl) 24 hz (by kernel_rfl) (fun (xx : Unit) jx => nth [.int .u64 0] jx) (fun (LL : Nat → Bool) (xx : Unit) ww => Hp [] wa ww []) () H.out ?_ (steps_al ?_) ?_ ?_
  · exact fun _ _ _ _ _ h => h
  · refine al_cons ?_ (al_nil)
    · intro LL xx ac wc sg hst hwant QQ hgo
      exact op_val hwant hgo hst _ (exec_assign rfl rfl) rfl
  · exact skips [] (by kernel_rfl) (fun _ h => by cases h)
  · intro xx ac1 wz hfr hsl hst
    exact hfin ac1 wz (hfr.size.trans hz) hfr.defers (fr_keep hfr [4] (by kernel_rfl)) (hsl 0 (by decide)) (Lib.hid hst)
set_option maxRecDepth 20000 in
theorem keyYes_r1 (s : Int) (n : Int) (h0 : 0 ≤ s) (h1 : s ≤ 4294967295) (h2 : 0 ≤ n) (h3 : n ≤ 4294967295) (q0 : decide (s < 0) = false) (q1 : decide (n < 0) = false) (q2 : (max s n / 4294967296 != 0) = false) (hor : bits BinOp.or IntKind.u64 (s * 4294967296) n = s * 4294967296 + n) (hw1 : IntKind.u64.wrap s = s) (hw2 : IntKind.u64.wrap n = n) (hw3 : IntKind.u64.wrap (s * 4294967296) = s * 4294967296) {wa wb : World} (H : Hid (Hp [] wa wb [])) (ac0 : Act) (hz : ac0.tmps.size = 24) (so0 : ac0.eval (.tmp 0) = .int .i64 s) (so1 : ac0.eval (.tmp 1) = .int .i64 n) {QR : Exit → Act → World → Prop} (hfin : ∀ (ac1 : Act) (wz : World), ac1.tmps.size = 24 → ac1.defers = ac0.defers → (∀ t, ([5, 6, 7, 8, 9, 10, 11, 12, 13, 14, 15, 16, 17] : List Nat).contains t = false → ac1.eval (.tmp t) = ac0.eval (.tmp t)) → ac1.eval (.tmp 17) = .bool false →  Hid (Hp [] wa wz []) → QR .normal ac1 wz) : (regAt Try.f45 1).wp Try.prog QR ac0 wb := by
  refine wp_region_sq (by kernel_rfl) 24 hz (by kernel_rfl) (fun (xx : Unit) jx => nth [.int .i64 s, .bool false, .bool false, .int .i64 n, .bool false, .bool false, .bool false, .int .i64 s, .int .i64 n, .int .i64 (max s n), .int .i64 ((max s n) / 4294967296), .bool false, .bool false] jx) (fun (LL : Nat → Bool) (xx : Unit) ww => Hp [] wa ww []) () H.out ?_ (steps_al ?_) ?_ ?_
  · exact fun _ _ _ _ _ h => h
  · refine al_cons ?_ (al_cons ?_ (al_cons ?_ (al_cons ?_ (al_cons ?_ (al_cons ?_ (al_cons ?_ (al_cons ?_ (al_cons ?_ (al_cons ?_ (al_cons ?_ (al_cons ?_ (al_cons ?_ (al_nil)))))))))))))
    · intro LL xx ac wc sg hst hwant QQ hgo
      exact op_val hwant hgo hst _ (exec_move rfl ((sg.free 0 (by kernel_rfl)).trans so0)) rfl
    · intro LL xx ac wc sg hst hwant QQ hgo
      have se5 : ac.eval (.tmp 5) = _ := (sg.slot 0 (sg.anc 0 rfl))
      have sg5 := gt_of se5
      (try simp only [nth] at se5 sg5)
      exact op_val hwant hgo hst _ (by simp only [execOp, nth]; go_simp <;> omega) rfl
    · intro LL xx ac wc sg hst hwant QQ hgo
      exact op_val hwant hgo hst _ (exec_move rfl (sg.slot 1 (sg.anc 1 rfl))) rfl
    · intro LL xx ac wc sg hst hwant QQ hgo
      exact op_val hwant hgo hst _ (exec_move rfl ((sg.free 1 (by kernel_rfl)).trans so1)) rfl
    · intro LL xx ac wc sg hst hwant QQ hgo
      have se8 : ac.eval (.tmp 8) = _ := (sg.slot 3 (sg.anc 3 rfl))
      have sg8 := gt_of se8
      (try simp only [nth] at se8 sg8)
      exact op_val hwant hgo hst _ (by simp only [execOp, nth]; go_simp <;> omega) rfl
    · intro LL xx ac wc sg hst hwant QQ hgo
      exact op_val hwant hgo hst (.bool false) (exec_pick (B := false) (U := undef) (V := .bool false) rfl (sg.slot 2 (sg.anc 2 rfl)) (fun h => by cases h) (fun _ => (sg.slot 4 (sg.anc 4 rfl)))) rfl
    · intro LL xx ac wc sg hst hwant QQ hgo
      exact op_val hwant hgo hst _ (exec_move rfl (sg.slot 5 (sg.anc 5 rfl))) rfl
    · intro LL xx ac wc sg hst hwant QQ hgo
      exact op_val hwant hgo hst _ (exec_move rfl ((sg.free 0 (by kernel_rfl)).trans so0)) rfl
    · intro LL xx ac wc sg hst hwant QQ hgo
      exact op_val hwant hgo hst _ (exec_move rfl ((sg.free 1 (by kernel_rfl)).trans so1)) rfl
    · intro LL xx ac wc sg hst hwant QQ hgo
      have se12 : ac.eval (.tmp 12) = _ := (sg.slot 7 (sg.anc 7 rfl))
      have sg12 := gt_of se12
      have se13 : ac.eval (.tmp 13) = _ := (sg.slot 8 (sg.anc 8 rfl))
      have sg13 := gt_of se13
      (try simp only [nth] at se12 sg12 se13 sg13)
      exact op_val hwant hgo hst _ (by simp only [execOp, nth]; go_simp <;> omega) rfl
    · intro LL xx ac wc sg hst hwant QQ hgo
      have se14 : ac.eval (.tmp 14) = _ := (sg.slot 9 (sg.anc 9 rfl))
      have sg14 := gt_of se14
      (try simp only [nth] at se14 sg14)
      exact op_val hwant hgo hst _ (by simp only [execOp, nth]; go_simp <;> omega) rfl
    · intro LL xx ac wc sg hst hwant QQ hgo
      have se15 : ac.eval (.tmp 15) = _ := (sg.slot 10 (sg.anc 10 rfl))
      have sg15 := gt_of se15
      (try simp only [nth] at se15 sg15)
      exact op_val hwant hgo hst _ (by simp only [execOp, nth]; go_simp <;> omega) rfl
    · intro LL xx ac wc sg hst hwant QQ hgo
      exact op_val hwant hgo hst (.bool false) (exec_pick (B := false) (U := undef) (V := .bool false) rfl (sg.slot 6 (sg.anc 6 rfl)) (fun h => by cases h) (fun _ => (sg.slot 11 (sg.anc 11 rfl)))) rfl
  · refine skips [3, 4, 7, 8, 9, 10, 11] (by kernel_rfl) ?_
    refine List.forall_mem_cons.2 ⟨?_, List.forall_mem_cons.2 ⟨?_, List.forall_mem_cons.2 ⟨?_, List.forall_mem_cons.2 ⟨?_, List.forall_mem_cons.2 ⟨?_, List.forall_mem_cons.2 ⟨?_, List.forall_mem_cons.2 ⟨?_, fun _ h => by cases h⟩⟩⟩⟩⟩⟩⟩
    · intro oo hop LL xx ac sg hwant
      cases Option.some.inj hop
      exact absurd ((want_f rfl rfl (sg.slot 2 (sg.anc 2 rfl))).symm.trans hwant) (by decide)
    · intro oo hop LL xx ac sg hwant
      cases Option.some.inj hop
      exact absurd ((want_f rfl rfl (sg.slot 2 (sg.anc 2 rfl))).symm.trans hwant) (by decide)
    · intro oo hop LL xx ac sg hwant
      cases Option.some.inj hop
      exact absurd ((want_f rfl rfl (sg.slot 6 (sg.anc 6 rfl))).symm.trans hwant) (by decide)
    · intro oo hop LL xx ac sg hwant
      cases Option.some.inj hop
      exact absurd ((want_f rfl rfl (sg.slot 6 (sg.anc 6 rfl))).symm.trans hwant) (by decide)
    · intro oo hop LL xx ac sg hwant
      cases Option.some.inj hop
      exact absurd ((want_f rfl rfl (sg.slot 6 (sg.anc 6 rfl))).symm.trans hwant) (by decide)
    · intro oo hop LL xx ac sg hwant
      cases Option.some.inj hop
      exact absurd ((want_f rfl rfl (sg.slot 6 (sg.anc 6 rfl))).symm.trans hwant) (by decide)
    · intro oo hop LL xx ac sg hwant
      cases Option.some.inj hop
      exact absurd ((want_f rfl rfl (sg.slot 6 (sg.anc 6 rfl))).symm.trans hwant) (by decide)
  · intro xx ac1 wz hfr hsl hst
    exact hfin ac1 wz (hfr.size.trans hz) hfr.defers (fr_keep hfr [5, 6, 7, 8, 9, 10, 11, 12, 13, 14, 15, 16, 17] (by kernel_rfl)) (hsl 12 (by decide)) (Lib.hid hst)
set_option maxRecDepth 20000 in
theorem keyYes_r3 (s : Int) (n : Int) (h0 : 0 ≤ s) (h1 : s ≤ 4294967295) (h2 : 0 ≤ n) (h3 : n ≤ 4294967295) (q0 : decide (s < 0) = false) (q1 : decide (n < 0) = false) (q2 : (max s n / 4294967296 != 0) = false) (hor : bits BinOp.or IntKind.u64 (s * 4294967296) n = s * 4294967296 + n) (hw1 : IntKind.u64.wrap s = s) (hw2 : IntKind.u64.wrap n = n) (hw3 : IntKind.u64.wrap (s * 4294967296) = s * 4294967296) {wa wb : World} (H : Hid (Hp [] wa wb [])) (ac0 : Act) (hz : ac0.tmps.size = 24) (so0 : ac0.eval (.tmp 0) = .int .i64 s) (so1 : ac0.eval (.tmp 1) = .int .i64 n) {QR : Exit → Act → World → Prop} (hfin : ∀ (ac1 : Act) (wz : World), ac1.tmps.size = 24 → ac1.defers = ac0.defers → (∀ t, ([4, 18, 19, 20, 21, 22, 23] : List Nat).contains t = false → ac1.eval (.tmp t) = ac0.eval (.tmp t)) → ac1.eval (.tmp 4) = .int .u64 (s * 4294967296 + n) →  Hid (Hp [] wa wz []) → QR .normal ac1 wz) : (regAt Try.f45 3).wp Try.prog QR ac0 wb := by
  refine wp_region_sq (by kernel_rfl) 24 hz (by kernel_rfl) (fun (xx : Unit) jx => nth [.int .i64 s, .int .u64 s, .int .u64 (s * 4294967296), .int .i64 n, .int .u64 n, .int .u64 (s * 4294967296 + n), .int .u64 (s * 4294967296 + n)] jx) (fun (LL : Nat → Bool) (xx : Unit) ww => Hp [] wa ww []) () H.out ?_ (steps_al ?_) ?_ ?_
  · exact fun _ _ _ _ _ h => h
  · refine al_cons ?_ (al_cons ?_ (al_cons ?_ (al_cons ?_ (al_cons ?_ (al_cons ?_ (al_cons ?_ (al_nil)))))))
    · intro LL xx ac wc sg hst hwant QQ hgo
      exact op_val hwant hgo hst _ (exec_move rfl ((sg.free 0 (by kernel_rfl)).trans so0)) rfl
    · intro LL xx ac wc sg hst hwant QQ hgo
      have se18 : ac.eval (.tmp 18) = _ := (sg.slot 0 (sg.anc 0 rfl))
      have sg18 := gt_of se18
      (try simp only [nth] at se18 sg18)
      exact op_val hwant hgo hst _ (by simp only [execOp, nth]; go_simp <;> omega) rfl
    · intro LL xx ac wc sg hst hwant QQ hgo
      have se19 : ac.eval (.tmp 19) = _ := (sg.slot 1 (sg.anc 1 rfl))
      have sg19 := gt_of se19
      (try simp only [nth] at se19 sg19)
      exact op_val hwant hgo hst _ (by simp only [execOp, nth]; go_simp <;> omega) rfl
    · intro LL xx ac wc sg hst hwant QQ hgo
      exact op_val hwant hgo hst _ (exec_move rfl ((sg.free 1 (by kernel_rfl)).trans so1)) rfl
    · intro LL xx ac wc sg hst hwant QQ hgo
      have se21 : ac.eval (.tmp 21) = _ := (sg.slot 3 (sg.anc 3 rfl))
      have sg21 := gt_of se21
      (try simp only [nth] at se21 sg21)
      exact op_val hwant hgo hst _ (by simp only [execOp, nth]; go_simp <;> omega) rfl
    · intro LL xx ac wc sg hst hwant QQ hgo
      have se20 : ac.eval (.tmp 20) = _ := (sg.slot 2 (sg.anc 2 rfl))
      have sg20 := gt_of se20
      have se22 : ac.eval (.tmp 22) = _ := (sg.slot 4 (sg.anc 4 rfl))
      have sg22 := gt_of se22
      (try simp only [nth] at se20 sg20 se22 sg22)
      exact op_val hwant hgo hst _ (by simp only [execOp, nth]; go_simp <;> omega) rfl
    · intro LL xx ac wc sg hst hwant QQ hgo
      exact op_val hwant hgo hst _ (exec_assign rfl (sg.slot 5 (sg.anc 5 rfl))) rfl
  · exact skips [] (by kernel_rfl) (fun _ h => by cases h)
  · intro xx ac1 wz hfr hsl hst
    exact hfin ac1 wz (hfr.size.trans hz) hfr.defers (fr_keep hfr [4, 18, 19, 20, 21, 22, 23] (by kernel_rfl)) (hsl 6 (by decide)) (Lib.hid hst)
set_option maxRecDepth 20000 in
theorem keyYes (s : Int) (n : Int) (w : World) (h0 : 0 ≤ s) (h1 : s ≤ 4294967295) (h2 : 0 ≤ n) (h3 : n ≤ 4294967295) (q0 : decide (s < 0) = false) (q1 : decide (n < 0) = false) (q2 : (max s n / 4294967296 != 0) = false) (hor : bits BinOp.or IntKind.u64 (s * 4294967296) n = s * 4294967296 + n) : Calls Try.prog 45 #[.int .i64 s, .int .i64 n] w fun e w' => e = .returned (.int .u64 (s * 4294967296 + n)) ∧ Off [] w w' := by
  have H := Lib.hid (Hp.start [] w)
  refine calls_start Try.func45 rfl 24 rfl (by simp) (fun aa nn dd sl => ?_)
  have ss0 : aa.eval (.tmp 0) = .int .i64 s := sl 0 (by simp)
  have ss1 : aa.eval (.tmp 1) = .int .i64 n := sl 1 (by simp)
  clear sl
  have hw1 : IntKind.u64.wrap s = s := IntWalk.u64_in _ (by omega)
  have hw2 : IntKind.u64.wrap n = n := IntWalk.u64_in _ (by omega)
  have hw3 : IntKind.u64.wrap (s * 4294967296) = s * 4294967296 := IntWalk.u64_in _ (by omega)
  refine wp_seq_k fun KK1 hK1 => ?_
  refine keyYes_r0 s n h0 h1 h2 h3 q0 q1 q2 hor hw1 hw2 hw3 H aa nn  ?_
  clear H nn
  intro aa ww nn dd1 kp ss4 H
  replace ss0 := (kp 0 rfl).trans ss0
  replace ss1 := (kp 1 rfl).trans ss1
  replace dd := dd1.trans dd
  clear dd1 kp
  refine then_normal ?_
  refine hK1 _ _ ?_
  refine wp_seq_k fun KK2 hK2 => ?_
  refine wp_seq_k fun KK3 hK3 => ?_
  refine keyYes_r1 s n h0 h1 h2 h3 q0 q1 q2 hor hw1 hw2 hw3 H aa nn ss0 ss1 ?_
  clear H nn
  intro aa ww nn dd1 kp ss17 H
  replace ss0 := (kp 0 rfl).trans ss0
  replace ss1 := (kp 1 rfl).trans ss1
  replace ss4 := (kp 4 rfl).trans ss4
  replace dd := dd1.trans dd
  clear dd1 kp
  refine then_normal ?_
  refine hK3 _ _ ?_
  refine wp_cond_false ss17 ?_
  refine wp_skip ?_
  refine then_normal ?_
  refine hK2 _ _ ?_
  refine wp_seq_k fun KK4 hK4 => ?_
  refine keyYes_r3 s n h0 h1 h2 h3 q0 q1 q2 hor hw1 hw2 hw3 H aa nn ss0 ss1 ?_
  clear H nn ss4
  intro aa ww nn dd1 kp ss4 H
  replace ss0 := (kp 0 rfl).trans ss0
  replace ss1 := (kp 1 rfl).trans ss1
  replace ss17 := (kp 17 rfl).trans ss17
  replace dd := dd1.trans dd
  clear dd1 kp
  refine then_normal ?_
  refine hK4 _ _ ?_
  refine wp_ret ?_
  exact ret1 rfl dd ss4 ⟨rfl, H.out.off⟩
set_option maxRecDepth 20000 in
theorem isGoodC_r0 (c : Cfg) (key : Int) (hk0 : 0 ≤ key) (hk1 : key ≤ 18446744073709551615) {wa wb : World} (H : Hid (Hp [] wa wb [])) (ac0 : Act) (hz : ac0.tmps.size = 25) (so0 : ac0.eval (.tmp 0) = .agg (cA c)) {QR : Exit → Act → World → Prop} (hfin : ∀ (b3 : Nat) (ac1 : Act) (wz : World), ac1.tmps.size = 25 → ac1.defers = ac0.defers → (∀ t, ([3, 6] : List Nat).contains t = false → ac1.eval (.tmp t) = ac0.eval (.tmp t)) → ac1.eval (.tmp 3) = .pointer (some ⟨b3, 0, none⟩) → ac1.eval (.tmp 6) = .bool false →  Hid (Hp [] wa wz [rB b3 24 (cL c)]) → QR .normal ac1 wz) : (regAt Try.f49 0).wp Try.prog QR ac0 wb := by
  refine wp_region_sq (by kernel_rfl) 25 hz (by kernel_rfl) (fun (xx : Nat) jx => match xx with | b3 => nth [.pointer (some ⟨b3, 0, none⟩), .bool false] jx) (fun (LL : Nat → Bool) (xx : Nat) ww => match xx with | b3 => Hp [] wa ww (bif LL 0 then [rB b3 24 (cL c)] else [])) default H.out ?_ (steps_al ?_) ?_ ?_
  · intro L1 L2 xx ww hL sg
    have lh0 := hL 0 (by decide)
    simp only [lh0] at sg
    exact sg
  · refine al_cons ?_ (al_cons ?_ (al_nil))
    · intro LL xx ac wc sg hst hwant QQ hgo
      revert sg hst hgo; revert xx; intro xold sg hst hgo
      have H := Lib.hid hst
      simp only [sg.self, cond_true, cond_false] at H
      refine hp_box rfl 24 _ rfl _ ((sg.free 0 (by kernel_rfl)).trans so0) _ (by rfl) H ?_
      intro wd b3 H2
      exact hgo _ b3 _ (sg.agree (x' := b3) (n := 2) rfl (by (iterate 2 (refine ix_cons (by first | exact fun _ => rfl | exact no sg.self | exact no (sg.des _ rfl)) ?_)); exact ix_nil)) rfl (by simp only [(show upd LL 0 0 = true from rfl), cond_true, cond_false]; exact H2.out)
    · intro LL xx ac wc sg hst hwant QQ hgo
      revert sg hst hgo; revert xx; intro b3 sg hst hgo
      exact op_val hwant hgo hst _ (exec_assign rfl rfl) rfl
  · exact skips [] (by kernel_rfl) (fun _ h => by cases h)
  · intro xx ac1 wz hfr hsl hst
    revert hsl hst; revert xx; intro b3 hsl hst
    exact hfin b3 ac1 wz (hfr.size.trans hz) hfr.defers (fr_keep hfr [3, 6] (by kernel_rfl)) (hsl 0 (by decide)) (hsl 1 (by decide)) (Lib.hid hst)
set_option maxRecDepth 20000 in
theorem isGoodC_r1 (c : Cfg) (key : Int) (now : Int) (hk0 : 0 ≤ key) (hk1 : key ≤ 18446744073709551615) (b3 : Nat) {wa wb : World} (H : Hid (Hp [] wa wb [rB b3 24 (cL c)])) (ac0 : Act) (hz : ac0.tmps.size = 25) (so1 : ac0.eval (.tmp 1) = .int .u64 key) (so2 : ac0.eval (.tmp 2) = .int .i64 now) (so3 : ac0.eval (.tmp 3) = .pointer (some ⟨b3, 0, none⟩)) {QR : Exit → Act → World → Prop} (hfin : ∀ (ac1 : Act) (wz : World), ac1.tmps.size = 25 → ac1.defers = ac0.defers → (∀ t, ([6, 7, 8, 9, 10, 11, 12, 13, 14, 15, 16, 17, 18, 19, 20, 21, 22, 23, 24] : List Nat).contains t = false → ac1.eval (.tmp t) = ac0.eval (.tmp t)) → ac1.eval (.tmp 6) = .bool ((((checkV c) == 0) && (decide ((key / 4294967296) ≤ now))) && (decide (now ≤ (IntKind.i64.wrap ((key / 4294967296) + c.window))))) →  Hid (Hp [] wa wz [rB b3 24 (cL c)]) → QR .normal ac1 wz) : (regAt Try.f49 1).wp Try.prog QR ac0 wb := by
  refine wp_region_st mixedP ⟨[0, 1, 2, 3, 4, 4, 5, 6, 7, 8, 9, 9, 10, 9, 10, 11, 12, 13, 14], by kernel_rfl⟩ [[], [0], [0, 1], [0, 1, 2], [0, 1, 2, 3], [0, 1, 2, 3], [0, 1, 2, 3, 5], [0, 1, 2, 3, 4, 5, 6], [0, 1, 2, 3, 4, 5, 6, 7], [0, 1, 2, 3, 4, 5, 6, 7, 8], [0, 1, 2, 3, 4, 5, 6, 7, 8, 9], [0, 1, 2, 3, 4, 5, 6, 7, 8, 9], [0, 1, 2, 3, 4, 5, 6, 7, 8, 9, 11], [0, 1, 2, 3, 4, 5, 6, 7, 8, 9], [0, 1, 2, 3, 4, 5, 6, 7, 8, 9, 13], [0, 1, 2, 3, 4, 5, 6, 7, 8, 9, 11, 12, 13, 14], [0, 1, 2, 3, 4, 5, 6, 7, 8, 9, 10, 11, 12, 13, 14, 15], [0, 1, 2, 3, 4, 5, 6, 7, 8, 9, 10, 11, 12, 13, 14, 15, 16], [0, 1, 2, 3, 4, 5, 6, 7, 8, 9, 10, 11, 12, 13, 14, 15, 16, 17]] (by kernel_rfl) (by kernel_rfl) 25 hz (by kernel_rfl) (fun (xx : Unit) jx => nth [.agg (cA c), .int .i64 (checkV c), .bool ((checkV c) == 0), .bool ((checkV c) == 0), bif ((checkV c) == 0) then .int .i64 now else undef, bif ((checkV c) == 0) then .int .u64 key else undef, bif ((checkV c) == 0) then .int .i64 (key / 4294967296) else undef, bif ((checkV c) == 0) then .bool (decide ((key / 4294967296) ≤ now)) else undef, .bool (((checkV c) == 0) && (decide ((key / 4294967296) ≤ now))), .bool (((checkV c) == 0) && (decide ((key / 4294967296) ≤ now))), bif (((checkV c) == 0) && (decide ((key / 4294967296) ≤ now))) then .int .i64 now else undef, bif (((checkV c) == 0) && (decide ((key / 4294967296) ≤ now))) then .int .u64 key else undef, bif (((checkV c) == 0) && (decide ((key / 4294967296) ≤ now))) then .int .i64 (key / 4294967296) else undef, bif (((checkV c) == 0) && (decide ((key / 4294967296) ≤ now))) then .pointer (some ⟨b3, 6, none⟩) else undef, bif (((checkV c) == 0) && (decide ((key / 4294967296) ≤ now))) then .int .i64 c.window else undef, bif (((checkV c) == 0) && (decide ((key / 4294967296) ≤ now))) then .int .i64 (IntKind.i64.wrap ((key / 4294967296) + c.window)) else undef, bif (((checkV c) == 0) && (decide ((key / 4294967296) ≤ now))) then .bool (decide (now ≤ (IntKind.i64.wrap ((key / 4294967296) + c.window)))) else undef, .bool ((((checkV c) == 0) && (decide ((key / 4294967296) ≤ now))) && (decide (now ≤ (IntKind.i64.wrap ((key / 4294967296) + c.window))))), .bool ((((checkV c) == 0) && (decide ((key / 4294967296) ≤ now))) && (decide (now ≤ (IntKind.i64.wrap ((key / 4294967296) + c.window)))))] jx) (fun (LL : Nat → Bool) (xx : Unit) ww => Hp [] wa ww [rB b3 24 (cL c)]) () H.out.drew ?_ (steps_al ?_) ?_ ?_
  · exact fun _ _ _ _ _ h => h
  · refine al_cons ?_ (al_cons ?_ (al_cons ?_ (al_cons ?_ (al_cons ?_ (al_cons ?_ (al_cons ?_ (al_cons ?_ (al_cons ?_ (al_cons ?_ (al_cons ?_ (al_cons ?_ (al_cons ?_ (al_cons ?_ (al_cons ?_ (al_cons ?_ (al_cons ?_ (al_cons ?_ (al_cons ?_ (al_nil)))))))))))))))))))
    · intro LL xx ac wc sg hst hwant QQ hgo
      have H := Lib.hid hst
      refine hpA_load tyapi_Config H rfl ((sg.free 3 (by kernel_rfl)).trans so3) hwant (by (repeat (first | exact List.Mem.head _ | apply List.Mem.tail))) (by rfl) rfl ?_
      exact hgo _ () _ (fun _ _ => rfl) rfl hst
    · intro LL xx ac wc sg hst hwant QQ hgo
      have se7 : ac.eval (.tmp 7) = _ := (sg.slot 0 (sg.anc 0 rfl))
      have sg7 := gt_of se7
      (try simp only [nth] at se7 sg7)
      refine op_call hwant hgo 65 #[.agg (cA c)] (by simp only [execOp]; go_simp) (check c wc) ?_
      rintro er wd ⟨rfl, hof⟩
      exact ⟨_, (), rfl, fun _ _ => rfl, rfl, Hp.quiet hst hof⟩
    · intro LL xx ac wc sg hst hwant QQ hgo
      have se8 : ac.eval (.tmp 8) = _ := (sg.slot 1 (sg.anc 1 rfl))
      have sg8 := gt_of se8
      (try simp only [nth] at se8 sg8)
      exact op_val hwant hgo hst _ (by simp only [execOp, nth]; go_simp <;> omega) rfl
    · intro LL xx ac wc sg hst hwant QQ hgo
      exact op_val hwant hgo hst _ (exec_move rfl (sg.slot 2 (sg.anc 2 rfl))) rfl
    · intro LL xx ac wc sg hst hwant QQ hgo
      have hG : ((checkV c) == 0) = true := (want_t rfl rfl (sg.slot 3 (sg.anc 3 rfl))).symm.trans hwant
      exact op_val hwant hgo hst _ (exec_move rfl ((sg.free 2 (by kernel_rfl)).trans so2)) (cI hG)
    · intro LL xx ac wc sg hst hwant QQ hgo
      have hG : ((checkV c) == 0) = true := (want_t rfl rfl (sg.slot 3 (sg.anc 3 rfl))).symm.trans hwant
      exact op_val hwant hgo hst _ (exec_move rfl ((sg.free 1 (by kernel_rfl)).trans so1)) (cI hG)
    · intro LL xx ac wc sg hst hwant QQ hgo
      have hG : ((checkV c) == 0) = true := (want_t rfl rfl (sg.slot 3 (sg.anc 3 rfl))).symm.trans hwant
      have se12 : ac.eval (.tmp 12) = _ := (cT (sg.slot 5 (sg.anc 5 rfl)) hG)
      have sg12 := gt_of se12
      (try simp only [nth] at se12 sg12)
      refine op_call hwant hgo 46 _ (by simp only [execOp]; go_simp) (stampC key wc hk0 hk1) ?_
      rintro er wd ⟨rfl, hof⟩
      exact ⟨_, (), rfl, fun _ _ => rfl, (cI hG), Hp.quiet hst hof⟩
    · intro LL xx ac wc sg hst hwant QQ hgo
      have hG : ((checkV c) == 0) = true := (want_t rfl rfl (sg.slot 3 (sg.anc 3 rfl))).symm.trans hwant
      have se11 : ac.eval (.tmp 11) = _ := (cT (sg.slot 4 (sg.anc 4 rfl)) hG)
      have sg11 := gt_of se11
      have se13 : ac.eval (.tmp 13) = _ := (cT (sg.slot 6 (sg.anc 6 rfl)) hG)
      have sg13 := gt_of se13
      (try simp only [nth] at se11 sg11 se13 sg13)
      exact op_val hwant hgo hst _ (by simp only [execOp, nth]; go_simp <;> omega) (cI hG)
    · intro LL xx ac wc sg hst hwant QQ hgo
      exact op_val hwant hgo hst (.bool (((checkV c) == 0) && (decide ((key / 4294967296) ≤ now)))) (exec_and (Y := decide ((key / 4294967296) ≤ now)) rfl (sg.slot 3 (sg.anc 3 rfl)) (fun qq => cT (sg.slot 7 (sg.anc 7 rfl)) qq)) rfl
    · intro LL xx ac wc sg hst hwant QQ hgo
      exact op_val hwant hgo hst _ (exec_move rfl (sg.slot 8 (sg.anc 8 rfl))) rfl
    · intro LL xx ac wc sg hst hwant QQ hgo
      have hG : (((checkV c) == 0) && (decide ((key / 4294967296) ≤ now))) = true := (want_t rfl rfl (sg.slot 9 (sg.anc 9 rfl))).symm.trans hwant
      exact op_val hwant hgo hst _ (exec_move rfl ((sg.free 2 (by kernel_rfl)).trans so2)) (cI hG)
    · intro LL xx ac wc sg hst hwant QQ hgo
      have hG : (((checkV c) == 0) && (decide ((key / 4294967296) ≤ now))) = true := (want_t rfl rfl (sg.slot 9 (sg.anc 9 rfl))).symm.trans hwant
      exact op_val hwant hgo hst _ (exec_move rfl ((sg.free 1 (by kernel_rfl)).trans so1)) (cI hG)
    · intro LL xx ac wc sg hst hwant QQ hgo
      have hG : (((checkV c) == 0) && (decide ((key / 4294967296) ≤ now))) = true := (want_t rfl rfl (sg.slot 9 (sg.anc 9 rfl))).symm.trans hwant
      have se18 : ac.eval (.tmp 18) = _ := (cT (sg.slot 11 (sg.anc 11 rfl)) hG)
      have sg18 := gt_of se18
      (try simp only [nth] at se18 sg18)
      refine op_call hwant hgo 46 _ (by simp only [execOp]; go_simp) (stampC key wc hk0 hk1) ?_
      rintro er wd ⟨rfl, hof⟩
      exact ⟨_, (), rfl, fun _ _ => rfl, (cI hG), Hp.quiet hst hof⟩
    · intro LL xx ac wc sg hst hwant QQ hgo
      have hG : (((checkV c) == 0) && (decide ((key / 4294967296) ≤ now))) = true := (want_t rfl rfl (sg.slot 9 (sg.anc 9 rfl))).symm.trans hwant
      have se3 : ac.eval (.tmp 3) = _ := ((sg.free 3 (by kernel_rfl)).trans so3)
      have sg3 := gt_of se3
      exact op_val hwant hgo hst _ (by simp only [execOp, nth]; go_simp <;> omega) (cI hG)
    · intro LL xx ac wc sg hst hwant QQ hgo
      have hG : (((checkV c) == 0) && (decide ((key / 4294967296) ≤ now))) = true := (want_t rfl rfl (sg.slot 9 (sg.anc 9 rfl))).symm.trans hwant
      have H := Lib.hid hst
      refine hpA_load1 tyint H rfl (cT (sg.slot 13 (sg.anc 13 rfl)) hG) hwant (by (repeat (first | exact List.Mem.head _ | apply List.Mem.tail))) (by rfl) ?_
      exact hgo _ () _ (fun _ _ => rfl) (cI hG) hst
    · intro LL xx ac wc sg hst hwant QQ hgo
      have hG : (((checkV c) == 0) && (decide ((key / 4294967296) ≤ now))) = true := (want_t rfl rfl (sg.slot 9 (sg.anc 9 rfl))).symm.trans hwant
      have se19 : ac.eval (.tmp 19) = _ := (cT (sg.slot 12 (sg.anc 12 rfl)) hG)
      have sg19 := gt_of se19
      have se21 : ac.eval (.tmp 21) = _ := (cT (sg.slot 14 (sg.anc 14 rfl)) hG)
      have sg21 := gt_of se21
      (try simp only [nth] at se19 sg19 se21 sg21)
      exact op_val hwant hgo hst _ (by simp only [execOp, nth]; go_simp <;> omega) (cI hG)
    · intro LL xx ac wc sg hst hwant QQ hgo
      have hG : (((checkV c) == 0) && (decide ((key / 4294967296) ≤ now))) = true := (want_t rfl rfl (sg.slot 9 (sg.anc 9 rfl))).symm.trans hwant
      have se17 : ac.eval (.tmp 17) = _ := (cT (sg.slot 10 (sg.anc 10 rfl)) hG)
      have sg17 := gt_of se17
      have se22 : ac.eval (.tmp 22) = _ := (cT (sg.slot 15 (sg.anc 15 rfl)) hG)
      have sg22 := gt_of se22
      (try simp only [nth] at se17 sg17 se22 sg22)
      exact op_val hwant hgo hst _ (by simp only [execOp, nth]; go_simp <;> omega) (cI hG)
    · intro LL xx ac wc sg hst hwant QQ hgo
      exact op_val hwant hgo hst (.bool ((((checkV c) == 0) && (decide ((key / 4294967296) ≤ now))) && (decide (now ≤ (IntKind.i64.wrap ((key / 4294967296) + c.window)))))) (exec_and (Y := decide (now ≤ (IntKind.i64.wrap ((key / 4294967296) + c.window)))) rfl (sg.slot 9 (sg.anc 9 rfl)) (fun qq => cT (sg.slot 16 (sg.anc 16 rfl)) qq)) rfl
    · intro LL xx ac wc sg hst hwant QQ hgo
      exact op_val hwant hgo hst _ (exec_assign rfl (sg.slot 17 (sg.anc 17 rfl))) rfl
  · refine skips [4, 5, 6, 7, 10, 11, 12, 13, 14, 15, 16] (by kernel_rfl) ?_
    refine List.forall_mem_cons.2 ⟨?_, List.forall_mem_cons.2 ⟨?_, List.forall_mem_cons.2 ⟨?_, List.forall_mem_cons.2 ⟨?_, List.forall_mem_cons.2 ⟨?_, List.forall_mem_cons.2 ⟨?_, List.forall_mem_cons.2 ⟨?_, List.forall_mem_cons.2 ⟨?_, List.forall_mem_cons.2 ⟨?_, List.forall_mem_cons.2 ⟨?_, List.forall_mem_cons.2 ⟨?_, fun _ h => by cases h⟩⟩⟩⟩⟩⟩⟩⟩⟩⟩⟩
    · intro oo hop LL xx ac sg hwant
      cases Option.some.inj hop
      have hG : ((checkV c) == 0) = false := (want_t rfl rfl (sg.slot 3 (sg.anc 3 rfl))).symm.trans hwant
      exact ⟨cF hG, fun _ h => h⟩
    · intro oo hop LL xx ac sg hwant
      cases Option.some.inj hop
      have hG : ((checkV c) == 0) = false := (want_t rfl rfl (sg.slot 3 (sg.anc 3 rfl))).symm.trans hwant
      exact ⟨cF hG, fun _ h => h⟩
    · intro oo hop LL xx ac sg hwant
      cases Option.some.inj hop
      have hG : ((checkV c) == 0) = false := (want_t rfl rfl (sg.slot 3 (sg.anc 3 rfl))).symm.trans hwant
      exact ⟨cF hG, fun _ h => h⟩
    · intro oo hop LL xx ac sg hwant
      cases Option.some.inj hop
      have hG : ((checkV c) == 0) = false := (want_t rfl rfl (sg.slot 3 (sg.anc 3 rfl))).symm.trans hwant
      exact ⟨cF hG, fun _ h => h⟩
    · intro oo hop LL xx ac sg hwant
      cases Option.some.inj hop
      have hG : (((checkV c) == 0) && (decide ((key / 4294967296) ≤ now))) = false := (want_t rfl rfl (sg.slot 9 (sg.anc 9 rfl))).symm.trans hwant
      exact ⟨cF hG, fun _ h => h⟩
    · intro oo hop LL xx ac sg hwant
      cases Option.some.inj hop
      have hG : (((checkV c) == 0) && (decide ((key / 4294967296) ≤ now))) = false := (want_t rfl rfl (sg.slot 9 (sg.anc 9 rfl))).symm.trans hwant
      exact ⟨cF hG, fun _ h => h⟩
    · intro oo hop LL xx ac sg hwant
      cases Option.some.inj hop
      have hG : (((checkV c) == 0) && (decide ((key / 4294967296) ≤ now))) = false := (want_t rfl rfl (sg.slot 9 (sg.anc 9 rfl))).symm.trans hwant
      exact ⟨cF hG, fun _ h => h⟩
    · intro oo hop LL xx ac sg hwant
      cases Option.some.inj hop
      have hG : (((checkV c) == 0) && (decide ((key / 4294967296) ≤ now))) = false := (want_t rfl rfl (sg.slot 9 (sg.anc 9 rfl))).symm.trans hwant
      exact ⟨cF hG, fun _ h => h⟩
    · intro oo hop LL xx ac sg hwant
      cases Option.some.inj hop
      have hG : (((checkV c) == 0) && (decide ((key / 4294967296) ≤ now))) = false := (want_t rfl rfl (sg.slot 9 (sg.anc 9 rfl))).symm.trans hwant
      exact ⟨cF hG, fun _ h => h⟩
    · intro oo hop LL xx ac sg hwant
      cases Option.some.inj hop
      have hG : (((checkV c) == 0) && (decide ((key / 4294967296) ≤ now))) = false := (want_t rfl rfl (sg.slot 9 (sg.anc 9 rfl))).symm.trans hwant
      exact ⟨cF hG, fun _ h => h⟩
    · intro oo hop LL xx ac sg hwant
      cases Option.some.inj hop
      have hG : (((checkV c) == 0) && (decide ((key / 4294967296) ≤ now))) = false := (want_t rfl rfl (sg.slot 9 (sg.anc 9 rfl))).symm.trans hwant
      exact ⟨cF hG, fun _ h => h⟩
  · intro xx ac1 wz hfr hsl hst
    exact hfin ac1 wz (hfr.size.trans hz) hfr.defers (fr_keep hfr [6, 7, 8, 9, 10, 11, 12, 13, 14, 15, 16, 17, 18, 19, 20, 21, 22, 23, 24] (by kernel_rfl)) (hsl 18 (by decide)) (Lib.hid hst)
set_option maxRecDepth 20000 in
theorem isGoodC (c : Cfg) (key : Int) (now : Int) (w : World) (hk0 : 0 ≤ key) (hk1 : key ≤ 18446744073709551615) : Calls Try.prog 49 #[.agg (cA c), .int .u64 key, .int .i64 now] w fun e w' => e = .returned (.bool (isGoodV c key now)) ∧ Off [] w w' := by
  have H := Lib.hid (Hp.start [] w)
  refine calls_start Try.func49 rfl 25 rfl (by simp) (fun aa nn dd sl => ?_)
  have ss0 : aa.eval (.tmp 0) = .agg (cA c) := sl 0 (by simp)
  have ss1 : aa.eval (.tmp 1) = .int .u64 key := sl 1 (by simp)
  have ss2 : aa.eval (.tmp 2) = .int .i64 now := sl 2 (by simp)
  clear sl
  refine wp_seq_k fun KK1 hK1 => ?_
  refine isGoodC_r0 c key hk0 hk1 H aa nn ss0 ?_
  clear H nn
  intro b3 aa ww nn dd1 kp ss3 ss6 H
  replace ss0 := (kp 0 rfl).trans ss0
  replace ss1 := (kp 1 rfl).trans ss1
  replace ss2 := (kp 2 rfl).trans ss2
  replace dd := dd1.trans dd
  clear dd1 kp
  refine then_normal ?_
  refine hK1 _ _ ?_
  refine wp_seq_k fun KK2 hK2 => ?_
  refine isGoodC_r1 c key now hk0 hk1 b3 H aa nn ss1 ss2 ss3 ?_
  clear H nn ss6
  intro aa ww nn dd1 kp ss6 H
  replace ss0 := (kp 0 rfl).trans ss0
  replace ss1 := (kp 1 rfl).trans ss1
  replace ss2 := (kp 2 rfl).trans ss2
  replace ss3 := (kp 3 rfl).trans ss3
  replace dd := dd1.trans dd
  clear dd1 kp
  refine then_normal ?_
  refine hK2 _ _ ?_
  refine wp_ret ?_
  exact ret1 rfl dd ss6 ⟨rfl, H.out.off⟩
end Go.Proofs.Ytfhhfmkfkoemjaa.Se6
