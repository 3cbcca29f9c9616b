/- Nothing is new twice: the walk. -/
import Derived.Test.YtfhhfmkfkoemjaaProg
import Derived.Below
import Derived.WalkKit
import Derived.KernelRfl
import Derived.RowKit3
import Derived.Deep.LoopGhost
import Derived.Deep.QuietTactic
import Derived.BigQuiet
import Derived.WideLaws
import Derived.Deep.DeepCutAuto
import Derived.Deep.CutBlock
import Derived.Lib.Hide
import Derived.Laws.BitsLemmas
import Derived.Laws.Bits64
import Derived.Laws.BitsAllLaws
import Derived.IntWalk
import Derived.Outline
import Derived.WalkSpells
import Derived.Test.YtfhhfmkfkoemjaaMem
import Derived.Test.YtfhhfmkfkoemjaaLwKeysOncea
namespace Go.Proofs.Ytfhhfmkfkoemjaa.Se6
open Go.RowKit Go.Proofs.Ytfhhfmkfkoemjaa.Mem Go.Proofs.Ytfhhfmkfkoemjaa.Reg Go.Proofs.Ytfhhfmkfkoemjaa.Pk Go.Proofs.Ytfhhfmkfkoemjaa.Si
set_option linter.unusedVariables false
set_option linter.unusedSimpArgs false

set_option maxRecDepth 20000 in
theorem once_w_r26 (c : Cfg) (rc : Nat) (acts : List ActK) (b2 : Nat) (b5 : Nat) (i : Nat) (a : Option Addr) (cc : Nat) (ps : List PairV) (now : Int) (ad : Option Addr) (cd : Nat) (ds : List ActK) (hi : i ≤ acts.length) (hi2 : i ≤ 80) (hl : ps.length ≤ i) (hd : ds.length ≤ i) (hn0 : 0 ≤ now) (hn1 : now ≤ 3 * i) (z1ld : i < acts.length) (z1rd : (i : Int) < 80) (y : Addr) (x : ActK) (hk0 : 0 ≤ x.key) (hk1 : x.key ≤ 18446744073709551615) (b9 : Nat) (z2d : ¬ (40 < (x.body.size : Int))) (m : Nat) (hm1 : m ≤ 3) (hm : IntKind.i64.wrap ((IntKind.u64.wrap x.now).tmod 4) = (m : Int)) (hm0 : now ≤ now + m) (hxb : x.body.size ≤ 40) (hfl : (ps.filter (keepB (mkC c) (now + m))).length ≤ i) (j : Nat) (hj0 : j ≤ ds.length) (z3d : ¬ (j < ds.length)) (a22_11 : Option Addr) (c22_11 : Nat) (b15 : Nat) {wa wb : World} (H : Hid (Hp [] wa wb [rB b15 84 (kL (mkC c) (mkR c) (.slice a22_11 ((wOnce c ps (now + m) x).length) c22_11)), rS a22_11 c22_11 4 ((wOnce c ps (now + m) x).map rowOf), rB b9 87 [.int .i64 x.kind, .int .i64 x.now, .int .i64 x.who, .int .u64 x.key, .string x.body], rA ad cd 87 5 (ds.map actRow), rB b5 84 (kL (mkC c) (mkR c) (.slice a ps.length cc)), rB b2 24 (cL c), rS a cc 4 (ps.map rowOf), rS (some y) rc 5 (acts.map actRow)])) (ac0 : Act) (hz : ac0.tmps.size = 192) (so2 : ac0.eval (.tmp 2) = .pointer (some ⟨b2, 0, none⟩)) (so5 : ac0.eval (.tmp 5) = .pointer (some ⟨b5, 0, none⟩)) (so6 : ac0.eval (.tmp 6) = .int .i64 (now + m)) (so15 : ac0.eval (.tmp 15) = .pointer (some ⟨b15, 0, none⟩)) {QR : Exit → Act → World → Prop} (hfin : ∀ (ac1 : Act) (wz : World), ac1.tmps.size = 192 → ac1.defers = ac0.defers → (∀ t, ([171, 172, 173, 174, 175, 176, 177, 178, 179, 180, 181, 182, 183, 184, 185, 186] : List Nat).contains t = false → ac1.eval (.tmp t) = ac0.eval (.tmp t)) → ac1.eval (.tmp 186) = .bool (((((wOnce c ps (now + m) x).filter (keepB (mkC c) (now + m))).length : Int) != (((ps.filter (keepB (mkC c) (now + m))).length : Int) + 1)) || (decide (c.keys < (((wOnce c ps (now + m) x).filter (keepB (mkC c) (now + m))).length : Int)))) →  Hid (Hp [] wa wz [rB b15 84 (kL (mkC c) (mkR c) (.slice a22_11 ((wOnce c ps (now + m) x).length) c22_11)), rS a22_11 c22_11 4 ((wOnce c ps (now + m) x).map rowOf), rB b9 87 [.int .i64 x.kind, .int .i64 x.now, .int .i64 x.who, .int .u64 x.key, .string x.body], rA ad cd 87 5 (ds.map actRow), rB b5 84 (kL (mkC c) (mkR c) (.slice a ps.length cc)), rB b2 24 (cL c), rS a cc 4 (ps.map rowOf), rS (some y) rc 5 (acts.map actRow)]) → QR .normal ac1 wz) : (regAt Try.f10 26).wp Try.prog QR ac0 wb := by
  refine wp_region_st mixedP ⟨[0, 0, 1, 0, 0, 2, 3, 4, 5, 6, 6, 7, 6, 7, 8, 9], by kernel_rfl⟩ [[], [], [0, 1], [], [], [0, 1, 2, 3, 4], [0, 1, 2, 3, 4, 5], [0, 1, 2, 3, 4, 5, 6], [0, 1, 2, 3, 4, 5, 6, 7], [0, 1, 2, 3, 4, 5, 6, 7, 8], [0, 1, 2, 3, 4, 5, 6, 7, 8], [0, 1, 2, 3, 4, 5, 6, 7, 8, 9, 10], [0, 1, 2, 3, 4, 5, 6, 7, 8], [0, 1, 2, 3, 4, 5, 6, 7, 8, 12], [0, 1, 2, 3, 4, 5, 6, 7, 8, 9, 10, 11, 12, 13], [0, 1, 2, 3, 4, 5, 6, 7, 8, 9, 10, 11, 12, 13, 14]] (by kernel_rfl) (by kernel_rfl) 192 hz (by kernel_rfl) (fun (xx : Unit) jx => nth [.agg (kA (mkC c) (mkR c) (.slice a22_11 ((wOnce c ps (now + m) x).length) c22_11)), .int .i64 (now + m), .int .i64 (((wOnce c ps (now + m) x).filter (keepB (mkC c) (now + m))).length), .agg (kA (mkC c) (mkR c) (.slice a ps.length cc)), .int .i64 (now + m), .int .i64 ((ps.filter (keepB (mkC c) (now + m))).length), .int .i64 (((ps.filter (keepB (mkC c) (now + m))).length : Int) + 1), .bool ((((wOnce c ps (now + m) x).filter (keepB (mkC c) (now + m))).length : Int) != (((ps.filter (keepB (mkC c) (now + m))).length : Int) + 1)), .bool ((((wOnce c ps (now + m) x).filter (keepB (mkC c) (now + m))).length : Int) != (((ps.filter (keepB (mkC c) (now + m))).length : Int) + 1)), bif !((((wOnce c ps (now + m) x).filter (keepB (mkC c) (now + m))).length : Int) != (((ps.filter (keepB (mkC c) (now + m))).length : Int) + 1)) then .agg (kA (mkC c) (mkR c) (.slice a22_11 ((wOnce c ps (now + m) x).length) c22_11)) else undef, bif !((((wOnce c ps (now + m) x).filter (keepB (mkC c) (now + m))).length : Int) != (((ps.filter (keepB (mkC c) (now + m))).length : Int) + 1)) then .int .i64 (now + m) else undef, bif !((((wOnce c ps (now + m) x).filter (keepB (mkC c) (now + m))).length : Int) != (((ps.filter (keepB (mkC c) (now + m))).length : Int) + 1)) then .int .i64 (((wOnce c ps (now + m) x).filter (keepB (mkC c) (now + m))).length) else undef, bif !((((wOnce c ps (now + m) x).filter (keepB (mkC c) (now + m))).length : Int) != (((ps.filter (keepB (mkC c) (now + m))).length : Int) + 1)) then .pointer (some ⟨b2, 5, none⟩) else undef, bif !((((wOnce c ps (now + m) x).filter (keepB (mkC c) (now + m))).length : Int) != (((ps.filter (keepB (mkC c) (now + m))).length : Int) + 1)) then .int .i64 c.keys else undef, bif !((((wOnce c ps (now + m) x).filter (keepB (mkC c) (now + m))).length : Int) != (((ps.filter (keepB (mkC c) (now + m))).length : Int) + 1)) then .bool (decide (c.keys < (((wOnce c ps (now + m) x).filter (keepB (mkC c) (now + m))).length : Int))) else undef, .bool (((((wOnce c ps (now + m) x).filter (keepB (mkC c) (now + m))).length : Int) != (((ps.filter (keepB (mkC c) (now + m))).length : Int) + 1)) || (decide (c.keys < (((wOnce c ps (now + m) x).filter (keepB (mkC c) (now + m))).length : Int))))] jx) (fun (LL : Nat → Bool) (xx : Unit) ww => Hp [] wa ww [rB b15 84 (kL (mkC c) (mkR c) (.slice a22_11 ((wOnce c ps (now + m) x).length) c22_11)), rS a22_11 c22_11 4 ((wOnce c ps (now + m) x).map rowOf), rB b9 87 [.int .i64 x.kind, .int .i64 x.now, .int .i64 x.who, .int .u64 x.key, .string x.body], rA ad cd 87 5 (ds.map actRow), rB b5 84 (kL (mkC c) (mkR c) (.slice a ps.length cc)), rB b2 24 (cL c), rS a cc 4 (ps.map rowOf), rS (some y) rc 5 (acts.map actRow)]) () H.out.drew ?_ (steps_al ?_) ?_ ?_
  · exact fun _ _ _ _ _ h => h
  · refine al_cons ?_ (al_cons ?_ (al_cons ?_ (al_cons ?_ (al_cons ?_ (al_cons ?_ (al_cons ?_ (al_cons ?_ (al_cons ?_ (al_cons ?_ (al_cons ?_ (al_cons ?_ (al_cons ?_ (al_cons ?_ (al_cons ?_ (al_cons ?_ (al_nil))))))))))))))))
    · intro LL xx ac wc sg hst hwant QQ hgo
      have H := Lib.hid hst
      refine hpA_load tykeys_Keys H rfl ((sg.free 15 (by kernel_rfl)).trans so15) hwant (by (repeat (first | exact List.Mem.head _ | apply List.Mem.tail))) (by rfl) rfl ?_
      exact hgo _ () _ (fun _ _ => rfl) rfl hst
    · intro LL xx ac wc sg hst hwant QQ hgo
      exact op_val hwant hgo hst _ (exec_move rfl ((sg.free 6 (by kernel_rfl)).trans so6)) rfl
    · intro LL xx ac wc sg hst hwant QQ hgo
      have se171 : ac.eval (.tmp 171) = _ := (sg.slot 0 (sg.anc 0 rfl))
      have sg171 := gt_of se171
      have se172 : ac.eval (.tmp 172) = _ := (sg.slot 1 (sg.anc 1 rfl))
      have sg172 := gt_of se172
      (try simp only [nth] at se171 sg171 se172 sg172)
      have H := Lib.hid hst
      refine op_call hwant hgo 51 _ (by simp only [execOp]; go_simp) (countC (mkC c) (mkR c) a22_11 c22_11 (wOnce c ps (now + m) x) (now + m) wc (hp_held H (by (repeat (first | exact List.Mem.head _ | apply List.Mem.tail)))) (by have hfw : (wOnce c ps (now + m) x).length ≤ i + 1 := few_add (c := mkC c) (room := mkR c) hl (now + m) x.who x.key x.body (x.body ++ (⟨#[33]⟩ : ByteArray)); omega)) ?_
      rintro er wd ⟨rfl, hof⟩
      exact ⟨_, (), rfl, fun _ _ => rfl, rfl, Hp.quiet hst hof⟩
    · intro LL xx ac wc sg hst hwant QQ hgo
      have H := Lib.hid hst
      refine hpA_load tykeys_Keys H rfl ((sg.free 5 (by kernel_rfl)).trans so5) hwant (by (repeat (first | exact List.Mem.head _ | apply List.Mem.tail))) (by rfl) rfl ?_
      exact hgo _ () _ (fun _ _ => rfl) rfl hst
    · intro LL xx ac wc sg hst hwant QQ hgo
      exact op_val hwant hgo hst _ (exec_move rfl ((sg.free 6 (by kernel_rfl)).trans so6)) rfl
    · intro LL xx ac wc sg hst hwant QQ hgo
      have se174 : ac.eval (.tmp 174) = _ := (sg.slot 3 (sg.anc 3 rfl))
      have sg174 := gt_of se174
      have se175 : ac.eval (.tmp 175) = _ := (sg.slot 4 (sg.anc 4 rfl))
      have sg175 := gt_of se175
      (try simp only [nth] at se174 sg174 se175 sg175)
      have H := Lib.hid hst
      refine op_call hwant hgo 51 _ (by simp only [execOp]; go_simp) (countC (mkC c) (mkR c) a cc ps (now + m) wc (hp_held H (by (repeat (first | exact List.Mem.head _ | apply List.Mem.tail)))) (by omega)) ?_
      rintro er wd ⟨rfl, hof⟩
      exact ⟨_, (), rfl, fun _ _ => rfl, rfl, Hp.quiet hst hof⟩
    · intro LL xx ac wc sg hst hwant QQ hgo
      have se176 : ac.eval (.tmp 176) = _ := (sg.slot 5 (sg.anc 5 rfl))
      have sg176 := gt_of se176
      (try simp only [nth] at se176 sg176)
      have hnw : IntKind.i64.wrap (((ps.filter (keepB (mkC c) (now + m))).length : Int) + 1 : Int) = ((ps.filter (keepB (mkC c) (now + m))).length : Int) + 1 := IntWalk.i64_in _ (by omega)
      exact op_val hwant hgo hst _ (by simp only [execOp, nth]; go_simp <;> omega) rfl
    · intro LL xx ac wc sg hst hwant QQ hgo
      have se173 : ac.eval (.tmp 173) = _ := (sg.slot 2 (sg.anc 2 rfl))
      have sg173 := gt_of se173
      have se177 : ac.eval (.tmp 177) = _ := (sg.slot 6 (sg.anc 6 rfl))
      have sg177 := gt_of se177
      (try simp only [nth] at se173 sg173 se177 sg177)
      exact op_val hwant hgo hst _ (by simp only [execOp, nth]; go_simp <;> omega) rfl
    · intro LL xx ac wc sg hst hwant QQ hgo
      exact op_val hwant hgo hst _ (exec_move rfl (sg.slot 7 (sg.anc 7 rfl))) rfl
    · intro LL xx ac wc sg hst hwant QQ hgo
      have hG : (!((((wOnce c ps (now + m) x).filter (keepB (mkC c) (now + m))).length : Int) != (((ps.filter (keepB (mkC c) (now + m))).length : Int) + 1))) = true := (want_f rfl rfl (sg.slot 8 (sg.anc 8 rfl))).symm.trans hwant
      have H := Lib.hid hst
      refine hpA_load tykeys_Keys H rfl ((sg.free 15 (by kernel_rfl)).trans so15) hwant (by (repeat (first | exact List.Mem.head _ | apply List.Mem.tail))) (by rfl) rfl ?_
      exact hgo _ () _ (fun _ _ => rfl) (cI hG) hst
    · intro LL xx ac wc sg hst hwant QQ hgo
      have hG : (!((((wOnce c ps (now + m) x).filter (keepB (mkC c) (now + m))).length : Int) != (((ps.filter (keepB (mkC c) (now + m))).length : Int) + 1))) = true := (want_f rfl rfl (sg.slot 8 (sg.anc 8 rfl))).symm.trans hwant
      exact op_val hwant hgo hst _ (exec_move rfl ((sg.free 6 (by kernel_rfl)).trans so6)) (cI hG)
    · intro LL xx ac wc sg hst hwant QQ hgo
      have hG : (!((((wOnce c ps (now + m) x).filter (keepB (mkC c) (now + m))).length : Int) != (((ps.filter (keepB (mkC c) (now + m))).length : Int) + 1))) = true := (want_f rfl rfl (sg.slot 8 (sg.anc 8 rfl))).symm.trans hwant
      have se180 : ac.eval (.tmp 180) = _ := (cT (sg.slot 9 (sg.anc 9 rfl)) hG)
      have sg180 := gt_of se180
      have se181 : ac.eval (.tmp 181) = _ := (cT (sg.slot 10 (sg.anc 10 rfl)) hG)
      have sg181 := gt_of se181
      (try simp only [nth] at se180 sg180 se181 sg181)
      have H := Lib.hid hst
      refine op_call hwant hgo 51 _ (by simp only [execOp]; go_simp) (countC (mkC c) (mkR c) a22_11 c22_11 (wOnce c ps (now + m) x) (now + m) wc (hp_held H (by (repeat (first | exact List.Mem.head _ | apply List.Mem.tail)))) (by have hfw : (wOnce c ps (now + m) x).length ≤ i + 1 := few_add (c := mkC c) (room := mkR c) hl (now + m) x.who x.key x.body (x.body ++ (⟨#[33]⟩ : ByteArray)); omega)) ?_
      rintro er wd ⟨rfl, hof⟩
      exact ⟨_, (), rfl, fun _ _ => rfl, (cI hG), Hp.quiet hst hof⟩
    · intro LL xx ac wc sg hst hwant QQ hgo
      have hG : (!((((wOnce c ps (now + m) x).filter (keepB (mkC c) (now + m))).length : Int) != (((ps.filter (keepB (mkC c) (now + m))).length : Int) + 1))) = true := (want_f rfl rfl (sg.slot 8 (sg.anc 8 rfl))).symm.trans hwant
      have se2 : ac.eval (.tmp 2) = _ := ((sg.free 2 (by kernel_rfl)).trans so2)
      have sg2 := gt_of se2
      exact op_val hwant hgo hst _ (by simp only [execOp, nth]; go_simp <;> omega) (cI hG)
    · intro LL xx ac wc sg hst hwant QQ hgo
      have hG : (!((((wOnce c ps (now + m) x).filter (keepB (mkC c) (now + m))).length : Int) != (((ps.filter (keepB (mkC c) (now + m))).length : Int) + 1))) = true := (want_f rfl rfl (sg.slot 8 (sg.anc 8 rfl))).symm.trans hwant
      have H := Lib.hid hst
      refine hpA_load1 tyint H rfl (cT (sg.slot 12 (sg.anc 12 rfl)) hG) hwant (by (repeat (first | exact List.Mem.head _ | apply List.Mem.tail))) (by rfl) ?_
      exact hgo _ () _ (fun _ _ => rfl) (cI hG) hst
    · intro LL xx ac wc sg hst hwant QQ hgo
      have hG : (!((((wOnce c ps (now + m) x).filter (keepB (mkC c) (now + m))).length : Int) != (((ps.filter (keepB (mkC c) (now + m))).length : Int) + 1))) = true := (want_f rfl rfl (sg.slot 8 (sg.anc 8 rfl))).symm.trans hwant
      have se182 : ac.eval (.tmp 182) = _ := (cT (sg.slot 11 (sg.anc 11 rfl)) hG)
      have sg182 := gt_of se182
      have se184 : ac.eval (.tmp 184) = _ := (cT (sg.slot 13 (sg.anc 13 rfl)) hG)
      have sg184 := gt_of se184
      (try simp only [nth] at se182 sg182 se184 sg184)
      exact op_val hwant hgo hst _ (by simp only [execOp, nth]; go_simp <;> omega) (cI hG)
    · intro LL xx ac wc sg hst hwant QQ hgo
      exact op_val hwant hgo hst (.bool (((((wOnce c ps (now + m) x).filter (keepB (mkC c) (now + m))).length : Int) != (((ps.filter (keepB (mkC c) (now + m))).length : Int) + 1)) || (decide (c.keys < (((wOnce c ps (now + m) x).filter (keepB (mkC c) (now + m))).length : Int))))) (exec_or (Y := decide (c.keys < (((wOnce c ps (now + m) x).filter (keepB (mkC c) (now + m))).length : Int))) rfl (sg.slot 8 (sg.anc 8 rfl)) (fun qq => cT (sg.slot 14 (sg.anc 14 rfl)) (bk qq))) rfl
  · refine skips [9, 10, 11, 12, 13, 14] (by kernel_rfl) ?_
    refine List.forall_mem_cons.2 ⟨?_, List.forall_mem_cons.2 ⟨?_, List.forall_mem_cons.2 ⟨?_, List.forall_mem_cons.2 ⟨?_, List.forall_mem_cons.2 ⟨?_, List.forall_mem_cons.2 ⟨?_, fun _ h => by cases h⟩⟩⟩⟩⟩⟩
    · intro oo hop LL xx ac sg hwant
      cases Option.some.inj hop
      have hG : (!((((wOnce c ps (now + m) x).filter (keepB (mkC c) (now + m))).length : Int) != (((ps.filter (keepB (mkC c) (now + m))).length : Int) + 1))) = false := (want_f rfl rfl (sg.slot 8 (sg.anc 8 rfl))).symm.trans hwant
      exact ⟨cF hG, fun _ h => h⟩
    · intro oo hop LL xx ac sg hwant
      cases Option.some.inj hop
      have hG : (!((((wOnce c ps (now + m) x).filter (keepB (mkC c) (now + m))).length : Int) != (((ps.filter (keepB (mkC c) (now + m))).length : Int) + 1))) = false := (want_f rfl rfl (sg.slot 8 (sg.anc 8 rfl))).symm.trans hwant
      exact ⟨cF hG, fun _ h => h⟩
    · intro oo hop LL xx ac sg hwant
      cases Option.some.inj hop
      have hG : (!((((wOnce c ps (now + m) x).filter (keepB (mkC c) (now + m))).length : Int) != (((ps.filter (keepB (mkC c) (now + m))).length : Int) + 1))) = false := (want_f rfl rfl (sg.slot 8 (sg.anc 8 rfl))).symm.trans hwant
      exact ⟨cF hG, fun _ h => h⟩
    · intro oo hop LL xx ac sg hwant
      cases Option.some.inj hop
      have hG : (!((((wOnce c ps (now + m) x).filter (keepB (mkC c) (now + m))).length : Int) != (((ps.filter (keepB (mkC c) (now + m))).length : Int) + 1))) = false := (want_f rfl rfl (sg.slot 8 (sg.anc 8 rfl))).symm.trans hwant
      exact ⟨cF hG, fun _ h => h⟩
    · intro oo hop LL xx ac sg hwant
      cases Option.some.inj hop
      have hG : (!((((wOnce c ps (now + m) x).filter (keepB (mkC c) (now + m))).length : Int) != (((ps.filter (keepB (mkC c) (now + m))).length : Int) + 1))) = false := (want_f rfl rfl (sg.slot 8 (sg.anc 8 rfl))).symm.trans hwant
      exact ⟨cF hG, fun _ h => h⟩
    · intro oo hop LL xx ac sg hwant
      cases Option.some.inj hop
      have hG : (!((((wOnce c ps (now + m) x).filter (keepB (mkC c) (now + m))).length : Int) != (((ps.filter (keepB (mkC c) (now + m))).length : Int) + 1))) = false := (want_f rfl rfl (sg.slot 8 (sg.anc 8 rfl))).symm.trans hwant
      exact ⟨cF hG, fun _ h => h⟩
  · intro xx ac1 wz hfr hsl hst
    exact hfin ac1 wz (hfr.size.trans hz) hfr.defers (fr_keep hfr [171, 172, 173, 174, 175, 176, 177, 178, 179, 180, 181, 182, 183, 184, 185, 186] (by kernel_rfl)) (hsl 15 (by decide)) (Lib.hid hst)
set_option maxRecDepth 20000 in
theorem once_w_r28 (c : Cfg) (rc : Nat) (acts : List ActK) (b2 : Nat) (b5 : Nat) (i : Nat) (a : Option Addr) (cc : Nat) (ps : List PairV) (now : Int) (ad : Option Addr) (cd : Nat) (ds : List ActK) (hi : i ≤ acts.length) (hi2 : i ≤ 80) (hl : ps.length ≤ i) (hd : ds.length ≤ i) (hn0 : 0 ≤ now) (hn1 : now ≤ 3 * i) (z1ld : i < acts.length) (z1rd : (i : Int) < 80) (y : Addr) (x : ActK) (hk0 : 0 ≤ x.key) (hk1 : x.key ≤ 18446744073709551615) (b9 : Nat) (z2d : ¬ (40 < (x.body.size : Int))) (m : Nat) (hm1 : m ≤ 3) (hm : IntKind.i64.wrap ((IntKind.u64.wrap x.now).tmod 4) = (m : Int)) (hm0 : now ≤ now + m) (hxb : x.body.size ≤ 40) (hfl : (ps.filter (keepB (mkC c) (now + m))).length ≤ i) (j : Nat) (hj0 : j ≤ ds.length) (z3d : ¬ (j < ds.length)) (a22_11 : Option Addr) (c22_11 : Nat) (b15 : Nat) (z9rd : ¬ (c.keys < (((wOnce c ps (now + m) x).filter (keepB (mkC c) (now + m))).length : Int))) {wa wb : World} (H : Hid (Hp [] wa wb [rB b15 84 (kL (mkC c) (mkR c) (.slice a22_11 ((wOnce c ps (now + m) x).length) c22_11)), rS a22_11 c22_11 4 ((wOnce c ps (now + m) x).map rowOf), rB b9 87 [.int .i64 x.kind, .int .i64 x.now, .int .i64 x.who, .int .u64 x.key, .string x.body], rA ad cd 87 5 (ds.map actRow), rB b5 84 (kL (mkC c) (mkR c) (.slice a ps.length cc)), rB b2 24 (cL c), rS a cc 4 (ps.map rowOf), rS (some y) rc 5 (acts.map actRow)])) (ac0 : Act) (hz : ac0.tmps.size = 192) (so7 : ac0.eval (.tmp 7) = .slice ad ds.length cd) (so9 : ac0.eval (.tmp 9) = .pointer (some ⟨b9, 0, none⟩)) {QR : Exit → Act → World → Prop} (hfin : ∀ (b189 : Nat) (a190 : Option Addr) (c190 : Nat) (ac1 : Act) (wz : World), ac1.tmps.size = 192 → ac1.defers = ac0.defers → (∀ t, ([7, 187, 188, 189, 190] : List Nat).contains t = false → ac1.eval (.tmp t) = ac0.eval (.tmp t)) → ac1.eval (.tmp 7) = .slice a190 ((ds ++ [x]).length) c190 →  Hid (Hp [] wa wz [rB b189 87 [.int .i64 x.kind, .int .i64 x.now, .int .i64 x.who, .int .u64 x.key, .string x.body], rB b15 84 (kL (mkC c) (mkR c) (.slice a22_11 ((wOnce c ps (now + m) x).length) c22_11)), rS a22_11 c22_11 4 ((wOnce c ps (now + m) x).map rowOf), rB b9 87 [.int .i64 x.kind, .int .i64 x.now, .int .i64 x.who, .int .u64 x.key, .string x.body], rA a190 c190 87 5 ((ds ++ [x]).map actRow), rB b5 84 (kL (mkC c) (mkR c) (.slice a ps.length cc)), rB b2 24 (cL c), rS a cc 4 (ps.map rowOf), rS (some y) rc 5 (acts.map actRow)]) → QR .normal ac1 wz) : (regAt Try.f10 28).wp Try.prog QR ac0 wb := by
  refine wp_region_sq (by kernel_rfl) 192 hz (by kernel_rfl) (fun (xx : Nat × Option Addr × Nat) jx => match xx with | (b189, a190, c190) => nth [.slice ad ds.length cd, .agg #[.int .i64 x.kind, .int .i64 x.now, .int .i64 x.who, .int .u64 x.key, .string x.body], .slice (some ⟨b189, 0, none⟩) 1 1, .slice a190 ((ds ++ [x]).length) c190, .slice a190 ((ds ++ [x]).length) c190] jx) (fun (LL : Nat → Bool) (xx : Nat × Option Addr × Nat) ww => match xx with | (b189, a190, c190) => Hp [] wa ww (bif LL 3 then [rB b189 87 [.int .i64 x.kind, .int .i64 x.now, .int .i64 x.who, .int .u64 x.key, .string x.body], rB b15 84 (kL (mkC c) (mkR c) (.slice a22_11 ((wOnce c ps (now + m) x).length) c22_11)), rS a22_11 c22_11 4 ((wOnce c ps (now + m) x).map rowOf), rB b9 87 [.int .i64 x.kind, .int .i64 x.now, .int .i64 x.who, .int .u64 x.key, .string x.body], rA a190 c190 87 5 ((ds ++ [x]).map actRow), rB b5 84 (kL (mkC c) (mkR c) (.slice a ps.length cc)), rB b2 24 (cL c), rS a cc 4 (ps.map rowOf), rS (some y) rc 5 (acts.map actRow)] else (bif LL 2 then [rB b189 87 [.int .i64 x.kind, .int .i64 x.now, .int .i64 x.who, .int .u64 x.key, .string x.body], rB b15 84 (kL (mkC c) (mkR c) (.slice a22_11 ((wOnce c ps (now + m) x).length) c22_11)), rS a22_11 c22_11 4 ((wOnce c ps (now + m) x).map rowOf), rB b9 87 [.int .i64 x.kind, .int .i64 x.now, .int .i64 x.who, .int .u64 x.key, .string x.body], rA ad cd 87 5 (ds.map actRow), rB b5 84 (kL (mkC c) (mkR c) (.slice a ps.length cc)), rB b2 24 (cL c), rS a cc 4 (ps.map rowOf), rS (some y) rc 5 (acts.map actRow)] else [rB b15 84 (kL (mkC c) (mkR c) (.slice a22_11 ((wOnce c ps (now + m) x).length) c22_11)), rS a22_11 c22_11 4 ((wOnce c ps (now + m) x).map rowOf), rB b9 87 [.int .i64 x.kind, .int .i64 x.now, .int .i64 x.who, .int .u64 x.key, .string x.body], rA ad cd 87 5 (ds.map actRow), rB b5 84 (kL (mkC c) (mkR c) (.slice a ps.length cc)), rB b2 24 (cL c), rS a cc 4 (ps.map rowOf), rS (some y) rc 5 (acts.map actRow)]))) (default, default, default) H.out ?_ (steps_al ?_) ?_ ?_
  · intro L1 L2 xx ww hL sg
    have lh2 := hL 2 (by decide)
    have lh3 := hL 3 (by decide)
    simp only [lh2, lh3] at sg
    exact sg
  · refine al_cons ?_ (al_cons ?_ (al_cons ?_ (al_cons ?_ (al_cons ?_ (al_nil)))))
    · intro LL xx ac wc sg hst hwant QQ hgo
      obtain ⟨b189, a190, c190⟩ := xx
      exact op_val hwant hgo hst _ (exec_move rfl ((sg.yet 7 4 (sg.des 4 rfl) (by kernel_rfl)).trans so7)) rfl
    · intro LL xx ac wc sg hst hwant QQ hgo
      obtain ⟨b189, a190, c190⟩ := xx
      have H := Lib.hid hst
      simp only [sg.des 2 rfl, sg.des 3 rfl, cond_true, cond_false] at H
      refine hpA_load tyhoistwaylaw10_Act H rfl ((sg.free 9 (by kernel_rfl)).trans so9) hwant (by (repeat (first | exact List.Mem.head _ | apply List.Mem.tail))) (by rfl) rfl ?_
      exact hgo _ (b189, a190, c190) _ (fun _ _ => rfl) rfl hst
    · intro LL xx ac wc sg hst hwant QQ hgo
      obtain ⟨_, a190, c190⟩ := xx
      have H := Lib.hid hst
      simp only [sg.self, sg.des 3 rfl, cond_true, cond_false] at H
      have se188 : ac.eval (.tmp 188) = _ := (sg.slot 1 (sg.anc 1 rfl))
      have sg188 := gt_of se188
      (try simp only [nth] at se188 sg188)
      refine hpA_bslice Try.underlying79 tyhoistwaylaw10_Act H rfl rfl (by decide) (by decide) (by first | (go_simp; rfl) | rfl | (simp; rfl)) ?_
      intro wd b189 H2
      exact hgo _ (b189, a190, c190) _ (sg.agree (x' := (b189, a190, c190)) (n := 5) rfl (by (iterate 5 (refine ix_cons (by first | exact fun _ => rfl | exact no sg.self | exact no (sg.des _ rfl)) ?_)); exact ix_nil)) rfl (by simp only [(show upd LL 2 2 = true from rfl), (show upd LL 2 3 = LL 3 from rfl), sg.des 3 rfl, cond_true, cond_false]; exact H2.out)
    · intro LL xx ac wc sg hst hwant QQ hgo
      obtain ⟨b189, _, _⟩ := xx
      have H := Lib.hid hst
      simp only [sg.anc 2 rfl, sg.self, cond_true, cond_false] at H
      refine hp_append (news := [actRow x]) elAct H rfl rfl 4 rfl (sg.slot 0 (sg.anc 0 rfl)) (by simp) (sg.slot 2 (sg.anc 2 rfl)) rfl (hp_single (e := 87) H (by (repeat (first | exact List.Mem.head _ | apply List.Mem.tail))) rfl (by simp [actRow, Value.oneCell'])) (by simp; omega) (by decide) ?_
      intro wd a190 c190 H2
      rw [show ds.map actRow ++ [actRow x] = (ds ++ [x]).map actRow by simp] at H2 ⊢
      rw [List.length_map]
      exact hgo _ (b189, a190, c190) _ (sg.agree (x' := (b189, a190, c190)) (n := 5) rfl (by (iterate 5 (refine ix_cons (by first | exact fun _ => rfl | exact no sg.self | exact no (sg.des _ rfl)) ?_)); exact ix_nil)) rfl (by simp only [(show upd LL 3 2 = LL 2 from rfl), sg.anc 2 rfl, (show upd LL 3 3 = true from rfl), cond_true, cond_false]; exact H2.out)
    · intro LL xx ac wc sg hst hwant QQ hgo
      obtain ⟨b189, a190, c190⟩ := xx
      exact op_val hwant hgo hst _ (exec_assign rfl (sg.slot 3 (sg.anc 3 rfl))) rfl
  · exact skips [] (by kernel_rfl) (fun _ h => by cases h)
  · intro xx ac1 wz hfr hsl hst
    obtain ⟨b189, a190, c190⟩ := xx
    exact hfin b189 a190 c190 ac1 wz (hfr.size.trans hz) hfr.defers (fr_keep hfr [7, 187, 188, 189, 190] (by kernel_rfl)) (hsl 4 (by decide)) (Lib.hid hst)
set_option maxRecDepth 20000 in
theorem once_w_r29 (c : Cfg) (rc : Nat) (acts : List ActK) (b2 : Nat) (b5 : Nat) (i : Nat) (a : Option Addr) (cc : Nat) (ps : List PairV) (now : Int) (ds : List ActK) (hi : i ≤ acts.length) (hi2 : i ≤ 80) (hl : ps.length ≤ i) (hd : ds.length ≤ i) (hn0 : 0 ≤ now) (hn1 : now ≤ 3 * i) (z1ld : i < acts.length) (z1rd : (i : Int) < 80) (y : Addr) (x : ActK) (hk0 : 0 ≤ x.key) (hk1 : x.key ≤ 18446744073709551615) (b9 : Nat) (z2d : ¬ (40 < (x.body.size : Int))) (m : Nat) (hm1 : m ≤ 3) (hm : IntKind.i64.wrap ((IntKind.u64.wrap x.now).tmod 4) = (m : Int)) (hm0 : now ≤ now + m) (hxb : x.body.size ≤ 40) (hfl : (ps.filter (keepB (mkC c) (now + m))).length ≤ i) (j : Nat) (hj0 : j ≤ ds.length) (z3d : ¬ (j < ds.length)) (a22_11 : Option Addr) (c22_11 : Nat) (b15 : Nat) (z9rd : ¬ (c.keys < (((wOnce c ps (now + m) x).filter (keepB (mkC c) (now + m))).length : Int))) (b189 : Nat) (a190 : Option Addr) (c190 : Nat) {wa wb : World} (H : Hid (Hp [] wa wb [rB b189 87 [.int .i64 x.kind, .int .i64 x.now, .int .i64 x.who, .int .u64 x.key, .string x.body], rB b15 84 (kL (mkC c) (mkR c) (.slice a22_11 ((wOnce c ps (now + m) x).length) c22_11)), rS a22_11 c22_11 4 ((wOnce c ps (now + m) x).map rowOf), rB b9 87 [.int .i64 x.kind, .int .i64 x.now, .int .i64 x.who, .int .u64 x.key, .string x.body], rA a190 c190 87 5 ((ds ++ [x]).map actRow), rB b5 84 (kL (mkC c) (mkR c) (.slice a ps.length cc)), rB b2 24 (cL c), rS a cc 4 (ps.map rowOf), rS (some y) rc 5 (acts.map actRow)])) (ac0 : Act) (hz : ac0.tmps.size = 192) (so5 : ac0.eval (.tmp 5) = .pointer (some ⟨b5, 0, none⟩)) (so15 : ac0.eval (.tmp 15) = .pointer (some ⟨b15, 0, none⟩)) {QR : Exit → Act → World → Prop} (hfin : ∀ (ac1 : Act) (wz : World), ac1.tmps.size = 192 → ac1.defers = ac0.defers → (∀ t, ([191] : List Nat).contains t = false → ac1.eval (.tmp t) = ac0.eval (.tmp t)) →  Hid (Hp [] wa wz [rB b189 87 [.int .i64 x.kind, .int .i64 x.now, .int .i64 x.who, .int .u64 x.key, .string x.body], rB b15 84 (kL (mkC c) (mkR c) (.slice a22_11 ((wOnce c ps (now + m) x).length) c22_11)), rS a22_11 c22_11 4 ((wOnce c ps (now + m) x).map rowOf), rB b9 87 [.int .i64 x.kind, .int .i64 x.now, .int .i64 x.who, .int .u64 x.key, .string x.body], rA a190 c190 87 5 ((ds ++ [x]).map actRow), rB b5 84 (kL (mkC c) (mkR c) (.slice a22_11 ((wOnce c ps (now + m) x).length) c22_11)), rB b2 24 (cL c), rS a cc 4 (ps.map rowOf), rS (some y) rc 5 (acts.map actRow)]) → QR .normal ac1 wz) : (regAt Try.f10 29).wp Try.prog QR ac0 wb := by
  refine wp_region_sq (by kernel_rfl) 192 hz (by kernel_rfl) (fun (xx : Unit) jx => nth [.agg (kA (mkC c) (mkR c) (.slice a22_11 ((wOnce c ps (now + m) x).length) c22_11)), undef] jx) (fun (LL : Nat → Bool) (xx : Unit) ww => Hp [] wa ww (bif LL 1 then [rB b189 87 [.int .i64 x.kind, .int .i64 x.now, .int .i64 x.who, .int .u64 x.key, .string x.body], rB b15 84 (kL (mkC c) (mkR c) (.slice a22_11 ((wOnce c ps (now + m) x).length) c22_11)), rS a22_11 c22_11 4 ((wOnce c ps (now + m) x).map rowOf), rB b9 87 [.int .i64 x.kind, .int .i64 x.now, .int .i64 x.who, .int .u64 x.key, .string x.body], rA a190 c190 87 5 ((ds ++ [x]).map actRow), rB b5 84 (kL (mkC c) (mkR c) (.slice a22_11 ((wOnce c ps (now + m) x).length) c22_11)), rB b2 24 (cL c), rS a cc 4 (ps.map rowOf), rS (some y) rc 5 (acts.map actRow)] else [rB b189 87 [.int .i64 x.kind, .int .i64 x.now, .int .i64 x.who, .int .u64 x.key, .string x.body], rB b15 84 (kL (mkC c) (mkR c) (.slice a22_11 ((wOnce c ps (now + m) x).length) c22_11)), rS a22_11 c22_11 4 ((wOnce c ps (now + m) x).map rowOf), rB b9 87 [.int .i64 x.kind, .int .i64 x.now, .int .i64 x.who, .int .u64 x.key, .string x.body], rA a190 c190 87 5 ((ds ++ [x]).map actRow), rB b5 84 (kL (mkC c) (mkR c) (.slice a ps.length cc)), rB b2 24 (cL c), rS a cc 4 (ps.map rowOf), rS (some y) rc 5 (acts.map actRow)])) () H.out ?_ (steps_al ?_) ?_ ?_
  · intro L1 L2 xx ww hL sg
    have lh1 := hL 1 (by decide)
    simp only [lh1] at sg
    exact sg
  · refine al_cons ?_ (al_cons ?_ (al_nil))
    · intro LL xx ac wc sg hst hwant QQ hgo
      have H := Lib.hid hst
      simp only [sg.des 1 rfl, cond_true, cond_false] at H
      refine hpA_load tykeys_Keys H rfl ((sg.free 15 (by kernel_rfl)).trans so15) hwant (by (repeat (first | exact List.Mem.head _ | apply List.Mem.tail))) (by rfl) rfl ?_
      exact hgo _ () _ (fun _ _ => rfl) rfl hst
    · intro LL xx ac wc sg hst hwant QQ hgo
      have H := Lib.hid hst
      simp only [sg.self, cond_true, cond_false] at H
      refine hpA_store tykeys_Keys H rfl rfl ((sg.free 5 (by kernel_rfl)).trans so5) (sg.slot 0 (sg.anc 0 rfl)) rfl (by repeat (first | apply Put.head | apply Put.tail)) (by simp [kA, kL, rkA, rkL, cA, cL]) (by simp [kA, kL, rkA, rkL, cA, cL, Value.oneCell']) (by first | rfl | (simp only [spl]; rfl)) rfl ?_
      intro wd H2
      exact hgo _ () _ (fun _ _ => rfl) rfl (by simp only [(show upd LL 1 1 = true from rfl), cond_true, cond_false]; exact H2.out)
  · exact skips [] (by kernel_rfl) (fun _ h => by cases h)
  · intro xx ac1 wz hfr hsl hst
    exact hfin ac1 wz (hfr.size.trans hz) hfr.defers (fr_keep hfr [191] (by kernel_rfl)) (Lib.hid hst)
set_option maxRecDepth 20000 in
theorem once_w_r8x1 (c : Cfg) (rc : Nat) (acts : List ActK) (b2 : Nat) (b5 : Nat) (i : Nat) (a : Option Addr) (cc : Nat) (ps : List PairV) (now : Int) (ds : List ActK) (hi : i ≤ acts.length) (hi2 : i ≤ 80) (hl : ps.length ≤ i) (hd : ds.length ≤ i) (hn0 : 0 ≤ now) (hn1 : now ≤ 3 * i) (z1ld : i < acts.length) (z1rd : (i : Int) < 80) (y : Addr) (x : ActK) (hk0 : 0 ≤ x.key) (hk1 : x.key ≤ 18446744073709551615) (b9 : Nat) (z2d : ¬ (40 < (x.body.size : Int))) (m : Nat) (hm1 : m ≤ 3) (hm : IntKind.i64.wrap ((IntKind.u64.wrap x.now).tmod 4) = (m : Int)) (hm0 : now ≤ now + m) (hxb : x.body.size ≤ 40) (hfl : (ps.filter (keepB (mkC c) (now + m))).length ≤ i) (j : Nat) (hj0 : j ≤ ds.length) (z3d : ¬ (j < ds.length)) (a22_11 : Option Addr) (c22_11 : Nat) (b15 : Nat) (z9rd : ¬ (c.keys < (((wOnce c ps (now + m) x).filter (keepB (mkC c) (now + m))).length : Int))) (b189 : Nat) (a190 : Option Addr) (c190 : Nat) {wa wb : World} (H : Hid (Hp [] wa wb [rB b189 87 [.int .i64 x.kind, .int .i64 x.now, .int .i64 x.who, .int .u64 x.key, .string x.body], rB b15 84 (kL (mkC c) (mkR c) (.slice a22_11 ((wOnce c ps (now + m) x).length) c22_11)), rS a22_11 c22_11 4 ((wOnce c ps (now + m) x).map rowOf), rB b9 87 [.int .i64 x.kind, .int .i64 x.now, .int .i64 x.who, .int .u64 x.key, .string x.body], rA a190 c190 87 5 ((ds ++ [x]).map actRow), rB b5 84 (kL (mkC c) (mkR c) (.slice a22_11 ((wOnce c ps (now + m) x).length) c22_11)), rB b2 24 (cL c), rS a cc 4 (ps.map rowOf), rS (some y) rc 5 (acts.map actRow)])) (ac0 : Act) (hz : ac0.tmps.size = 192) (so8 : ac0.eval (.tmp 8) = .int .i64 i) {QR : Exit → Act → World → Prop} (hfin : ∀ (ac1 : Act) (wz : World), ac1.tmps.size = 192 → ac1.defers = ac0.defers → (∀ t, ([8, 30, 31] : List Nat).contains t = false → ac1.eval (.tmp t) = ac0.eval (.tmp t)) → ac1.eval (.tmp 8) = .int .i64 (i + 1) →  Hid (Hp [] wa wz [rB b189 87 [.int .i64 x.kind, .int .i64 x.now, .int .i64 x.who, .int .u64 x.key, .string x.body], rB b15 84 (kL (mkC c) (mkR c) (.slice a22_11 ((wOnce c ps (now + m) x).length) c22_11)), rS a22_11 c22_11 4 ((wOnce c ps (now + m) x).map rowOf), rB b9 87 [.int .i64 x.kind, .int .i64 x.now, .int .i64 x.who, .int .u64 x.key, .string x.body], rA a190 c190 87 5 ((ds ++ [x]).map actRow), rB b5 84 (kL (mkC c) (mkR c) (.slice a22_11 ((wOnce c ps (now + m) x).length) c22_11)), rB b2 24 (cL c), rS a cc 4 (ps.map rowOf), rS (some y) rc 5 (acts.map actRow)]) → QR .normal ac1 wz) : (regAt Try.f10 8).wp Try.prog QR ac0 wb := by
  refine wp_region_sq (by kernel_rfl) 192 hz (by kernel_rfl) (fun (xx : Unit) jx => nth [.int .i64 i, .int .i64 (i + 1), .int .i64 (i + 1)] jx) (fun (LL : Nat → Bool) (xx : Unit) ww => Hp [] wa ww [rB b189 87 [.int .i64 x.kind, .int .i64 x.now, .int .i64 x.who, .int .u64 x.key, .string x.body], rB b15 84 (kL (mkC c) (mkR c) (.slice a22_11 ((wOnce c ps (now + m) x).length) c22_11)), rS a22_11 c22_11 4 ((wOnce c ps (now + m) x).map rowOf), rB b9 87 [.int .i64 x.kind, .int .i64 x.now, .int .i64 x.who, .int .u64 x.key, .string x.body], rA a190 c190 87 5 ((ds ++ [x]).map actRow), rB b5 84 (kL (mkC c) (mkR c) (.slice a22_11 ((wOnce c ps (now + m) x).length) c22_11)), rB b2 24 (cL c), rS a cc 4 (ps.map rowOf), rS (some y) rc 5 (acts.map actRow)]) () H.out ?_ (steps_al ?_) ?_ ?_
  · exact fun _ _ _ _ _ h => h
  · refine al_cons ?_ (al_cons ?_ (al_cons ?_ (al_nil)))
    · intro LL xx ac wc sg hst hwant QQ hgo
      exact op_val hwant hgo hst _ (exec_move rfl ((sg.yet 8 2 (sg.des 2 rfl) (by kernel_rfl)).trans so8)) rfl
    · intro LL xx ac wc sg hst hwant QQ hgo
      have se30 : ac.eval (.tmp 30) = _ := (sg.slot 0 (sg.anc 0 rfl))
      have sg30 := gt_of se30
      (try simp only [nth] at se30 sg30)
      have hnw : IntKind.i64.wrap (i + 1 : Int) = i + 1 := IntWalk.i64_in _ (by omega)
      exact op_val hwant hgo hst _ (by simp only [execOp, nth]; go_simp <;> omega) rfl
    · intro LL xx ac wc sg hst hwant QQ hgo
      exact op_val hwant hgo hst _ (exec_assign rfl (sg.slot 1 (sg.anc 1 rfl))) rfl
  · exact skips [] (by kernel_rfl) (fun _ h => by cases h)
  · intro xx ac1 wz hfr hsl hst
    exact hfin ac1 wz (hfr.size.trans hz) hfr.defers (fr_keep hfr [8, 30, 31] (by kernel_rfl)) (hsl 2 (by decide)) (Lib.hid hst)
set_option maxRecDepth 20000 in
theorem once_w_r30 (c : Cfg) (ra : Option Addr) (rc : Nat) (acts : List ActK) (b2 : Nat) (b5 : Nat) (i : Nat) (a : Option Addr) (cc : Nat) (ps : List PairV) (now : Int) (ad : Option Addr) (cd : Nat) (ds : List ActK) (hi : i ≤ acts.length) (hi2 : i ≤ 80) (hl : ps.length ≤ i) (hd : ds.length ≤ i) (hn0 : 0 ≤ now) (hn1 : now ≤ 3 * i) {wa wb : World} (H : Hid (Hp [] wa wb [rA ad cd 87 5 (ds.map actRow), rB b5 84 (kL (mkC c) (mkR c) (.slice a ps.length cc)), rB b2 24 (cL c), rS a cc 4 (ps.map rowOf), rS ra rc 5 (acts.map actRow)])) (ac0 : Act) (hz : ac0.tmps.size = 192)  {QR : Exit → Act → World → Prop} (hfin : ∀ (ac1 : Act) (wz : World), ac1.tmps.size = 192 → ac1.defers = ac0.defers → (∀ t, ([4] : List Nat).contains t = false → ac1.eval (.tmp t) = ac0.eval (.tmp t)) → ac1.eval (.tmp 4) = .bool true →  Hid (Hp [] wa wz [rA ad cd 87 5 (ds.map actRow), rB b5 84 (kL (mkC c) (mkR c) (.slice a ps.length cc)), rB b2 24 (cL c), rS a cc 4 (ps.map rowOf), rS ra rc 5 (acts.map actRow)]) → QR .normal ac1 wz) : (regAt Try.f10 30).wp Try.prog QR ac0 wb := by
  refine wp_region_sq (by kernel_rfl) 192 hz (by kernel_rfl) (fun (xx : Unit) jx => nth [.bool true] jx) (fun (LL : Nat → Bool) (xx : Unit) ww => Hp [] wa ww [rA ad cd 87 5 (ds.map actRow), rB b5 84 (kL (mkC c) (mkR c) (.slice a ps.length cc)), rB b2 24 (cL c), rS a cc 4 (ps.map rowOf), rS ra rc 5 (acts.map actRow)]) () H.out ?_ (steps_al ?_) ?_ ?_
  · exact fun _ _ _ _ _ h => h
  · refine al_cons ?_ (al_nil)
    · intro LL xx ac wc sg hst hwant QQ hgo
      exact op_val hwant hgo hst _ (exec_assign rfl rfl) rfl
  · exact skips [] (by kernel_rfl) (fun _ h => by cases h)
  · intro xx ac1 wz hfr hsl hst
    exact hfin ac1 wz (hfr.size.trans hz) hfr.defers (fr_keep hfr [4] (by kernel_rfl)) (hsl 0 (by decide)) (Lib.hid hst)
set_option maxHeartbeats 16000000 in
set_option maxRecDepth 20000 in
theorem once_w (c : Cfg) (ra : Option Addr) (rc : Nat) (acts : List ActK) (w : World) (h1 : (rS ra rc 5 (acts.map actRow)).holds w) (hok : Hid (∀ z ∈ acts, 0 ≤ z.key ∧ z.key ≤ 18446744073709551615)) : Calls Try.prog 10 #[.agg (cA c), .slice ra acts.length rc] w fun e w' => e = .returned (.bool true) ∧ Off [] w w' := by
  have H := Lib.hid (Hp.start [] w)
  have H := hp_old H h1 (by decide)
  clear h1
  replace H := hp_old H (rS_nil w 4) (by decide)
  refine calls_start Try.func10 rfl 192 rfl (by simp) (fun aa nn dd sl => ?_)
  have ss0 : aa.eval (.tmp 0) = .agg (cA c) := sl 0 (by simp)
  have ss1 : aa.eval (.tmp 1) = .slice ra acts.length rc := sl 1 (by simp)
  clear sl
  refine wp_seq_k fun KK1 hK1 => ?_
  refine once_w_r0 c ra rc acts H aa nn ss0 ?_
  clear H nn
  intro b2 aa ww nn dd1 kp ss2 ss4 H
  replace ss0 := (kp 0 rfl).trans ss0
  replace ss1 := (kp 1 rfl).trans ss1
  replace dd := dd1.trans dd
  clear dd1 kp
  refine then_normal ?_
  refine hK1 _ _ ?_
  refine wp_seq_k fun KK2 hK2 => ?_
  refine wp_seq_k fun KK3 hK3 => ?_
  refine once_w_r1 c ra rc acts b2 H aa nn  ?_
  clear H nn
  intro aa ww nn dd1 kp ss18 H
  replace ss0 := (kp 0 rfl).trans ss0
  replace ss1 := (kp 1 rfl).trans ss1
  replace ss2 := (kp 2 rfl).trans ss2
  replace ss4 := (kp 4 rfl).trans ss4
  replace dd := dd1.trans dd
  clear dd1 kp
  refine then_normal ?_
  refine hK3 _ _ ?_
  refine wp_cond_false ss18 ?_
  refine wp_skip ?_
  refine then_normal ?_
  refine hK2 _ _ ?_
  refine wp_seq_k fun KK4 hK4 => ?_
  refine once_w_r3 c ra rc acts b2 H aa nn ss2 ?_
  clear H nn
  intro b5 aa ww nn dd1 kp ss5 H
  replace ss0 := (kp 0 rfl).trans ss0
  replace ss1 := (kp 1 rfl).trans ss1
  replace ss2 := (kp 2 rfl).trans ss2
  replace ss4 := (kp 4 rfl).trans ss4
  replace ss18 := (kp 18 rfl).trans ss18
  replace dd := dd1.trans dd
  clear dd1 kp
  refine then_normal ?_
  refine hK4 _ _ ?_
  refine wp_seq_k fun KK5 hK5 => ?_
  refine once_w_r4 c ra rc acts b2 b5 H aa nn  ?_
  clear H nn
  intro aa ww nn dd1 kp ss6 H
  replace ss0 := (kp 0 rfl).trans ss0
  replace ss1 := (kp 1 rfl).trans ss1
  replace ss2 := (kp 2 rfl).trans ss2
  replace ss4 := (kp 4 rfl).trans ss4
  replace ss5 := (kp 5 rfl).trans ss5
  replace ss18 := (kp 18 rfl).trans ss18
  replace dd := dd1.trans dd
  clear dd1 kp
  refine then_normal ?_
  refine hK5 _ _ ?_
  refine wp_seq_k fun KK6 hK6 => ?_
  refine once_w_r5 c ra rc acts b2 b5 H aa nn  ?_
  clear H nn
  intro b21 aa ww nn dd1 kp ss7 H
  replace ss0 := (kp 0 rfl).trans ss0
  replace ss1 := (kp 1 rfl).trans ss1
  replace ss2 := (kp 2 rfl).trans ss2
  replace ss4 := (kp 4 rfl).trans ss4
  replace ss5 := (kp 5 rfl).trans ss5
  replace ss6 := (kp 6 rfl).trans ss6
  replace ss18 := (kp 18 rfl).trans ss18
  replace dd := dd1.trans dd
  clear dd1 kp
  refine then_normal ?_
  refine hK6 _ _ ?_
  refine wp_seq_k fun KK7 hK7 => ?_
  refine wp_seq_k fun KK8 hK8 => ?_
  refine once_w_r6 c ra rc acts b2 b5 b21 H aa nn  ?_
  clear H nn
  intro aa ww nn dd1 kp ss8 H
  replace ss0 := (kp 0 rfl).trans ss0
  replace ss1 := (kp 1 rfl).trans ss1
  replace ss2 := (kp 2 rfl).trans ss2
  replace ss4 := (kp 4 rfl).trans ss4
  replace ss5 := (kp 5 rfl).trans ss5
  replace ss6 := (kp 6 rfl).trans ss6
  replace ss7 := (kp 7 rfl).trans ss7
  replace ss18 := (kp 18 rfl).trans ss18
  replace dd := dd1.trans dd
  clear dd1 kp
  refine then_normal ?_
  refine hK8 _ _ ?_
  refine wp_block ?_
  refine wp_loop (fun ab wv => ∃ i : Nat, ∃ a : Option Addr, ∃ cc : Nat, ∃ ps : List PairV, ∃ now : Int, ∃ ad : Option Addr, ∃ cd : Nat, ∃ ds : List ActK, i ≤ acts.length ∧ i ≤ 80 ∧ ps.length ≤ i ∧ ds.length ≤ i ∧ Hid (Sorted ps) ∧ 0 ≤ now ∧ now ≤ 3 * i ∧ Hid (((ps.length : Nat) : Int) ≤ mkR c) ∧ Hid (JOnce (mkC c) ps ds now) ∧ Hid (∀ d ∈ ds, d.body.size ≤ 40) ∧ ab.tmps.size = 192 ∧ ab.defers = [] ∧ ab.eval (.tmp 0) = .agg (cA c) ∧ ab.eval (.tmp 1) = .slice ra acts.length rc ∧ ab.eval (.tmp 2) = .pointer (some ⟨b2, 0, none⟩) ∧ ab.eval (.tmp 5) = .pointer (some ⟨b5, 0, none⟩) ∧ ab.eval (.tmp 6) = .int .i64 now ∧ ab.eval (.tmp 7) = .slice ad ds.length cd ∧ ab.eval (.tmp 8) = .int .i64 i ∧ ab.eval (.tmp 18) = .bool false ∧ Hid (Hp [] w wv [rA ad cd 87 5 (ds.map actRow), rB b5 84 (kL (mkC c) (mkR c) (.slice a ps.length cc)), rB b2 24 (cL c), rS a cc 4 (ps.map rowOf), rS ra rc 5 (acts.map actRow)])) (fun ab _ => 80 - (intOf (ab.eval (.tmp 8))).toNat) ⟨0, none, 0, [], 0, (some ⟨b21, 0, none⟩), 0, [], (Nat.zero_le _), (by omega), (Nat.le_refl _), (Nat.le_refl _), (Lib.hid List.Pairwise.nil), (by omega), (by omega), (Lib.hid (mkR_nonneg c)), (Lib.hid (fun _ h => by cases h)), (Lib.hid (fun _ h => by cases h)), nn, dd, ss0, ss1, ss2, ss5, ss6, ss7, ss8, ss18, H⟩ (fun aa wv hI => ?_)
  clear H nn dd ss0 ss1 ss2 ss4 ss5 ss6 ss7 ss8 ss18
  obtain ⟨i, a, cc, ps, now, ad, cd, ds, hi, hi2, hl, hd, hs, hn0, hn1, hr, hj, hdb, nn, dd, ss0, ss1, ss2, ss5, ss6, ss7, ss8, ss18, H⟩ := hI
  have mu1_8 := ss8
  refine wp_seq_k fun KK9 hK9 => ?_
  refine wp_seq_k fun KK10 hK10 => ?_
  refine once_w_r7 c ra rc acts b2 b5 i a cc ps now ad cd ds hi hi2 hl hd hn0 hn1 H aa nn ss1 ss8 ?_
  clear H nn
  intro aa ww nn dd1 kp ss29 H
  replace ss0 := (kp 0 rfl).trans ss0
  replace ss1 := (kp 1 rfl).trans ss1
  replace ss2 := (kp 2 rfl).trans ss2
  replace ss5 := (kp 5 rfl).trans ss5
  replace ss6 := (kp 6 rfl).trans ss6
  replace ss7 := (kp 7 rfl).trans ss7
  replace ss8 := (kp 8 rfl).trans ss8
  replace ss18 := (kp 18 rfl).trans ss18
  replace dd := dd1.trans dd
  clear dd1 kp
  refine then_normal ?_
  refine hK10 _ _ ?_
  refine wp_cond_split ss29 (fun z1 => ?_) (fun z1 => ?_)
  · skip
    have z1l : (decide (i < acts.length)) = true := bl z1
    have z1ld : i < acts.length := of_decide_eq_true z1l
    have z1r : (decide ((i : Int) < 80)) = true := br z1
    have z1rd : (i : Int) < 80 := of_decide_eq_true z1r
    obtain ⟨y, rfl⟩ := some_of_row (hp_held H (show rS ra rc 5 (acts.map actRow) ∈ _ by simp)) (i := i) (by simpa using z1ld)
    obtain ⟨x, hx⟩ : ∃ x, acts[i]? = some x := ⟨acts[i], List.getElem?_eq_getElem (by omega)⟩
    have HR := Lib.hid (show (acts.map actRow)[i]? = some [.int .i64 x.kind, .int .i64 x.now, .int .i64 x.who, .int .u64 x.key, .string x.body] by rw [List.getElem?_map, hx]; rfl)
    have HX := Lib.hid hx
    have hk0 : 0 ≤ x.key := (hok.out x (List.mem_of_getElem? hx)).1
    have hk1 : x.key ≤ 18446744073709551615 := (hok.out x (List.mem_of_getElem? hx)).2
    clear hx
    refine wp_skip ?_
    refine then_normal ?_
    refine hK9 _ _ ?_
    refine wp_seq_k fun KK11 hK11 => ?_
    refine wp_block ?_
    refine wp_seq_k fun KK12 hK12 => ?_
    refine once_w_r9 c rc acts b2 b5 i a cc ps now ad cd ds hi hi2 hl hd hn0 hn1 z1ld z1rd y x HR hk0 hk1 H aa nn ss1 ss8 ?_
    clear H nn
    intro b9 aa ww nn dd1 kp ss9 H
    replace ss0 := (kp 0 rfl).trans ss0
    replace ss1 := (kp 1 rfl).trans ss1
    replace ss2 := (kp 2 rfl).trans ss2
    replace ss5 := (kp 5 rfl).trans ss5
    replace ss6 := (kp 6 rfl).trans ss6
    replace ss7 := (kp 7 rfl).trans ss7
    replace ss8 := (kp 8 rfl).trans ss8
    replace ss18 := (kp 18 rfl).trans ss18
    replace ss29 := (kp 29 rfl).trans ss29
    replace dd := dd1.trans dd
    clear dd1 kp
    refine then_normal ?_
    refine hK12 _ _ ?_
    refine wp_seq_k fun KK13 hK13 => ?_
    refine wp_seq_k fun KK14 hK14 => ?_
    refine once_w_r10 c rc acts b2 b5 i a cc ps now ad cd ds hi hi2 hl hd hn0 hn1 z1ld z1rd y x hk0 hk1 b9 H aa nn ss9 ?_
    clear H nn
    intro aa ww nn dd1 kp ss39 H
    replace ss0 := (kp 0 rfl).trans ss0
    replace ss1 := (kp 1 rfl).trans ss1
    replace ss2 := (kp 2 rfl).trans ss2
    replace ss5 := (kp 5 rfl).trans ss5
    replace ss6 := (kp 6 rfl).trans ss6
    replace ss7 := (kp 7 rfl).trans ss7
    replace ss8 := (kp 8 rfl).trans ss8
    replace ss9 := (kp 9 rfl).trans ss9
    replace ss18 := (kp 18 rfl).trans ss18
    replace ss29 := (kp 29 rfl).trans ss29
    replace dd := dd1.trans dd
    clear dd1 kp
    refine then_normal ?_
    refine hK14 _ _ ?_
    refine wp_cond_split ss39 (fun z2 => ?_) (fun z2 => ?_)
    · skip
      have z2d : 40 < (x.body.size : Int) := of_decide_eq_true z2
      refine wp_seq_k fun KK15 hK15 => ?_
      refine once_w_r11 c rc acts b2 b5 i a cc ps now ad cd ds hi hi2 hl hd hn0 hn1 z1ld z1rd y x hk0 hk1 b9 z2d H aa nn  ?_
      clear H nn
      intro aa ww nn dd1 kp ss4 H
      replace ss0 := (kp 0 rfl).trans ss0
      replace ss1 := (kp 1 rfl).trans ss1
      replace ss2 := (kp 2 rfl).trans ss2
      replace ss5 := (kp 5 rfl).trans ss5
      replace ss6 := (kp 6 rfl).trans ss6
      replace ss7 := (kp 7 rfl).trans ss7
      replace ss8 := (kp 8 rfl).trans ss8
      replace ss9 := (kp 9 rfl).trans ss9
      replace ss18 := (kp 18 rfl).trans ss18
      replace ss29 := (kp 29 rfl).trans ss29
      replace ss39 := (kp 39 rfl).trans ss39
      replace dd := dd1.trans dd
      clear dd1 kp
      refine then_normal ?_
      refine hK15 _ _ ?_
      refine wp_ret ?_
      refine then_ret ?_
      refine block_ret ?_
      refine then_ret ?_
      refine then_ret ?_
      refine block_ret ?_
      refine then_ret ?_
      exact ret1 rfl dd ss4 ⟨rfl, H.out.off⟩
    · skip
      have z2d : ¬ (40 < (x.body.size : Int)) := of_decide_eq_false z2
      refine wp_skip ?_
      refine then_normal ?_
      refine hK13 _ _ ?_
      refine wp_seq_k fun KK16 hK16 => ?_
      obtain ⟨m, hm0, hm1⟩ := mod_upto x.now 3 (by decide)
      have hm : IntKind.i64.wrap ((IntKind.u64.wrap x.now).tmod 4) = (m : Int) := by rw [IntKind.wrap_i64]; simpa [wrap64] using hm0
      clear hm0
      have hm0 : now ≤ now + m := by omega
      have hxb : x.body.size ≤ 40 := by omega
      have hfl := Nat.le_trans (List.length_filter_le (keepB (mkC c) (now + m)) ps) hl
      refine once_w_r12 c rc acts b2 b5 i a cc ps now ad cd ds hi hi2 hl hd hn0 hn1 z1ld z1rd y x hk0 hk1 b9 z2d m hm1 hm hm0 hxb hfl H aa nn ss6 ss9 ?_
      clear H nn ss6
      intro aa ww nn dd1 kp ss6 H
      replace ss0 := (kp 0 rfl).trans ss0
      replace ss1 := (kp 1 rfl).trans ss1
      replace ss2 := (kp 2 rfl).trans ss2
      replace ss5 := (kp 5 rfl).trans ss5
      replace ss7 := (kp 7 rfl).trans ss7
      replace ss8 := (kp 8 rfl).trans ss8
      replace ss9 := (kp 9 rfl).trans ss9
      replace ss18 := (kp 18 rfl).trans ss18
      replace ss29 := (kp 29 rfl).trans ss29
      replace ss39 := (kp 39 rfl).trans ss39
      replace dd := dd1.trans dd
      clear dd1 kp
      refine then_normal ?_
      refine hK16 _ _ ?_
      refine wp_seq_k fun KK17 hK17 => ?_
      refine once_w_r13 c rc acts b2 b5 i a cc ps now ad cd ds hi hi2 hl hd hs hn0 hn1 z1ld z1rd y x hk0 hk1 b9 z2d m hm1 hm hm0 hxb hfl H aa nn ss5 ss6 ss9 ?_
      clear H nn
      intro aa ww nn dd1 kp ss10 ss11 H
      replace ss0 := (kp 0 rfl).trans ss0
      replace ss1 := (kp 1 rfl).trans ss1
      replace ss2 := (kp 2 rfl).trans ss2
      replace ss5 := (kp 5 rfl).trans ss5
      replace ss6 := (kp 6 rfl).trans ss6
      replace ss7 := (kp 7 rfl).trans ss7
      replace ss8 := (kp 8 rfl).trans ss8
      replace ss9 := (kp 9 rfl).trans ss9
      replace ss18 := (kp 18 rfl).trans ss18
      replace ss29 := (kp 29 rfl).trans ss29
      replace ss39 := (kp 39 rfl).trans ss39
      replace dd := dd1.trans dd
      clear dd1 kp
      refine then_normal ?_
      refine hK17 _ _ ?_
      refine wp_seq_k fun KK18 hK18 => ?_
      refine wp_seq_k fun KK19 hK19 => ?_
      refine once_w_r14 c rc acts b2 b5 i a cc ps now ad cd ds hi hi2 hl hd hn0 hn1 z1ld z1rd y x hk0 hk1 b9 z2d m hm1 hm hm0 hxb hfl H aa nn  ?_
      clear H nn
      intro aa ww nn dd1 kp ss12 H
      replace ss0 := (kp 0 rfl).trans ss0
      replace ss1 := (kp 1 rfl).trans ss1
      replace ss2 := (kp 2 rfl).trans ss2
      replace ss5 := (kp 5 rfl).trans ss5
      replace ss6 := (kp 6 rfl).trans ss6
      replace ss7 := (kp 7 rfl).trans ss7
      replace ss8 := (kp 8 rfl).trans ss8
      replace ss9 := (kp 9 rfl).trans ss9
      replace ss10 := (kp 10 rfl).trans ss10
      replace ss11 := (kp 11 rfl).trans ss11
      replace ss18 := (kp 18 rfl).trans ss18
      replace ss29 := (kp 29 rfl).trans ss29
      replace ss39 := (kp 39 rfl).trans ss39
      replace dd := dd1.trans dd
      clear dd1 kp
      refine then_normal ?_
      refine hK19 _ _ ?_
      refine wp_block ?_
      refine wp_loop (fun ab wv => ∃ j : Nat, j ≤ ds.length ∧ ab.tmps.size = 192 ∧ ab.defers = [] ∧ ab.eval (.tmp 0) = .agg (cA c) ∧ ab.eval (.tmp 1) = .slice (some y) acts.length rc ∧ ab.eval (.tmp 2) = .pointer (some ⟨b2, 0, none⟩) ∧ ab.eval (.tmp 5) = .pointer (some ⟨b5, 0, none⟩) ∧ ab.eval (.tmp 6) = .int .i64 (now + m) ∧ ab.eval (.tmp 7) = .slice ad ds.length cd ∧ ab.eval (.tmp 8) = .int .i64 i ∧ ab.eval (.tmp 9) = .pointer (some ⟨b9, 0, none⟩) ∧ ab.eval (.tmp 10) = .string ((lookV (mkC c) ps (now + m) x.who x.key x.body).1) ∧ ab.eval (.tmp 11) = .int .i64 ((lookV (mkC c) ps (now + m) x.who x.key x.body).2) ∧ ab.eval (.tmp 12) = .int .i64 j ∧ ab.eval (.tmp 18) = .bool false ∧ ab.eval (.tmp 29) = .bool ((decide (i < acts.length)) && (decide ((i : Int) < 80))) ∧ ab.eval (.tmp 39) = .bool (decide (40 < (x.body.size : Int))) ∧ Hid (Hp [] w wv [rB b9 87 [.int .i64 x.kind, .int .i64 x.now, .int .i64 x.who, .int .u64 x.key, .string x.body], rA ad cd 87 5 (ds.map actRow), rB b5 84 (kL (mkC c) (mkR c) (.slice a ps.length cc)), rB b2 24 (cL c), rS a cc 4 (ps.map rowOf), rS (some y) rc 5 (acts.map actRow)])) (fun ab _ => ds.length - (intOf (ab.eval (.tmp 12))).toNat) ⟨0, (Nat.zero_le _), nn, dd, ss0, ss1, ss2, ss5, ss6, ss7, ss8, ss9, ss10, ss11, ss12, ss18, ss29, ss39, H⟩ (fun aa wv hI => ?_)
      clear H nn dd ss0 ss1 ss2 ss5 ss6 ss7 ss8 ss9 ss10 ss11 ss12 ss18 ss29 ss39
      obtain ⟨j, hj0, nn, dd, ss0, ss1, ss2, ss5, ss6, ss7, ss8, ss9, ss10, ss11, ss12, ss18, ss29, ss39, H⟩ := hI
      have mu2_12 := ss12
      refine wp_seq_k fun KK20 hK20 => ?_
      refine wp_seq_k fun KK21 hK21 => ?_
      refine once_w_r15 c rc acts b2 b5 i a cc ps now ad cd ds hi hi2 hl hd hn0 hn1 z1ld z1rd y x hk0 hk1 b9 z2d m hm1 hm hm0 hxb hfl j hj0 H aa nn ss7 ss12 ?_
      clear H nn
      intro aa ww nn dd1 kp ss62 H
      replace ss0 := (kp 0 rfl).trans ss0
      replace ss1 := (kp 1 rfl).trans ss1
      replace ss2 := (kp 2 rfl).trans ss2
      replace ss5 := (kp 5 rfl).trans ss5
      replace ss6 := (kp 6 rfl).trans ss6
      replace ss7 := (kp 7 rfl).trans ss7
      replace ss8 := (kp 8 rfl).trans ss8
      replace ss9 := (kp 9 rfl).trans ss9
      replace ss10 := (kp 10 rfl).trans ss10
      replace ss11 := (kp 11 rfl).trans ss11
      replace ss12 := (kp 12 rfl).trans ss12
      replace ss18 := (kp 18 rfl).trans ss18
      replace ss29 := (kp 29 rfl).trans ss29
      replace ss39 := (kp 39 rfl).trans ss39
      replace dd := dd1.trans dd
      clear dd1 kp
      refine then_normal ?_
      refine hK21 _ _ ?_
      refine wp_cond_split ss62 (fun z3 => ?_) (fun z3 => ?_)
      · skip
        have z3d : j < ds.length := of_decide_eq_true z3
        obtain ⟨yd, rfl⟩ := some_of_row (hp_held (hp_read H 1 rfl) (show rS ad cd 5 (ds.map actRow) ∈ _ by simp)) (i := j) (by simpa using z3d)
        obtain ⟨u, hu⟩ : ∃ u, ds[j]? = some u := ⟨ds[j], List.getElem?_eq_getElem (by omega)⟩
        have HU := Lib.hid (show (ds.map actRow)[j]? = some [.int .i64 u.kind, .int .i64 u.now, .int .i64 u.who, .int .u64 u.key, .string u.body] by rw [List.getElem?_map, hu]; rfl)
        have HM := Lib.hid (List.mem_of_getElem? hu)
        have hub : u.body.size ≤ 40 := hdb.out u HM.out
        clear hu
        refine wp_skip ?_
        refine then_normal ?_
        refine hK20 _ _ ?_
        refine wp_seq_k fun KK22 hK22 => ?_
        refine wp_block ?_
        refine wp_seq_k fun KK23 hK23 => ?_
        refine once_w_r17 c rc acts b2 b5 i a cc ps now cd ds hi hi2 hl hd hn0 hn1 z1ld z1rd y x hk0 hk1 b9 z2d m hm1 hm hm0 hxb hfl j hj0 z3d yd u HU hub H aa nn ss7 ss12 ?_
        clear H nn
        intro b13 aa ww nn dd1 kp ss13 H
        replace ss0 := (kp 0 rfl).trans ss0
        replace ss1 := (kp 1 rfl).trans ss1
        replace ss2 := (kp 2 rfl).trans ss2
        replace ss5 := (kp 5 rfl).trans ss5
        replace ss6 := (kp 6 rfl).trans ss6
        replace ss7 := (kp 7 rfl).trans ss7
        replace ss8 := (kp 8 rfl).trans ss8
        replace ss9 := (kp 9 rfl).trans ss9
        replace ss10 := (kp 10 rfl).trans ss10
        replace ss11 := (kp 11 rfl).trans ss11
        replace ss12 := (kp 12 rfl).trans ss12
        replace ss18 := (kp 18 rfl).trans ss18
        replace ss29 := (kp 29 rfl).trans ss29
        replace ss39 := (kp 39 rfl).trans ss39
        replace ss62 := (kp 62 rfl).trans ss62
        replace dd := dd1.trans dd
        clear dd1 kp
        refine then_normal ?_
        refine hK23 _ _ ?_
        refine wp_seq_k fun KK24 hK24 => ?_
        refine wp_seq_k fun KK25 hK25 => ?_
        refine once_w_r18 c rc acts b2 b5 i a cc ps now cd ds hi hi2 hl hd hn0 hn1 z1ld z1rd y x hk0 hk1 b9 z2d m hm1 hm hm0 hxb hfl j hj0 z3d yd u hub b13 H aa nn ss9 ss13 ?_
        clear H nn
        intro aa ww nn dd1 kp ss80 H
        replace ss0 := (kp 0 rfl).trans ss0
        replace ss1 := (kp 1 rfl).trans ss1
        replace ss2 := (kp 2 rfl).trans ss2
        replace ss5 := (kp 5 rfl).trans ss5
        replace ss6 := (kp 6 rfl).trans ss6
        replace ss7 := (kp 7 rfl).trans ss7
        replace ss8 := (kp 8 rfl).trans ss8
        replace ss9 := (kp 9 rfl).trans ss9
        replace ss10 := (kp 10 rfl).trans ss10
        replace ss11 := (kp 11 rfl).trans ss11
        replace ss12 := (kp 12 rfl).trans ss12
        replace ss13 := (kp 13 rfl).trans ss13
        replace ss18 := (kp 18 rfl).trans ss18
        replace ss29 := (kp 29 rfl).trans ss29
        replace ss39 := (kp 39 rfl).trans ss39
        replace ss62 := (kp 62 rfl).trans ss62
        replace dd := dd1.trans dd
        clear dd1 kp
        refine then_normal ?_
        refine hK25 _ _ ?_
        refine wp_cond_split ss80 (fun z4 => ?_) (fun z4 => ?_)
        · skip
          refine wp_exit ?_
          refine then_exit ?_
          refine block_exit ?_
          refine then_normal ?_
          refine hK22 _ _ ?_
          refine once_w_r16 c rc acts b2 b5 i a cc ps now cd ds hi hi2 hl hd hn0 hn1 z1ld z1rd y x hk0 hk1 b9 z2d m hm1 hm hm0 hxb hfl j hj0 z3d yd u hub b13 H aa nn ss12 ?_
          clear H nn ss12
          intro aa ww nn dd1 kp ss12 H
          replace ss0 := (kp 0 rfl).trans ss0
          replace ss1 := (kp 1 rfl).trans ss1
          replace ss2 := (kp 2 rfl).trans ss2
          replace ss5 := (kp 5 rfl).trans ss5
          replace ss6 := (kp 6 rfl).trans ss6
          replace ss7 := (kp 7 rfl).trans ss7
          replace ss8 := (kp 8 rfl).trans ss8
          replace ss9 := (kp 9 rfl).trans ss9
          replace ss10 := (kp 10 rfl).trans ss10
          replace ss11 := (kp 11 rfl).trans ss11
          replace ss13 := (kp 13 rfl).trans ss13
          replace ss18 := (kp 18 rfl).trans ss18
          replace ss29 := (kp 29 rfl).trans ss29
          replace ss39 := (kp 39 rfl).trans ss39
          replace ss62 := (kp 62 rfl).trans ss62
          replace ss80 := (kp 80 rfl).trans ss80
          replace dd := dd1.trans dd
          clear dd1 kp
          refine then_normal ?_
          refine ⟨⟨j + 1, (by omega), nn, dd, ss0, ss1, ss2, ss5, ss6, ss7, ss8, ss9, ss10, ss11, ss12, ss18, ss29, ss39, (Lib.hid (H.out.sub (by repeat (first | exact List.Sublist.refl _ | apply List.Sublist.cons₂ | apply List.Sublist.cons))))⟩, ?_⟩
          simp only [mu2_12, ss12, intOf]
          omega
        · skip
          have z4l : (u.who != x.who) = false := ol z4
          have z4lo : (u.who == x.who) = true := neq_f z4l
          have z4r : (u.key != x.key) = false := orr z4
          have z4ro : (u.key == x.key) = true := neq_f z4r
          refine wp_skip ?_
          refine then_normal ?_
          refine hK24 _ _ ?_
          refine wp_seq_k fun KK26 hK26 => ?_
          refine once_w_r19 c rc acts b2 b5 i a cc ps now cd ds hi hi2 hl hd hn0 hn1 z1ld z1rd y x hk0 hk1 b9 z2d m hm1 hm hm0 hxb hfl j hj0 z3d yd u hub b13 H aa nn ss2 ss6 ss9 ?_
          clear H nn
          intro aa ww nn dd1 kp ss14 H
          replace ss0 := (kp 0 rfl).trans ss0
          replace ss1 := (kp 1 rfl).trans ss1
          replace ss2 := (kp 2 rfl).trans ss2
          replace ss5 := (kp 5 rfl).trans ss5
          replace ss6 := (kp 6 rfl).trans ss6
          replace ss7 := (kp 7 rfl).trans ss7
          replace ss8 := (kp 8 rfl).trans ss8
          replace ss9 := (kp 9 rfl).trans ss9
          replace ss10 := (kp 10 rfl).trans ss10
          replace ss11 := (kp 11 rfl).trans ss11
          replace ss12 := (kp 12 rfl).trans ss12
          replace ss13 := (kp 13 rfl).trans ss13
          replace ss18 := (kp 18 rfl).trans ss18
          replace ss29 := (kp 29 rfl).trans ss29
          replace ss39 := (kp 39 rfl).trans ss39
          replace ss62 := (kp 62 rfl).trans ss62
          replace ss80 := (kp 80 rfl).trans ss80
          replace dd := dd1.trans dd
          clear dd1 kp
          refine then_normal ?_
          refine hK26 _ _ ?_
          refine wp_seq_k fun KK27 hK27 => ?_
          refine once_w_r20 c rc acts b2 b5 i a cc ps now cd ds hi hi2 hl hd hn0 hn1 z1ld z1rd y x hk0 hk1 b9 z2d m hm1 hm hm0 hxb hfl j hj0 z3d yd u hub b13 H aa nn ss9 ss10 ss11 ss13 ss14 ?_
          clear H nn
          intro aa ww nn dd1 kp ss134 H
          replace ss0 := (kp 0 rfl).trans ss0
          replace ss1 := (kp 1 rfl).trans ss1
          replace ss2 := (kp 2 rfl).trans ss2
          replace ss5 := (kp 5 rfl).trans ss5
          replace ss6 := (kp 6 rfl).trans ss6
          replace ss7 := (kp 7 rfl).trans ss7
          replace ss8 := (kp 8 rfl).trans ss8
          replace ss9 := (kp 9 rfl).trans ss9
          replace ss10 := (kp 10 rfl).trans ss10
          replace ss11 := (kp 11 rfl).trans ss11
          replace ss12 := (kp 12 rfl).trans ss12
          replace ss13 := (kp 13 rfl).trans ss13
          replace ss14 := (kp 14 rfl).trans ss14
          replace ss18 := (kp 18 rfl).trans ss18
          replace ss29 := (kp 29 rfl).trans ss29
          replace ss39 := (kp 39 rfl).trans ss39
          replace ss62 := (kp 62 rfl).trans ss62
          replace ss80 := (kp 80 rfl).trans ss80
          replace dd := dd1.trans dd
          clear dd1 kp
          refine then_normal ?_
          refine hK27 _ _ ?_
          refine wp_cond_split ss134 (fun z5 => ?_) (fun z5 => ?_)
          · skip
            exact no (once_law HM.out hj.out hs.out hm0 (by omega) (by omega) z4l z4r) z5
          · skip
            have z5l : ((((((lookV (mkC c) ps (now + m) x.who x.key x.body).2) == 1) || (((lookV (mkC c) ps (now + m) x.who x.key x.body).2) == 5)) || (((isGoodV c x.key (now + m)) && (u.body.toList == x.body.toList)) && ((((lookV (mkC c) ps (now + m) x.who x.key x.body).2) != 2) || (!(((lookV (mkC c) ps (now + m) x.who x.key x.body).1).toList == (u.body ++ (⟨#[33]⟩ : ByteArray)).toList))))) || (((isGoodV c x.key (now + m)) && (!(u.body.toList == x.body.toList))) && (((lookV (mkC c) ps (now + m) x.who x.key x.body).2) != 3))) = false := ol z5
            have z5ll : (((((lookV (mkC c) ps (now + m) x.who x.key x.body).2) == 1) || (((lookV (mkC c) ps (now + m) x.who x.key x.body).2) == 5)) || (((isGoodV c x.key (now + m)) && (u.body.toList == x.body.toList)) && ((((lookV (mkC c) ps (now + m) x.who x.key x.body).2) != 2) || (!(((lookV (mkC c) ps (now + m) x.who x.key x.body).1).toList == (u.body ++ (⟨#[33]⟩ : ByteArray)).toList))))) = false := ol z5l
            have z5lll : ((((lookV (mkC c) ps (now + m) x.who x.key x.body).2) == 1) || (((lookV (mkC c) ps (now + m) x.who x.key x.body).2) == 5)) = false := ol z5ll
            have z5llll : (((lookV (mkC c) ps (now + m) x.who x.key x.body).2) == 1) = false := ol z5lll
            have z5llllo : (((lookV (mkC c) ps (now + m) x.who x.key x.body).2) != 1) = true := eqq_f z5llll
            have z5lllr : (((lookV (mkC c) ps (now + m) x.who x.key x.body).2) == 5) = false := orr z5lll
            have z5lllro : (((lookV (mkC c) ps (now + m) x.who x.key x.body).2) != 5) = true := eqq_f z5lllr
            have z5llr : (((isGoodV c x.key (now + m)) && (u.body.toList == x.body.toList)) && ((((lookV (mkC c) ps (now + m) x.who x.key x.body).2) != 2) || (!(((lookV (mkC c) ps (now + m) x.who x.key x.body).1).toList == (u.body ++ (⟨#[33]⟩ : ByteArray)).toList)))) = false := orr z5ll
            have z5lr : (((isGoodV c x.key (now + m)) && (!(u.body.toList == x.body.toList))) && (((lookV (mkC c) ps (now + m) x.who x.key x.body).2) != 3)) = false := orr z5l
            have z5r : ((!(isGoodV c x.key (now + m))) && (((lookV (mkC c) ps (now + m) x.who x.key x.body).2) != 4)) = false := orr z5
            refine wp_skip ?_
            refine block_normal ?_
            refine then_normal ?_
            refine hK22 _ _ ?_
            refine once_w_r16x1 c rc acts b2 b5 i a cc ps now cd ds hi hi2 hl hd hn0 hn1 z1ld z1rd y x hk0 hk1 b9 z2d m hm1 hm hm0 hxb hfl j hj0 z3d yd u hub b13 H aa nn ss12 ?_
            clear H nn ss12
            intro aa ww nn dd1 kp ss12 H
            replace ss0 := (kp 0 rfl).trans ss0
            replace ss1 := (kp 1 rfl).trans ss1
            replace ss2 := (kp 2 rfl).trans ss2
            replace ss5 := (kp 5 rfl).trans ss5
            replace ss6 := (kp 6 rfl).trans ss6
            replace ss7 := (kp 7 rfl).trans ss7
            replace ss8 := (kp 8 rfl).trans ss8
            replace ss9 := (kp 9 rfl).trans ss9
            replace ss10 := (kp 10 rfl).trans ss10
            replace ss11 := (kp 11 rfl).trans ss11
            replace ss13 := (kp 13 rfl).trans ss13
            replace ss14 := (kp 14 rfl).trans ss14
            replace ss18 := (kp 18 rfl).trans ss18
            replace ss29 := (kp 29 rfl).trans ss29
            replace ss39 := (kp 39 rfl).trans ss39
            replace ss62 := (kp 62 rfl).trans ss62
            replace ss80 := (kp 80 rfl).trans ss80
            replace ss134 := (kp 134 rfl).trans ss134
            replace dd := dd1.trans dd
            clear dd1 kp
            refine then_normal ?_
            refine ⟨⟨j + 1, (by omega), nn, dd, ss0, ss1, ss2, ss5, ss6, ss7, ss8, ss9, ss10, ss11, ss12, ss18, ss29, ss39, (Lib.hid (H.out.sub (by repeat (first | exact List.Sublist.refl _ | apply List.Sublist.cons₂ | apply List.Sublist.cons))))⟩, ?_⟩
            simp only [mu2_12, ss12, intOf]
            omega
      · skip
        have z3d : ¬ (j < ds.length) := of_decide_eq_false z3
        refine wp_exit ?_
        refine then_exit ?_
        refine then_exit ?_
        refine block_exit ?_
        refine then_normal ?_
        refine hK18 _ _ ?_
        refine wp_seq_k fun KK28 hK28 => ?_
        rcases Bool.eq_false_or_eq_true ((lookV (mkC c) ps (now + m) x.who x.key x.body).2 != 1) with y6 | y6
        · skip
          have y6o : ((lookV (mkC c) ps (now + m) x.who x.key x.body).2 == 1) = false := neq_t y6
          refine once_w_r22 c rc acts b2 b5 i a cc ps now ad cd ds hi hi2 hl hd hs hn0 hn1 z1ld z1rd y x hk0 hk1 b9 z2d m hm1 hm hm0 hxb hfl j hj0 z3d y6 H aa nn ss5 ss6 ss9 ?_
          clear H nn
          intro b15 aa ww nn dd1 kp ss15 ss16 H
          replace ss0 := (kp 0 rfl).trans ss0
          replace ss1 := (kp 1 rfl).trans ss1
          replace ss2 := (kp 2 rfl).trans ss2
          replace ss5 := (kp 5 rfl).trans ss5
          replace ss6 := (kp 6 rfl).trans ss6
          replace ss7 := (kp 7 rfl).trans ss7
          replace ss8 := (kp 8 rfl).trans ss8
          replace ss9 := (kp 9 rfl).trans ss9
          replace ss10 := (kp 10 rfl).trans ss10
          replace ss11 := (kp 11 rfl).trans ss11
          replace ss12 := (kp 12 rfl).trans ss12
          replace ss18 := (kp 18 rfl).trans ss18
          replace ss29 := (kp 29 rfl).trans ss29
          replace ss39 := (kp 39 rfl).trans ss39
          replace ss62 := (kp 62 rfl).trans ss62
          replace dd := dd1.trans dd
          clear dd1 kp
          refine then_normal ?_
          refine hK28 _ _ ?_
          refine wp_seq_k fun KK29 hK29 => ?_
          refine wp_seq_k fun KK30 hK30 => ?_
          refine once_w_r23 c rc acts b2 b5 i a cc ps now ad cd ds hi hi2 hl hd hn0 hn1 z1ld z1rd y x hk0 hk1 b9 z2d m hm1 hm hm0 hxb hfl j hj0 z3d y6o b15 H aa nn ss2 ss5 ss6 ss11 ss16 ?_
          clear H nn
          intro aa ww nn dd1 kp ss168 H
          replace ss0 := (kp 0 rfl).trans ss0
          replace ss1 := (kp 1 rfl).trans ss1
          replace ss2 := (kp 2 rfl).trans ss2
          replace ss5 := (kp 5 rfl).trans ss5
          replace ss6 := (kp 6 rfl).trans ss6
          replace ss7 := (kp 7 rfl).trans ss7
          replace ss8 := (kp 8 rfl).trans ss8
          replace ss9 := (kp 9 rfl).trans ss9
          replace ss10 := (kp 10 rfl).trans ss10
          replace ss11 := (kp 11 rfl).trans ss11
          replace ss12 := (kp 12 rfl).trans ss12
          replace ss15 := (kp 15 rfl).trans ss15
          replace ss16 := (kp 16 rfl).trans ss16
          replace ss18 := (kp 18 rfl).trans ss18
          replace ss29 := (kp 29 rfl).trans ss29
          replace ss39 := (kp 39 rfl).trans ss39
          replace ss62 := (kp 62 rfl).trans ss62
          replace dd := dd1.trans dd
          clear dd1 kp
          refine then_normal ?_
          refine hK30 _ _ ?_
          refine wp_cond_split ss168 (fun z7 => ?_) (fun z7 => ?_)
          · skip
            have z7l : (decide (c.keys < ((ps.filter (keepB (mkC c) (now + m))).length : Int))) = true := bl z7
            have z7ld : c.keys < ((ps.filter (keepB (mkC c) (now + m))).length : Int) := of_decide_eq_true z7l
            have z7r : (((ps.filter (keepB (mkC c) (now + m))).length : Int) != 0) = true := br z7
            have z7ro : (((ps.filter (keepB (mkC c) (now + m))).length : Int) == 0) = false := neq_t z7r
            exact no (once_count hr.out) z7
          · skip
            refine wp_skip ?_
            refine then_normal ?_
            refine hK29 _ _ ?_
            refine wp_seq_k fun KK31 hK31 => ?_
            refine once_w_r25 c rc acts b2 b5 i a cc ps now ad cd ds hi hi2 hl hd hn0 hn1 z1ld z1rd y x hk0 hk1 b9 z2d m hm1 hm hm0 hxb hfl j hj0 z3d b15 H aa nn ss16 ?_
            clear H nn
            intro aa ww nn dd1 kp ss170 H
            replace ss0 := (kp 0 rfl).trans ss0
            replace ss1 := (kp 1 rfl).trans ss1
            replace ss2 := (kp 2 rfl).trans ss2
            replace ss5 := (kp 5 rfl).trans ss5
            replace ss6 := (kp 6 rfl).trans ss6
            replace ss7 := (kp 7 rfl).trans ss7
            replace ss8 := (kp 8 rfl).trans ss8
            replace ss9 := (kp 9 rfl).trans ss9
            replace ss10 := (kp 10 rfl).trans ss10
            replace ss11 := (kp 11 rfl).trans ss11
            replace ss12 := (kp 12 rfl).trans ss12
            replace ss15 := (kp 15 rfl).trans ss15
            replace ss16 := (kp 16 rfl).trans ss16
            replace ss18 := (kp 18 rfl).trans ss18
            replace ss29 := (kp 29 rfl).trans ss29
            replace ss39 := (kp 39 rfl).trans ss39
            replace ss62 := (kp 62 rfl).trans ss62
            replace ss168 := (kp 168 rfl).trans ss168
            replace dd := dd1.trans dd
            clear dd1 kp
            refine then_normal ?_
            refine hK31 _ _ ?_
            refine wp_cond_false ss170 ?_
            refine wp_skip ?_
            refine block_normal ?_
            refine then_normal ?_
            refine hK11 _ _ ?_
            refine once_w_r8 c rc acts b2 b5 i a cc ps now ad cd ds hi hi2 hl hd hn0 hn1 z1ld z1rd y x hk0 hk1 b9 z2d m hm1 hm hm0 hxb hfl j hj0 z3d b15 H aa nn ss8 ?_
            clear H nn ss8
            intro aa ww nn dd1 kp ss8 H
            replace ss0 := (kp 0 rfl).trans ss0
            replace ss1 := (kp 1 rfl).trans ss1
            replace ss2 := (kp 2 rfl).trans ss2
            replace ss5 := (kp 5 rfl).trans ss5
            replace ss6 := (kp 6 rfl).trans ss6
            replace ss7 := (kp 7 rfl).trans ss7
            replace ss9 := (kp 9 rfl).trans ss9
            replace ss10 := (kp 10 rfl).trans ss10
            replace ss11 := (kp 11 rfl).trans ss11
            replace ss12 := (kp 12 rfl).trans ss12
            replace ss15 := (kp 15 rfl).trans ss15
            replace ss16 := (kp 16 rfl).trans ss16
            replace ss18 := (kp 18 rfl).trans ss18
            replace ss29 := (kp 29 rfl).trans ss29
            replace ss39 := (kp 39 rfl).trans ss39
            replace ss62 := (kp 62 rfl).trans ss62
            replace ss168 := (kp 168 rfl).trans ss168
            replace ss170 := (kp 170 rfl).trans ss170
            replace dd := dd1.trans dd
            clear dd1 kp
            refine then_normal ?_
            replace H := hp_front H 6 rfl
            replace H := hp_front H 6 rfl
            replace H := hp_front H 6 rfl
            replace H := hp_front H 6 rfl
            replace H := hp_front H 6 rfl
            refine ⟨⟨i + 1, a, cc, ps, now + m, ad, cd, ds, (by omega), (by omega), (by first | omega | exact few_add hl _ _ _ _ _), (by first | omega | (simp; omega)), (by first | exact hs | exact sorted_add hs _ _ _ _ _), (by omega), (by omega), (by first | exact hr | exact Lib.hid (room_add hr.out hnew.out)), (by first | exact Lib.hid (once_same hj.out hm0) | exact Lib.hid (once_add hj.out hs.out hm0 hk0 hk1 mk_room hnew.out)), (by first | exact hdb | exact Lib.hid (done_add hdb.out hxb)), nn, dd, ss0, ss1, ss2, ss5, ss6, ss7, ss8, ss18, (hp_take H 5)⟩, ?_⟩
            simp only [mu1_8, ss8, intOf]
            omega
        · skip
          have y6o : ((lookV (mkC c) ps (now + m) x.who x.key x.body).2 == 1) = true := neq_f y6
          have hnew := Lib.hid y6
          refine once_w_r22x1 c rc acts b2 b5 i a cc ps now ad cd ds hi hi2 hl hd hs hn0 hn1 z1ld z1rd y x hk0 hk1 b9 z2d m hm1 hm hm0 hxb hfl j hj0 z3d y6 H aa nn ss5 ss6 ss9 ?_
          clear H nn
          intro a22_11 c22_11 b15 aa ww nn dd1 kp ss15 ss16 H
          replace ss0 := (kp 0 rfl).trans ss0
          replace ss1 := (kp 1 rfl).trans ss1
          replace ss2 := (kp 2 rfl).trans ss2
          replace ss5 := (kp 5 rfl).trans ss5
          replace ss6 := (kp 6 rfl).trans ss6
          replace ss7 := (kp 7 rfl).trans ss7
          replace ss8 := (kp 8 rfl).trans ss8
          replace ss9 := (kp 9 rfl).trans ss9
          replace ss10 := (kp 10 rfl).trans ss10
          replace ss11 := (kp 11 rfl).trans ss11
          replace ss12 := (kp 12 rfl).trans ss12
          replace ss18 := (kp 18 rfl).trans ss18
          replace ss29 := (kp 29 rfl).trans ss29
          replace ss39 := (kp 39 rfl).trans ss39
          replace ss62 := (kp 62 rfl).trans ss62
          replace dd := dd1.trans dd
          clear dd1 kp
          refine then_normal ?_
          refine hK28 _ _ ?_
          refine wp_seq_k fun KK32 hK32 => ?_
          refine wp_seq_k fun KK33 hK33 => ?_
          refine once_w_r23x1 c rc acts b2 b5 i a cc ps now ad cd ds hi hi2 hl hd hn0 hn1 z1ld z1rd y x hk0 hk1 b9 z2d m hm1 hm hm0 hxb hfl j hj0 z3d y6o a22_11 c22_11 b15 H aa nn ss2 ss5 ss6 ss11 ss16 ?_
          clear H nn
          intro aa ww nn dd1 kp ss168 H
          replace ss0 := (kp 0 rfl).trans ss0
          replace ss1 := (kp 1 rfl).trans ss1
          replace ss2 := (kp 2 rfl).trans ss2
          replace ss5 := (kp 5 rfl).trans ss5
          replace ss6 := (kp 6 rfl).trans ss6
          replace ss7 := (kp 7 rfl).trans ss7
          replace ss8 := (kp 8 rfl).trans ss8
          replace ss9 := (kp 9 rfl).trans ss9
          replace ss10 := (kp 10 rfl).trans ss10
          replace ss11 := (kp 11 rfl).trans ss11
          replace ss12 := (kp 12 rfl).trans ss12
          replace ss15 := (kp 15 rfl).trans ss15
          replace ss16 := (kp 16 rfl).trans ss16
          replace ss18 := (kp 18 rfl).trans ss18
          replace ss29 := (kp 29 rfl).trans ss29
          replace ss39 := (kp 39 rfl).trans ss39
          replace ss62 := (kp 62 rfl).trans ss62
          replace dd := dd1.trans dd
          clear dd1 kp
          refine then_normal ?_
          refine hK33 _ _ ?_
          refine wp_cond_split ss168 (fun z8 => ?_) (fun z8 => ?_)
          · skip
            have z8l : (decide (c.keys < ((ps.filter (keepB (mkC c) (now + m))).length : Int))) = true := bl z8
            have z8ld : c.keys < ((ps.filter (keepB (mkC c) (now + m))).length : Int) := of_decide_eq_true z8l
            have z8r : (((ps.filter (keepB (mkC c) (now + m))).length : Int) != 0) = true := br z8
            have z8ro : (((ps.filter (keepB (mkC c) (now + m))).length : Int) == 0) = false := neq_t z8r
            exact no (once_count hr.out) z8
          · skip
            refine wp_skip ?_
            refine then_normal ?_
            refine hK32 _ _ ?_
            refine wp_seq_k fun KK34 hK34 => ?_
            refine once_w_r25x1 c rc acts b2 b5 i a cc ps now ad cd ds hi hi2 hl hd hn0 hn1 z1ld z1rd y x hk0 hk1 b9 z2d m hm1 hm hm0 hxb hfl j hj0 z3d a22_11 c22_11 b15 H aa nn ss16 ?_
            clear H nn
            intro aa ww nn dd1 kp ss170 H
            replace ss0 := (kp 0 rfl).trans ss0
            replace ss1 := (kp 1 rfl).trans ss1
            replace ss2 := (kp 2 rfl).trans ss2
            replace ss5 := (kp 5 rfl).trans ss5
            replace ss6 := (kp 6 rfl).trans ss6
            replace ss7 := (kp 7 rfl).trans ss7
            replace ss8 := (kp 8 rfl).trans ss8
            replace ss9 := (kp 9 rfl).trans ss9
            replace ss10 := (kp 10 rfl).trans ss10
            replace ss11 := (kp 11 rfl).trans ss11
            replace ss12 := (kp 12 rfl).trans ss12
            replace ss15 := (kp 15 rfl).trans ss15
            replace ss16 := (kp 16 rfl).trans ss16
            replace ss18 := (kp 18 rfl).trans ss18
            replace ss29 := (kp 29 rfl).trans ss29
            replace ss39 := (kp 39 rfl).trans ss39
            replace ss62 := (kp 62 rfl).trans ss62
            replace ss168 := (kp 168 rfl).trans ss168
            replace dd := dd1.trans dd
            clear dd1 kp
            refine then_normal ?_
            refine hK34 _ _ ?_
            refine wp_cond_true ss170 ?_
            refine wp_seq_k fun KK35 hK35 => ?_
            refine wp_seq_k fun KK36 hK36 => ?_
            refine once_w_r26 c rc acts b2 b5 i a cc ps now ad cd ds hi hi2 hl hd hn0 hn1 z1ld z1rd y x hk0 hk1 b9 z2d m hm1 hm hm0 hxb hfl j hj0 z3d a22_11 c22_11 b15 H aa nn ss2 ss5 ss6 ss15 ?_
            clear H nn
            intro aa ww nn dd1 kp ss186 H
            replace ss0 := (kp 0 rfl).trans ss0
            replace ss1 := (kp 1 rfl).trans ss1
            replace ss2 := (kp 2 rfl).trans ss2
            replace ss5 := (kp 5 rfl).trans ss5
            replace ss6 := (kp 6 rfl).trans ss6
            replace ss7 := (kp 7 rfl).trans ss7
            replace ss8 := (kp 8 rfl).trans ss8
            replace ss9 := (kp 9 rfl).trans ss9
            replace ss10 := (kp 10 rfl).trans ss10
            replace ss11 := (kp 11 rfl).trans ss11
            replace ss12 := (kp 12 rfl).trans ss12
            replace ss15 := (kp 15 rfl).trans ss15
            replace ss16 := (kp 16 rfl).trans ss16
            replace ss18 := (kp 18 rfl).trans ss18
            replace ss29 := (kp 29 rfl).trans ss29
            replace ss39 := (kp 39 rfl).trans ss39
            replace ss62 := (kp 62 rfl).trans ss62
            replace ss168 := (kp 168 rfl).trans ss168
            replace ss170 := (kp 170 rfl).trans ss170
            replace dd := dd1.trans dd
            clear dd1 kp
            refine then_normal ?_
            refine hK36 _ _ ?_
            refine wp_cond_split ss186 (fun z9 => ?_) (fun z9 => ?_)
            · skip
              exact no (once_more hr.out hnew.out) z9
            · skip
              have z9l : ((((wOnce c ps (now + m) x).filter (keepB (mkC c) (now + m))).length : Int) != (((ps.filter (keepB (mkC c) (now + m))).length : Int) + 1)) = false := ol z9
              have z9lo : ((((wOnce c ps (now + m) x).filter (keepB (mkC c) (now + m))).length : Int) == (((ps.filter (keepB (mkC c) (now + m))).length : Int) + 1)) = true := neq_f z9l
              have z9r : (decide (c.keys < (((wOnce c ps (now + m) x).filter (keepB (mkC c) (now + m))).length : Int))) = false := orr z9
              have z9rd : ¬ (c.keys < (((wOnce c ps (now + m) x).filter (keepB (mkC c) (now + m))).length : Int)) := of_decide_eq_false z9r
              refine wp_skip ?_
              refine then_normal ?_
              refine hK35 _ _ ?_
              refine wp_seq_k fun KK37 hK37 => ?_
              refine once_w_r28 c rc acts b2 b5 i a cc ps now ad cd ds hi hi2 hl hd hn0 hn1 z1ld z1rd y x hk0 hk1 b9 z2d m hm1 hm hm0 hxb hfl j hj0 z3d a22_11 c22_11 b15 z9rd H aa nn ss7 ss9 ?_
              clear H nn ss7
              intro b189 a190 c190 aa ww nn dd1 kp ss7 H
              replace ss0 := (kp 0 rfl).trans ss0
              replace ss1 := (kp 1 rfl).trans ss1
              replace ss2 := (kp 2 rfl).trans ss2
              replace ss5 := (kp 5 rfl).trans ss5
              replace ss6 := (kp 6 rfl).trans ss6
              replace ss8 := (kp 8 rfl).trans ss8
              replace ss9 := (kp 9 rfl).trans ss9
              replace ss10 := (kp 10 rfl).trans ss10
              replace ss11 := (kp 11 rfl).trans ss11
              replace ss12 := (kp 12 rfl).trans ss12
              replace ss15 := (kp 15 rfl).trans ss15
              replace ss16 := (kp 16 rfl).trans ss16
              replace ss18 := (kp 18 rfl).trans ss18
              replace ss29 := (kp 29 rfl).trans ss29
              replace ss39 := (kp 39 rfl).trans ss39
              replace ss62 := (kp 62 rfl).trans ss62
              replace ss168 := (kp 168 rfl).trans ss168
              replace ss170 := (kp 170 rfl).trans ss170
              replace ss186 := (kp 186 rfl).trans ss186
              replace dd := dd1.trans dd
              clear dd1 kp
              refine then_normal ?_
              refine hK37 _ _ ?_
              refine once_w_r29 c rc acts b2 b5 i a cc ps now ds hi hi2 hl hd hn0 hn1 z1ld z1rd y x hk0 hk1 b9 z2d m hm1 hm hm0 hxb hfl j hj0 z3d a22_11 c22_11 b15 z9rd b189 a190 c190 H aa nn ss5 ss15 ?_
              clear H nn
              intro aa ww nn dd1 kp H
              replace ss0 := (kp 0 rfl).trans ss0
              replace ss1 := (kp 1 rfl).trans ss1
              replace ss2 := (kp 2 rfl).trans ss2
              replace ss5 := (kp 5 rfl).trans ss5
              replace ss6 := (kp 6 rfl).trans ss6
              replace ss7 := (kp 7 rfl).trans ss7
              replace ss8 := (kp 8 rfl).trans ss8
              replace ss9 := (kp 9 rfl).trans ss9
              replace ss10 := (kp 10 rfl).trans ss10
              replace ss11 := (kp 11 rfl).trans ss11
              replace ss12 := (kp 12 rfl).trans ss12
              replace ss15 := (kp 15 rfl).trans ss15
              replace ss16 := (kp 16 rfl).trans ss16
              replace ss18 := (kp 18 rfl).trans ss18
              replace ss29 := (kp 29 rfl).trans ss29
              replace ss39 := (kp 39 rfl).trans ss39
              replace ss62 := (kp 62 rfl).trans ss62
              replace ss168 := (kp 168 rfl).trans ss168
              replace ss170 := (kp 170 rfl).trans ss170
              replace ss186 := (kp 186 rfl).trans ss186
              replace dd := dd1.trans dd
              clear dd1 kp
              refine block_normal ?_
              refine then_normal ?_
              refine hK11 _ _ ?_
              refine once_w_r8x1 c rc acts b2 b5 i a cc ps now ds hi hi2 hl hd hn0 hn1 z1ld z1rd y x hk0 hk1 b9 z2d m hm1 hm hm0 hxb hfl j hj0 z3d a22_11 c22_11 b15 z9rd b189 a190 c190 H aa nn ss8 ?_
              clear H nn ss8
              intro aa ww nn dd1 kp ss8 H
              replace ss0 := (kp 0 rfl).trans ss0
              replace ss1 := (kp 1 rfl).trans ss1
              replace ss2 := (kp 2 rfl).trans ss2
              replace ss5 := (kp 5 rfl).trans ss5
              replace ss6 := (kp 6 rfl).trans ss6
              replace ss7 := (kp 7 rfl).trans ss7
              replace ss9 := (kp 9 rfl).trans ss9
              replace ss10 := (kp 10 rfl).trans ss10
              replace ss11 := (kp 11 rfl).trans ss11
              replace ss12 := (kp 12 rfl).trans ss12
              replace ss15 := (kp 15 rfl).trans ss15
              replace ss16 := (kp 16 rfl).trans ss16
              replace ss18 := (kp 18 rfl).trans ss18
              replace ss29 := (kp 29 rfl).trans ss29
              replace ss39 := (kp 39 rfl).trans ss39
              replace ss62 := (kp 62 rfl).trans ss62
              replace ss168 := (kp 168 rfl).trans ss168
              replace ss170 := (kp 170 rfl).trans ss170
              replace ss186 := (kp 186 rfl).trans ss186
              replace dd := dd1.trans dd
              clear dd1 kp
              refine then_normal ?_
              replace H := hp_front H 8 rfl
              replace H := hp_front H 3 rfl
              replace H := hp_front H 7 rfl
              replace H := hp_front H 7 rfl
              replace H := hp_front H 7 rfl
              refine ⟨⟨i + 1, a22_11, c22_11, (wOnce c ps (now + m) x), now + m, a190, c190, (ds ++ [x]), (by omega), (by omega), (by first | omega | exact few_add hl _ _ _ _ _), (by first | omega | (simp; omega)), (by first | exact hs | exact sorted_add hs _ _ _ _ _), (by omega), (by omega), (by first | exact hr | exact Lib.hid (room_add hr.out hnew.out)), (by first | exact Lib.hid (once_same hj.out hm0) | exact Lib.hid (once_add hj.out hs.out hm0 hk0 hk1 mk_room hnew.out)), (by first | exact hdb | exact Lib.hid (done_add hdb.out hxb)), nn, dd, ss0, ss1, ss2, ss5, ss6, ss7, ss8, ss18, (hp_take H 5)⟩, ?_⟩
              simp only [mu1_8, ss8, intOf]
              omega
  · skip
    refine wp_exit ?_
    refine then_exit ?_
    refine then_exit ?_
    refine block_exit ?_
    refine then_normal ?_
    refine hK7 _ _ ?_
    refine wp_seq_k fun KK38 hK38 => ?_
    refine once_w_r30 c ra rc acts b2 b5 i a cc ps now ad cd ds hi hi2 hl hd hn0 hn1 H aa nn  ?_
    clear H nn
    intro aa ww nn dd1 kp ss4 H
    replace ss0 := (kp 0 rfl).trans ss0
    replace ss1 := (kp 1 rfl).trans ss1
    replace ss2 := (kp 2 rfl).trans ss2
    replace ss5 := (kp 5 rfl).trans ss5
    replace ss6 := (kp 6 rfl).trans ss6
    replace ss7 := (kp 7 rfl).trans ss7
    replace ss8 := (kp 8 rfl).trans ss8
    replace ss18 := (kp 18 rfl).trans ss18
    replace ss29 := (kp 29 rfl).trans ss29
    replace dd := dd1.trans dd
    clear dd1 kp
    refine then_normal ?_
    refine hK38 _ _ ?_
    refine wp_ret ?_
    exact ret1 rfl dd ss4 ⟨rfl, H.out.off⟩
end Go.Proofs.Ytfhhfmkfkoemjaa.Se6
