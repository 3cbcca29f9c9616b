/- Layer 15: the reference: payloads. -/
import Derived.Test.YtloemjhhedkhiaaProg
import Derived.Below
import Derived.WalkKit
import Derived.KernelRfl
import Derived.RowKit3
import Derived.Deep.LoopGhost
import Derived.Deep.QuietTactic
import Derived.BigQuiet
import Derived.WideLaws
import Derived.Deep.DeepCutAuto
import Derived.Deep.CutBlock
import Derived.Lib.Hide
import Derived.Laws.BitsLemmas
import Derived.Laws.Bits64
import Derived.Laws.BitsAllLaws
import Derived.IntWalk
import Derived.Outline
import Derived.WalkSpells
import Derived.Test.YtloemjhhedkhiaaMem
import Derived.Test.YtloemjhhedkhiaaLwNoteNotices
namespace Go.Proofs.Ytloemjhhedkhiaa.Nt
open Go.RowKit Go.Proofs.Ytloemjhhedkhiaa.Mem Go.Proofs.Ytloemjhhedkhiaa.Pk Go.Proofs.Ytloemjhhedkhiaa.Reg Go.Proofs.Ytloemjhhedkhiaa.Wk
set_option linter.unusedVariables false
set_option linter.unusedSimpArgs false

def smA (v : AnsV) : Prop := v.seq < 9223372036854775808 ∧ v.code < 9223372036854775808 ∧ v.index < 9223372036854775808 ∧ v.session < 9223372036854775808 ∧ (v.pass < 9223372036854775808) ∧ ∀ x ∈ v.calls, smC x
theorem num_code (n : Int) : (numV 1 n 11).2 = (decide (0 ≤ n) && decide (n ≤ 11)) := by
  unfold numV
  simp only []
  rw [ref1]
  rw [Bool.eq_iff_iff]
  simp
  omega
theorem num_pass (n : Int) : (numV 4 n 4294967295).2 = (decide (0 ≤ n) && decide (n ≤ 4294967295)) := by
  unfold numV
  simp only []
  rw [ref4]
  rw [Bool.eq_iff_iff]
  simp
  omega
theorem refR_pay (v : AnsV) (hl : v.calls.length ≤ 64) (hc : v.calls.all callOk = true) (hp : 0 ≤ v.pass ∧ v.pass ≤ 4294967295) : ((((numV 1 v.code 11).2 && (numV 4 v.index 1073741824).2) && (numV 4 v.session 1073741824).2) && (numV 4 v.pass 4294967295).2) = payOk v := by
  rw [num_code, num4_ok, num4_ok, num_pass]
  unfold payOk
  rw [hc, decide_eq_true hl, decide_eq_true hp.1, decide_eq_true hp.2]
  simp only [Bool.and_true, Bool.true_and]
  rw [Bool.and_assoc, Bool.and_assoc]
theorem num2_is {n : Nat} (h : n ≤ 64) : (refNumV 2 n).1 = str (beB 2 n) := by
  unfold refNumV
  rw [if_pos ⟨rfl, Int.natCast_nonneg n⟩]
  rfl
theorem pay_cat {v : AnsV} (hl : v.calls.length ≤ 64) (h : payOk v = true) (hp : 0 ≤ v.pass ∧ v.pass ≤ 4294967295) : (((((numV 1 v.code 11).1 ++ (numV 4 v.index 1073741824).1) ++ (numV 4 v.session 1073741824).1) ++ (numV 4 v.pass 4294967295).1) ++ (refNumV 2 v.calls.length).1) ++ str (callsB v.calls) = str (payB v) := by
  unfold payOk at h
  simp only [Bool.and_eq_true, decide_eq_true_eq] at h
  obtain ⟨⟨h1, h2⟩, h3, ⟨h4, h5⟩, h6⟩ := h
  rw [num2_is hl, num4_is h4, num4_is h5, num1_is (by rw [byt_iff]; omega), show (numV 4 v.pass 4294967295).1 = str (beB 4 v.pass.toNat) from (ref_ok (k := 4) (.inr rfl) _).2 hp.1]
  unfold payB
  simp only [str_more, ByteArray.append_assoc]
theorem pay_no {v : AnsV} (h : v.calls.all callOk = false) : payOk v = false := by
  unfold payOk
  rw [h]
  simp
theorem pay_long {v : AnsV} (h : (decide (64 < (v.calls.length : Int))) = true) : payOk v = false := by
  have h1 := of_decide_eq_true h
  unfold payOk
  rw [decide_eq_false (show ¬ v.calls.length ≤ 64 by omega)]
  simp
theorem any_not {xs : List CallV} {i : Nat} {x : CallV} (hx : xs[i]? = some x) (ho : callOk x = false) : xs.all callOk = false := (all_not hx ho).symm
theorem o_next {v : AnsV} {i : Nat} {x : CallV} {o C : ByteArray} (h : (v.calls.take i).all callOk = true ∧ o = C ++ str (callsB (v.calls.take i))) (hx : v.calls[i]? = some x) (ho : callOk x = true) : (v.calls.take (i + 1)).all callOk = true ∧ o ++ refCallV x = C ++ str (callsB (v.calls.take (i + 1))) := by
  refine ⟨take_all h.1 hx ho, ?_⟩
  rw [h.2, ← take_bytes hx, str_more]
  unfold refCallV
  rw [ho]
  simp only [cond_true, ByteArray.append_assoc]
theorem tyhoistwayref15_Answer : TyI Try.prog 66 6 true [.int .i64 0, .int .i64 0, .int .i64 0, .int .i64 0, .int .i64 0, .slice none 0 0] := ⟨by kernel_rfl, by kernel_rfl, by kernel_rfl⟩
theorem app_nil (s : ByteArray) : s ++ (⟨#[]⟩ : ByteArray) = s := by
  apply ByteArray.ext
  simp
def tab_refPay : Wk.Tab := [(66, 1, 1), (66, 2, 2), (66, 3, 3), (66, 4, 4), (66, 5, 5)]
theorem p_refPay {ops : Array Oper} {rest : List Oper} {o : Oper} {w0 : World} {Q : Exit → Act → World → Prop} {S : List Nat} {R : List Res} {K K' : Wk.Env} {N : Nat} (h : Wk.stp tab_refPay N ops K o = some K') (n : Wk.Wk N S w0 K' R (wpList Try.prog ops Q rest)) : Wk.Wk N S w0 K R (wpList Try.prog ops Q (o :: rest)) := Wk.wP (T := tab_refPay) (by kernel_rfl) h n
set_option maxHeartbeats 4000000 in
set_option maxRecDepth 20000 in
theorem refPay_r16 (v : AnsV) (sa : Option Addr) (sc : Nat) (hp : 0 ≤ v.pass ∧ v.pass ≤ 4294967295) (hs1 : (numV 1 v.code 11).1.size ≤ 8) (hs2 : (numV 4 v.index 1073741824).1.size ≤ 8) (hs3 : (numV 4 v.session 1073741824).1.size ≤ 8) (hs4 : (numV 4 v.pass 4294967295).1.size ≤ 8) (hs5 : (refNumV 2 v.calls.length).1.size ≤ 8) (b1 : Nat) (z1d : ¬ (64 < (v.calls.length : Int))) (i : Nat) (o : ByteArray) (hi : i ≤ v.calls.length) (hos : o.size ≤ 40 + 17 * i) (z2d : ¬ (i < v.calls.length)) {wa wb : World} (H : Hid (Hp [] wa wb [rB b1 66 [.int .i64 v.seq, .int .i64 v.code, .int .i64 v.index, .int .i64 v.session, .int .i64 v.pass, .slice sa v.calls.length sc], rS sa sc 8 (v.calls.map callRow)])) (ac0 : Act) (hz : ac0.tmps.size = 94) (so5 : ac0.eval (.tmp 5) = .bool ((numV 1 v.code 11).2)) (so7 : ac0.eval (.tmp 7) = .bool ((numV 4 v.index 1073741824).2)) (so9 : ac0.eval (.tmp 9) = .bool ((numV 4 v.session 1073741824).2)) (so11 : ac0.eval (.tmp 11) = .bool ((numV 4 v.pass 4294967295).2)) (so14 : ac0.eval (.tmp 14) = .string o) {QR : Exit → Act → World → Prop} (hfin : ∀ (ac1 : Act) (wz : World), ac1.tmps.size = 94 → ac1.defers = ac0.defers → (∀ t, ([2, 3, 83, 84, 85, 86, 87, 88, 89, 90, 91, 92, 93] : List Nat).contains t = false → ac1.eval (.tmp t) = ac0.eval (.tmp t)) → ac1.eval (.tmp 2) = .string o → ac1.eval (.tmp 3) = .bool (((((numV 1 v.code 11).2) && ((numV 4 v.index 1073741824).2)) && ((numV 4 v.session 1073741824).2)) && ((numV 4 v.pass 4294967295).2)) →  Hid (Hp [] wa wz [rB b1 66 [.int .i64 v.seq, .int .i64 v.code, .int .i64 v.index, .int .i64 v.session, .int .i64 v.pass, .slice sa v.calls.length sc], rS sa sc 8 (v.calls.map callRow)]) → QR .normal ac1 wz) : (regAt Try.f31 16).wp Try.prog QR ac0 wb := by
  refine wp_region_sq (by kernel_rfl) 94 hz (by kernel_rfl) (fun (xx : Unit) jx => nth [.string o, .bool ((numV 1 v.code 11).2), .bool ((numV 1 v.code 11).2), bif ((numV 1 v.code 11).2) then .bool ((numV 4 v.index 1073741824).2) else undef, .bool (((numV 1 v.code 11).2) && ((numV 4 v.index 1073741824).2)), .bool (((numV 1 v.code 11).2) && ((numV 4 v.index 1073741824).2)), bif (((numV 1 v.code 11).2) && ((numV 4 v.index 1073741824).2)) then .bool ((numV 4 v.session 1073741824).2) else undef, .bool ((((numV 1 v.code 11).2) && ((numV 4 v.index 1073741824).2)) && ((numV 4 v.session 1073741824).2)), .bool ((((numV 1 v.code 11).2) && ((numV 4 v.index 1073741824).2)) && ((numV 4 v.session 1073741824).2)), bif ((((numV 1 v.code 11).2) && ((numV 4 v.index 1073741824).2)) && ((numV 4 v.session 1073741824).2)) then .bool ((numV 4 v.pass 4294967295).2) else undef, .bool (((((numV 1 v.code 11).2) && ((numV 4 v.index 1073741824).2)) && ((numV 4 v.session 1073741824).2)) && ((numV 4 v.pass 4294967295).2)), .string o, .bool (((((numV 1 v.code 11).2) && ((numV 4 v.index 1073741824).2)) && ((numV 4 v.session 1073741824).2)) && ((numV 4 v.pass 4294967295).2))] jx) (fun (LL : Nat → Bool) (xx : Unit) ww => Hp [] wa ww [rB b1 66 [.int .i64 v.seq, .int .i64 v.code, .int .i64 v.index, .int .i64 v.session, .int .i64 v.pass, .slice sa v.calls.length sc], rS sa sc 8 (v.calls.map callRow)]) () H.out ?_ (steps_al ?_) ?_ ?_
  · exact fun _ _ _ _ _ h => h
  · refine al_cons ?_ (al_cons ?_ (al_cons ?_ (al_cons ?_ (al_cons ?_ (al_cons ?_ (al_cons ?_ (al_cons ?_ (al_cons ?_ (al_cons ?_ (al_cons ?_ (al_cons ?_ (al_cons ?_ (al_nil)))))))))))))
    · intro LL xx ac wc sg hst hwant QQ hgo
      exact op_val hwant hgo hst _ (exec_move rfl ((sg.free 14 (by kernel_rfl)).trans so14)) rfl
    · intro LL xx ac wc sg hst hwant QQ hgo
      exact op_val hwant hgo hst _ (exec_move rfl ((sg.free 5 (by kernel_rfl)).trans so5)) rfl
    · intro LL xx ac wc sg hst hwant QQ hgo
      exact op_val hwant hgo hst _ (exec_move rfl (sg.slot 1 (sg.anc 1 rfl))) rfl
    · intro LL xx ac wc sg hst hwant QQ hgo
      have hG : ((numV 1 v.code 11).2) = true := (want_t rfl rfl (sg.slot 2 (sg.anc 2 rfl))).symm.trans hwant
      exact op_val hwant hgo hst _ (exec_move rfl ((sg.free 7 (by kernel_rfl)).trans so7)) (cI hG)
    · intro LL xx ac wc sg hst hwant QQ hgo
      exact op_val hwant hgo hst (.bool (((numV 1 v.code 11).2) && ((numV 4 v.index 1073741824).2))) (exec_and (Y := (numV 4 v.index 1073741824).2) rfl (sg.slot 2 (sg.anc 2 rfl)) (fun qq => cT (sg.slot 3 (sg.anc 3 rfl)) qq)) rfl
    · intro LL xx ac wc sg hst hwant QQ hgo
      exact op_val hwant hgo hst _ (exec_move rfl (sg.slot 4 (sg.anc 4 rfl))) rfl
    · intro LL xx ac wc sg hst hwant QQ hgo
      have hG : (((numV 1 v.code 11).2) && ((numV 4 v.index 1073741824).2)) = true := (want_t rfl rfl (sg.slot 5 (sg.anc 5 rfl))).symm.trans hwant
      exact op_val hwant hgo hst _ (exec_move rfl ((sg.free 9 (by kernel_rfl)).trans so9)) (cI hG)
    · intro LL xx ac wc sg hst hwant QQ hgo
      exact op_val hwant hgo hst (.bool ((((numV 1 v.code 11).2) && ((numV 4 v.index 1073741824).2)) && ((numV 4 v.session 1073741824).2))) (exec_and (Y := (numV 4 v.session 1073741824).2) rfl (sg.slot 5 (sg.anc 5 rfl)) (fun qq => cT (sg.slot 6 (sg.anc 6 rfl)) qq)) rfl
    · intro LL xx ac wc sg hst hwant QQ hgo
      exact op_val hwant hgo hst _ (exec_move rfl (sg.slot 7 (sg.anc 7 rfl))) rfl
    · intro LL xx ac wc sg hst hwant QQ hgo
      have hG : ((((numV 1 v.code 11).2) && ((numV 4 v.index 1073741824).2)) && ((numV 4 v.session 1073741824).2)) = true := (want_t rfl rfl (sg.slot 8 (sg.anc 8 rfl))).symm.trans hwant
      exact op_val hwant hgo hst _ (exec_move rfl ((sg.free 11 (by kernel_rfl)).trans so11)) (cI hG)
    · intro LL xx ac wc sg hst hwant QQ hgo
      exact op_val hwant hgo hst (.bool (((((numV 1 v.code 11).2) && ((numV 4 v.index 1073741824).2)) && ((numV 4 v.session 1073741824).2)) && ((numV 4 v.pass 4294967295).2))) (exec_and (Y := (numV 4 v.pass 4294967295).2) rfl (sg.slot 8 (sg.anc 8 rfl)) (fun qq => cT (sg.slot 9 (sg.anc 9 rfl)) qq)) rfl
    · intro LL xx ac wc sg hst hwant QQ hgo
      exact op_val hwant hgo hst _ (exec_assign rfl (sg.slot 0 (sg.anc 0 rfl))) rfl
    · intro LL xx ac wc sg hst hwant QQ hgo
      exact op_val hwant hgo hst _ (exec_assign rfl (sg.slot 10 (sg.anc 10 rfl))) rfl
  · refine skips [3, 6, 9] (by kernel_rfl) ?_
    refine List.forall_mem_cons.2 ⟨?_, List.forall_mem_cons.2 ⟨?_, List.forall_mem_cons.2 ⟨?_, fun _ h => by cases h⟩⟩⟩
    · intro oo hop LL xx ac sg hwant
      cases Option.some.inj hop
      have hG : ((numV 1 v.code 11).2) = false := (want_t rfl rfl (sg.slot 2 (sg.anc 2 rfl))).symm.trans hwant
      exact ⟨cF hG, fun _ h => h⟩
    · intro oo hop LL xx ac sg hwant
      cases Option.some.inj hop
      have hG : (((numV 1 v.code 11).2) && ((numV 4 v.index 1073741824).2)) = false := (want_t rfl rfl (sg.slot 5 (sg.anc 5 rfl))).symm.trans hwant
      exact ⟨cF hG, fun _ h => h⟩
    · intro oo hop LL xx ac sg hwant
      cases Option.some.inj hop
      have hG : ((((numV 1 v.code 11).2) && ((numV 4 v.index 1073741824).2)) && ((numV 4 v.session 1073741824).2)) = false := (want_t rfl rfl (sg.slot 8 (sg.anc 8 rfl))).symm.trans hwant
      exact ⟨cF hG, fun _ h => h⟩
  · intro xx ac1 wz hfr hsl hst
    exact hfin ac1 wz (hfr.size.trans hz) hfr.defers (fr_keep hfr [2, 3, 83, 84, 85, 86, 87, 88, 89, 90, 91, 92, 93] (by kernel_rfl)) (hsl 11 (by decide)) (hsl 12 (by decide)) (Lib.hid hst)
set_option maxHeartbeats 16000000 in
set_option maxRecDepth 20000 in
theorem refPay (v : AnsV) (sa : Option Addr) (sc : Nat) (w : World) (hS : (rS sa sc 8 (v.calls.map callRow)).holds w) (hv : Hid (smA v)) (hp : 0 ≤ v.pass ∧ v.pass ≤ 4294967295) : Calls Try.prog 31 #[.agg #[.int .i64 v.seq, .int .i64 v.code, .int .i64 v.index, .int .i64 v.session, .int .i64 v.pass, .slice sa v.calls.length sc]] w fun e w' => ∃ p : ByteArray, e = .returned (.tuple #[.string p, .bool (payOk v)]) ∧ (payOk v = true → p = str (payB v)) ∧ p.size ≤ 2000 ∧ Off [] w w' := by
 have H := Lib.hid (Hp.start [] w)
 have H := hp_old H hS (by decide)
 clear hS
 refine wStart (args := [.agg #[.int .i64 v.seq, .int .i64 v.code, .int .i64 v.index, .int .i64 v.session, .int .i64 v.pass, .slice sa v.calls.length sc]]) Try.func31 rfl rfl rfl H ?_
 clear H
 show Wk 94 _ _ [(0, .agg #[.int .i64 v.seq, .int .i64 v.code, .int .i64 v.index, .int .i64 v.session, .int .i64 v.pass, .slice sa v.calls.length sc])] _ _
 have hs1 : (numV 1 v.code 11).1.size ≤ 8 := num_size _ _ _
 have hs2 : (numV 4 v.index 1073741824).1.size ≤ 8 := num_size _ _ _
 have hs3 : (numV 4 v.session 1073741824).1.size ≤ 8 := num_size _ _ _
 have hs4 : (numV 4 v.pass 4294967295).1.size ≤ 8 := num_size _ _ _
 have hs5 : (refNumV 2 v.calls.length).1.size ≤ 8 := ref_size _ _
 refine wSeqK fun KK1 hK1 => ?_
 refine wReg ?_
 refine wBx rfl rfl rfl fun b1 => ?_
 iterate 2 refine p_refPay rfl ?_
 refine wN ?_
 refine tN (wKK hK1 ?_)
 refine wSeqK fun KK2 hK2 => ?_
 refine wSeqK fun KK3 hK3 => ?_
 refine wReg ?_
 refine p_refPay rfl ?_
 refine wLd rfl tyS_api_Call 0 rfl rfl ?_
 refine wE (.int .i64 v.calls.length) rfl rfl rfl (fun aa ww hs _ => by have e19 := hs 19 _ rfl; have g19 := gt_of e19; simp only [execOp]; go_simp <;> omega) ?_
 refine p_refPay rfl ?_
 refine wN ?_
 refine tN (wKK hK3 ?_)
 refine wCond (E := decide (64 < (v.calls.length : Int))) rfl (fun z1 => ?_) (fun z1 => ?_)
 · skip
   have z1d : 64 < (v.calls.length : Int) := of_decide_eq_true z1
   refine wSeqK fun KK4 hK4 => ?_
   refine wReg ?_
   iterate 2 refine p_refPay rfl ?_
   refine wN ?_
   refine tN (wKK hK4 ?_)
   refine wRet ?_
   refine tR ?_
   exact wR2 rfl rfl rfl (fun ww H => ⟨⟨#[]⟩, by rw [pay_long z1], fun h => (by rw [pay_long z1] at h; cases h), by decide, H.out.off⟩)
 · skip
   have z1d : ¬ (64 < (v.calls.length : Int)) := of_decide_eq_false z1
   refine wSk ?_
   refine tN (wKK hK2 ?_)
   refine wSeqK fun KK5 hK5 => ?_
   refine wReg ?_
   refine p_refPay rfl ?_
   refine wLd rfl tyint 0 rfl rfl ?_
   refine wQ (l := [.int .i64 1, .int .i64 v.code, .int .i64 11]) Try.func50 rfl (by kernel_rfl) (.tuple #[.string ((numV 1 v.code 11).1), .bool ((numV 1 v.code 11).2)]) (fun wc H => numC 1 v.code 11 wc hv.out.2.1) rfl rfl rfl rfl ?_
   iterate 5 refine p_refPay rfl ?_
   refine wN ?_
   refine tN (wKK hK5 ?_)
   refine wSeqK fun KK6 hK6 => ?_
   refine wReg ?_
   refine p_refPay rfl ?_
   refine wLd rfl tyint 0 rfl rfl ?_
   refine wQ (l := [.int .i64 4, .int .i64 v.index, .int .i64 1073741824]) Try.func50 rfl (by kernel_rfl) (.tuple #[.string ((numV 4 v.index 1073741824).1), .bool ((numV 4 v.index 1073741824).2)]) (fun wc H => numC 4 v.index 1073741824 wc hv.out.2.2.1) rfl rfl rfl rfl ?_
   iterate 5 refine p_refPay rfl ?_
   refine wN ?_
   refine tN (wKK hK6 ?_)
   refine wSeqK fun KK7 hK7 => ?_
   refine wReg ?_
   refine p_refPay rfl ?_
   refine wLd rfl tyint 0 rfl rfl ?_
   refine wQ (l := [.int .i64 4, .int .i64 v.session, .int .i64 1073741824]) Try.func50 rfl (by kernel_rfl) (.tuple #[.string ((numV 4 v.session 1073741824).1), .bool ((numV 4 v.session 1073741824).2)]) (fun wc H => numC 4 v.session 1073741824 wc hv.out.2.2.2.1) rfl rfl rfl rfl ?_
   iterate 5 refine p_refPay rfl ?_
   refine wN ?_
   refine tN (wKK hK7 ?_)
   refine wSeqK fun KK8 hK8 => ?_
   refine wReg ?_
   refine p_refPay rfl ?_
   refine wLd rfl tyint 0 rfl rfl ?_
   refine wQ (l := [.int .i64 4, .int .i64 v.pass, .int .i64 4294967295]) Try.func50 rfl (by kernel_rfl) (.tuple #[.string ((numV 4 v.pass 4294967295).1), .bool ((numV 4 v.pass 4294967295).2)]) (fun wc H => numC 4 v.pass 4294967295 wc hv.out.2.2.2.2.1) rfl rfl rfl rfl ?_
   iterate 5 refine p_refPay rfl ?_
   refine wN ?_
   refine tN (wKK hK8 ?_)
   refine wSeqK fun KK9 hK9 => ?_
   refine wReg ?_
   refine p_refPay rfl ?_
   refine wLd rfl tyS_api_Call 0 rfl rfl ?_
   refine wE (.int .i64 v.calls.length) rfl rfl rfl (fun aa ww hs _ => by have e48 := hs 48 _ rfl; have g48 := gt_of e48; simp only [execOp]; go_simp <;> omega) ?_
   refine wQ (l := [.int .i64 2, .int .i64 v.calls.length]) Try.func36 rfl (by kernel_rfl) (.tuple #[.string ((refNumV 2 v.calls.length).1), .bool ((refNumV 2 v.calls.length).2)]) (fun wc H => refNum 2 v.calls.length wc (by omega)) rfl rfl rfl rfl ?_
   iterate 5 refine p_refPay rfl ?_
   refine wN ?_
   refine tN (wKK hK9 ?_)
   refine wSeqK fun KK10 hK10 => ?_
   refine wReg ?_
   iterate 2 refine p_refPay rfl ?_
   refine wE (.string (((numV 1 v.code 11).1) ++ ((numV 4 v.index 1073741824).1))) rfl rfl rfl (fun aa ww hs _ => by have e53 := hs 53 _ rfl; have g53 := gt_of e53; have e54 := hs 54 _ rfl; have g54 := gt_of e54; simp only [execOp]; go_simp <;> omega) ?_
   refine p_refPay rfl ?_
   refine wE (.string ((((numV 1 v.code 11).1) ++ ((numV 4 v.index 1073741824).1)) ++ ((numV 4 v.session 1073741824).1))) rfl rfl rfl (fun aa ww hs _ => by have e55 := hs 55 _ rfl; have g55 := gt_of e55; have e56 := hs 56 _ rfl; have g56 := gt_of e56; simp only [execOp]; go_simp <;> omega) ?_
   refine p_refPay rfl ?_
   refine wE (.string (((((numV 1 v.code 11).1) ++ ((numV 4 v.index 1073741824).1)) ++ ((numV 4 v.session 1073741824).1)) ++ ((numV 4 v.pass 4294967295).1))) rfl rfl rfl (fun aa ww hs _ => by have e57 := hs 57 _ rfl; have g57 := gt_of e57; have e58 := hs 58 _ rfl; have g58 := gt_of e58; simp only [execOp]; go_simp <;> omega) ?_
   refine p_refPay rfl ?_
   refine wE (.string ((((((numV 1 v.code 11).1) ++ ((numV 4 v.index 1073741824).1)) ++ ((numV 4 v.session 1073741824).1)) ++ ((numV 4 v.pass 4294967295).1)) ++ ((refNumV 2 v.calls.length).1))) rfl rfl rfl (fun aa ww hs _ => by have e59 := hs 59 _ rfl; have g59 := gt_of e59; have e60 := hs 60 _ rfl; have g60 := gt_of e60; simp only [execOp]; go_simp <;> omega) ?_
   refine p_refPay rfl ?_
   refine wN ?_
   refine tN (wKK hK10 ?_)
   refine wSeqK fun KK11 hK11 => ?_
   refine wSeqK fun KK12 hK12 => ?_
   refine wReg ?_
   refine p_refPay rfl ?_
   refine wN ?_
   refine tN (wKK hK12 ?_)
   refine wBlk ?_
   refine wLoop (fun ab wv => ∃ i : Nat, ∃ o : ByteArray, i ≤ v.calls.length ∧ Hid ((v.calls.take i).all callOk = true ∧ o = (((((numV 1 v.code 11).1 ++ (numV 4 v.index 1073741824).1) ++ (numV 4 v.session 1073741824).1) ++ (numV 4 v.pass 4294967295).1) ++ (refNumV 2 v.calls.length).1) ++ str (callsB (v.calls.take i))) ∧ o.size ≤ 40 + 17 * i ∧ ab.tmps.size = 94 ∧ ab.defers = [] ∧ Sat [(0, .agg #[.int .i64 v.seq, .int .i64 v.code, .int .i64 v.index, .int .i64 v.session, .int .i64 v.pass, .slice sa v.calls.length sc]), (1, .pointer (some ⟨b1, 0, none⟩)), (4, .string ((numV 1 v.code 11).1)), (5, .bool ((numV 1 v.code 11).2)), (6, .string ((numV 4 v.index 1073741824).1)), (7, .bool ((numV 4 v.index 1073741824).2)), (8, .string ((numV 4 v.session 1073741824).1)), (9, .bool ((numV 4 v.session 1073741824).2)), (10, .string ((numV 4 v.pass 4294967295).1)), (11, .bool ((numV 4 v.pass 4294967295).2)), (12, .string ((refNumV 2 v.calls.length).1)), (14, .string o), (15, .int .i64 i), (21, .bool (decide (64 < (v.calls.length : Int))))] ab ∧ Hid (Hp [] w wv [rB b1 66 [.int .i64 v.seq, .int .i64 v.code, .int .i64 v.index, .int .i64 v.session, .int .i64 v.pass, .slice sa v.calls.length sc], rS sa sc 8 (v.calls.map callRow)])) (fun ab _ => v.calls.length - (intOf (ab.eval (.tmp 15))).toNat) (fun aa ww nn dd hs H => ⟨0, (((((numV 1 v.code 11).1 ++ (numV 4 v.index 1073741824).1) ++ (numV 4 v.session 1073741824).1) ++ (numV 4 v.pass 4294967295).1) ++ (refNumV 2 v.calls.length).1), (Nat.zero_le _), (Lib.hid ⟨rfl, by simp [callsB, str, app_nil]⟩), (by simp only [ByteArray.size_append]; omega), nn, dd, (sat_sub ⟨rfl, rfl, rfl, rfl, rfl, rfl, rfl, rfl, rfl, rfl, rfl, rfl, rfl, rfl, trivial⟩ hs), H⟩) ?_
   rintro a1 wv ⟨i, o, hi, ho, hos, nn, dd, hs, H⟩
   have mu1_15 := hs 15 _ rfl
   refine wIn nn dd hs H ?_
   clear nn dd hs H
   refine wSeqK fun KK13 hK13 => ?_
   refine wSeqK fun KK14 hK14 => ?_
   refine wReg ?_
   iterate 2 refine p_refPay rfl ?_
   refine wLd rfl tyS_api_Call 0 rfl rfl ?_
   refine wE (.int .i64 v.calls.length) rfl rfl rfl (fun aa ww hs _ => by have e64 := hs 64 _ rfl; have g64 := gt_of e64; simp only [execOp]; go_simp <;> omega) ?_
   refine p_refPay rfl ?_
   refine wB (c := decide (i < v.calls.length)) 66 rfl (by simp) ?_
   refine wN ?_
   refine tN (wKK hK14 ?_)
   refine wCond (E := decide (i < v.calls.length)) rfl (fun z2 => ?_) (fun z2 => ?_)
   · skip
     have z2d : i < v.calls.length := of_decide_eq_true z2
     intro aa ww nn dd hs H
     obtain ⟨y, rfl⟩ := some_of_row (hp_held H (show rS sa sc 8 (v.calls.map callRow) ∈ _ by simp)) (i := i) (by simp; omega)
     obtain ⟨x, hx⟩ : ∃ x, v.calls[i]? = some x := ⟨v.calls[i], List.getElem?_eq_getElem (by omega)⟩
     have HRx := Lib.hid (show (v.calls.map callRow)[i]? = some [.int .i64 x.id, .int .i64 x.kind, .int .i64 x.src, .int .i64 x.dst, .int .i64 x.car, .int .i64 x.state, .int .i64 x.owner, .int .i64 x.born] by rw [List.getElem?_map, hx]; rfl)
     have HXx := Lib.hid hx
     clear hx
     refine wIn nn dd hs H ?_
     refine wSk ?_
     refine tN (wKK hK13 ?_)
     refine wSeqK fun KK15 hK15 => ?_
     refine wBlk ?_
     refine wSeqK fun KK16 hK16 => ?_
     refine wReg ?_
     refine p_refPay rfl ?_
     refine wLd rfl tyS_api_Call 0 rfl rfl ?_
     refine p_refPay rfl ?_
     refine wE (.pointer (some (y.add (i * 8)))) rfl rfl rfl (fun aa ww hs _ => by have e71 := hs 71 _ rfl; have g71 := gt_of e71; have e72 := hs 72 _ rfl; have g72 := gt_of e72; simp only [execOp]; go_simp <;> omega) ?_
     refine wX 74 (.agg #[.int .i64 x.id, .int .i64 x.kind, .int .i64 x.src, .int .i64 x.dst, .int .i64 x.car, .int .i64 x.state, .int .i64 x.owner, .int .i64 x.born]) rfl (fun aa ww KK hs H _ hk => hpS_load tyapi_Call H (y := y) rfl (hs _ _ rfl) (wnt_ok hs rfl) (by (repeat (first | exact List.Mem.head _ | apply List.Mem.tail))) HRx.out rfl hk) ?_
     refine wQ (l := [.agg #[.int .i64 x.id, .int .i64 x.kind, .int .i64 x.src, .int .i64 x.dst, .int .i64 x.car, .int .i64 x.state, .int .i64 x.owner, .int .i64 x.born]]) Try.func51 rfl (by kernel_rfl) (.tuple #[.string (refCallV x), .bool (callOk x)]) (fun wc H => refCall x wc (Lib.hid (hv.out.2.2.2.2.2 x (List.mem_of_getElem? HXx.out)))) rfl rfl rfl rfl ?_
     iterate 5 refine p_refPay rfl ?_
     refine wN ?_
     refine tN (wKK hK16 ?_)
     refine wSeqK fun KK17 hK17 => ?_
     refine wSeqK fun KK18 hK18 => ?_
     refine wReg ?_
     iterate 2 refine p_refPay rfl ?_
     refine wN ?_
     refine tN (wKK hK18 ?_)
     refine wCond (E := !(callOk x)) rfl (fun z3 => ?_) (fun z3 => ?_)
     · skip
       have z3n : (callOk x) = false := Reg.bn z3
       refine wSeqK fun KK19 hK19 => ?_
       refine wReg ?_
       iterate 2 refine p_refPay rfl ?_
       refine wN ?_
       refine tN (wKK hK19 ?_)
       refine wRet ?_
       refine tR (bR (tR (tR (bR (tR ?_)))))
       exact wR2 rfl rfl rfl (fun ww H => ⟨⟨#[]⟩, by rw [pay_no (any_not HXx.out z3n)], fun h => (by rw [pay_no (any_not HXx.out z3n)] at h; cases h), by decide, H.out.off⟩)
     · skip
       have z3n : (callOk x) = true := Reg.bt z3
       refine wSk ?_
       refine tN (wKK hK17 ?_)
       intro aa ww nn dd hs H
       have hrc := rcall_size x
       refine wIn nn dd hs H ?_
       refine wReg ?_
       iterate 2 refine p_refPay rfl ?_
       refine wE (.string (o ++ (refCallV x))) rfl rfl rfl (fun aa ww hs _ => by have e80 := hs 80 _ rfl; have g80 := gt_of e80; have e81 := hs 81 _ rfl; have g81 := gt_of e81; simp only [execOp]; go_simp <;> omega) ?_
       refine p_refPay rfl ?_
       refine wN ?_
       refine bN (tN (wKK hK15 ?_))
       refine wReg ?_
       iterate 2 refine p_refPay rfl ?_
       refine wI 68 rfl (IntWalk.i64_in _ (by omega)) ?_
       refine p_refPay rfl ?_
       refine wN ?_
       refine tN ?_
       intro aa ww nn dd hs H
       refine ⟨⟨i + 1, o ++ (refCallV x), (by omega), (Lib.hid (o_next ho.out HXx.out z3n)), (by rw [ByteArray.size_append]; have := rcall_size x; omega), nn, dd, (sat_sub ⟨rfl, rfl, rfl, rfl, rfl, rfl, rfl, rfl, rfl, rfl, rfl, rfl, rfl, rfl, trivial⟩ hs), (Lib.hid (H.out.sub (by repeat (first | exact List.Sublist.refl _ | apply List.Sublist.cons₂ | apply List.Sublist.cons))))⟩, ?_⟩
       have m15 := hs 15 _ rfl
       simp only [mu1_15, m15, intOf]
       omega
   · skip
     have z2d : ¬ (i < v.calls.length) := of_decide_eq_false z2
     refine wEx ?_
     refine tX (tX (bX (tN (wKK hK11 ?_))))
     refine wSeqK fun KK20 hK20 => ?_
     intro aa ww nn dd hs H
     refine refPay_r16 v sa sc hp hs1 hs2 hs3 hs4 hs5 b1 z1d i o hi hos z2d H aa nn (hs 5 _ rfl) (hs 7 _ rfl) (hs 9 _ rfl) (hs 11 _ rfl) (hs 14 _ rfl) ?_
     intro ab wv nn2 dd2 kp o2 o3 H2
     refine wIn nn2 (dd2.trans dd) (Sat.cons (Sat.cons (Sat.cons (Sat.cons (Sat.cons (Sat.cons (Sat.cons (Sat.cons (Sat.cons (Sat.cons (Sat.cons (Sat.cons (Sat.cons (Sat.cons (Sat.cons (Sat.cons (Sat.cons (sat_nil ab) ((kp 66 rfl).trans (hs 66 _ rfl))) ((kp 21 rfl).trans (hs 21 _ rfl))) ((kp 15 rfl).trans (hs 15 _ rfl))) ((kp 14 rfl).trans (hs 14 _ rfl))) ((kp 12 rfl).trans (hs 12 _ rfl))) ((kp 11 rfl).trans (hs 11 _ rfl))) ((kp 10 rfl).trans (hs 10 _ rfl))) ((kp 9 rfl).trans (hs 9 _ rfl))) ((kp 8 rfl).trans (hs 8 _ rfl))) ((kp 7 rfl).trans (hs 7 _ rfl))) ((kp 6 rfl).trans (hs 6 _ rfl))) ((kp 5 rfl).trans (hs 5 _ rfl))) ((kp 4 rfl).trans (hs 4 _ rfl))) ((kp 1 rfl).trans (hs 1 _ rfl))) ((kp 0 rfl).trans (hs 0 _ rfl))) o3) o2) H2 ?_
     clear hs H kp H2 dd dd2 nn nn2 o2 o3
     refine tN (wKK hK20 ?_)
     refine wRet ?_
     exact wR2 rfl rfl rfl (fun ww H => (by (obtain rfl : i = v.calls.length := by omega); (have h2 := ho.out); rw [List.take_length] at h2; (have hr := refR_pay v (by omega) h2.1 hp); exact ⟨o, by rw [← hr], fun h => by rw [h2.2, pay_cat (by omega) h hp], by omega, H.out.off⟩))
end Go.Proofs.Ytloemjhhedkhiaa.Nt
