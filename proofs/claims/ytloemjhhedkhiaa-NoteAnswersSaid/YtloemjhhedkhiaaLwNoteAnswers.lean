/- Every answer and all bytes: the walk. -/
import Derived.Test.YtloemjhhedkhiaaProg
import Derived.Below
import Derived.WalkKit
import Derived.KernelRfl
import Derived.RowKit3
import Derived.Deep.LoopGhost
import Derived.Deep.QuietTactic
import Derived.BigQuiet
import Derived.WideLaws
import Derived.Deep.DeepCutAuto
import Derived.Deep.CutBlock
import Derived.Lib.Hide
import Derived.Laws.BitsLemmas
import Derived.Laws.Bits64
import Derived.Laws.BitsAllLaws
import Derived.IntWalk
import Derived.Outline
import Derived.WalkSpells
import Derived.Test.YtloemjhhedkhiaaMem
import Derived.Test.YtloemjhhedkhiaaNf4
namespace Go.Proofs.Ytloemjhhedkhiaa.Nt
open Go.RowKit Go.Proofs.Ytloemjhhedkhiaa.Mem Go.Proofs.Ytloemjhhedkhiaa.Pk Go.Proofs.Ytloemjhhedkhiaa.Reg Go.Proofs.Ytloemjhhedkhiaa.Wk
set_option linter.unusedVariables false
set_option linter.unusedSimpArgs false

theorem enc_noF {a : AnsV} (h : ((encodeV a).2 == 0) = false) : encodeV a = (⟨#[]⟩, 1) ∧ payloadV a = ⟨#[]⟩ := by
  unfold encodeV at h
  cases ho : ansOk a with
  | true => rw [ho] at h; simp at h
  | false =>
    unfold encodeV payloadV
    rw [ho]
    exact ⟨rfl, rfl⟩
theorem pay_okF {a : AnsV} (h : ansOk a = true) : payOk a = true := by
  unfold ansOk at h
  simp only [Bool.and_eq_true] at h
  exact h.2
theorem pay_isF {a : AnsV} (h : ansOk a = true) : payloadV a = str (payB a) := by unfold payloadV; rw [h]; rfl
theorem dec_len (s : ByteArray) : (decodeV s).1.calls.length ≤ 1000000 := by
  by_cases h : (decodeV s).2 = 0
  · obtain ⟨h1, _⟩ := decode_is h
    unfold ansOk payOk at h1
    simp only [Bool.and_eq_true, decide_eq_true_eq] at h1
    omega
  · rw [decode_no h]
    exact Nat.zero_le _
theorem dec_passF (s : ByteArray) : 0 ≤ (decodeV s).1.pass ∧ (decodeV s).1.pass ≤ 4294967295 := by
  by_cases h : (decodeV s).2 = 0
  · exact (decode_is h).2.1
  · rw [decode_no h]
    decide
theorem call_smA {x : CallV} (h : callOk x = true) : smC x := call_sm h
theorem dec_smA {s : ByteArray} (h : ((decodeV s).2 == 0) = true) : smA (decodeV s).1 := by
  obtain ⟨h1, h2, _⟩ := decode_is (s := s) (by simpa using h)
  unfold ansOk payOk at h1
  simp only [Bool.and_eq_true, decide_eq_true_eq, cnt_iff, List.all_eq_true] at h1
  obtain ⟨h3, ⟨h4, h5⟩, h6, ⟨h7, h8⟩, h9⟩ := h1
  unfold PassOk at h2
  exact ⟨by omega, by omega, by omega, by omega, by omega, fun x hx => call_sm (h9 x hx)⟩
theorem dec_encF {s : ByteArray} (h : ((decodeV s).2 == 0) = true) : encodeV (decodeV s).1 = (s, 0) := by
  obtain ⟨h1, _, h3⟩ := decode_is (s := s) (by simpa using h)
  rw [enc_yesF h1, ← h3]
theorem good4 {n : Int} (h : (refNumV 4 n).2 = true) : 0 ≤ n ∧ n < 4294967296 := by
  rw [ref4] at h
  simpa using h
theorem cnt_no1 {n : Int} (h : (refNumV 4 n).2 = false) : cnt n = false := by
  rw [ref4] at h
  unfold cnt
  rw [Bool.eq_false_iff] at h ⊢
  intro e
  apply h
  simp at e ⊢
  omega
theorem withR_no1 {n : Int} (h : (refNumV 4 n).2 = false) (p : ByteArray) : withV n p = (⟨#[]⟩, 1) := with_no (cnt_no1 h) p
theorem withR_no2 {n : Int} (h : 1073741824 < n) (p : ByteArray) : withV n p = (⟨#[]⟩, 1) := with_no (by unfold cnt; simp; omega) p
theorem headR {n : Int} (h : (refNumV 4 n).2 = true) : (⟨#[128]⟩ : ByteArray) ++ (refNumV 4 n).1 = str (headB n) := by
  rw [show (refNumV 4 n).1 = str (beB 4 n.toNat) from (ref_ok (k := 4) (.inr rfl) n).2 (good4 h).1]
  unfold headB
  rw [str_more]
  rfl
theorem withR_no3 {n : Int} (h : (refNumV 4 n).2 = true) {p : ByteArray} (h2 : ((decodeV (((⟨#[128]⟩ : ByteArray) ++ (refNumV 4 n).1) ++ p)).2 == 0) = false) : withV n p = (⟨#[]⟩, 1) := by
  rw [headR h] at h2
  unfold withV
  rw [h2, Bool.and_false]
  rfl
theorem withR_yes {n : Int} (h : (refNumV 4 n).2 = true) {p : ByteArray} (h2 : ((decodeV (((⟨#[128]⟩ : ByteArray) ++ (refNumV 4 n).1) ++ p)).2 == 0) = true) (h3 : ¬ 1073741824 < n) : withV n p = (((⟨#[128]⟩ : ByteArray) ++ (refNumV 4 n).1) ++ p, 0) := by
  rw [headR h] at h2 ⊢
  have hc : cnt n = true := (cnt_iff n).2 ⟨(good4 h).1, by omega⟩
  unfold withV
  rw [h2, hc]
  rfl
def tab_answers_w : Wk.Tab := []
theorem p_answers_w {ops : Array Oper} {rest : List Oper} {o : Oper} {w0 : World} {Q : Exit → Act → World → Prop} {S : List Nat} {R : List Res} {K K' : Wk.Env} {N : Nat} (h : Wk.stp tab_answers_w N ops K o = some K') (n : Wk.Wk N S w0 K' R (wpList Try.prog ops Q rest)) : Wk.Wk N S w0 K R (wpList Try.prog ops Q (o :: rest)) := Wk.wP (T := tab_answers_w) (by kernel_rfl) h n
set_option maxHeartbeats 8000000 in
set_option maxRecDepth 20000 in
theorem answers_w_r3 (a : AnsV) (sa : Option Addr) (sc : Nat) (s : ByteArray) (n : Int) (hp : 0 ≤ a.pass ∧ a.pass ≤ 4294967295) (hn : n < 9223372036854775808) (hrs : (refNumV 4 n).1.size ≤ 8) (b3 : Nat) {wa wb : World} (H : Hid (Hp [] wa wb [rB b3 64 [.int .i64 a.seq, .int .i64 a.code, .int .i64 a.index, .int .i64 a.session, .int .u32 a.pass, .slice sa a.calls.length sc], rS sa sc 8 (a.calls.map callRow)])) (ac0 : Act) (hz : ac0.tmps.size = 177) (so1 : ac0.eval (.tmp 1) = .string s) (so3 : ac0.eval (.tmp 3) = .pointer (some ⟨b3, 0, none⟩)) {QR : Exit → Act → World → Prop} (hfin : ∀ (ac1 : Act) (wz : World), ac1.tmps.size = 177 → ac1.defers = ac0.defers → (∀ t, ([30, 31, 32, 33, 34, 35, 36, 37, 38] : List Nat).contains t = false → ac1.eval (.tmp t) = ac0.eval (.tmp t)) → ac1.eval (.tmp 38) = .bool ((decide (70 < (a.calls.length : Int))) || (decide (2048 < (s.size : Int)))) →  Hid (Hp [] wa wz [rB b3 64 [.int .i64 a.seq, .int .i64 a.code, .int .i64 a.index, .int .i64 a.session, .int .u32 a.pass, .slice sa a.calls.length sc], rS sa sc 8 (a.calls.map callRow)]) → QR .normal ac1 wz) : (regAt Try.f8 3).wp Try.prog QR ac0 wb := by
  refine wp_region_sq (by kernel_rfl) 177 hz (by kernel_rfl) (fun (xx : Unit) jx => nth [.pointer (some ⟨b3, 5, none⟩), .slice sa a.calls.length sc, .int .i64 a.calls.length, .bool (decide (70 < (a.calls.length : Int))), .bool (decide (70 < (a.calls.length : Int))), bif !(decide (70 < (a.calls.length : Int))) then .string s else undef, bif !(decide (70 < (a.calls.length : Int))) then .int .i64 s.size else undef, bif !(decide (70 < (a.calls.length : Int))) then .bool (decide (2048 < (s.size : Int))) else undef, .bool ((decide (70 < (a.calls.length : Int))) || (decide (2048 < (s.size : Int))))] jx) (fun (LL : Nat → Bool) (xx : Unit) ww => Hp [] wa ww [rB b3 64 [.int .i64 a.seq, .int .i64 a.code, .int .i64 a.index, .int .i64 a.session, .int .u32 a.pass, .slice sa a.calls.length sc], rS sa sc 8 (a.calls.map callRow)]) () H.out ?_ (steps_al ?_) ?_ ?_
  · exact fun _ _ _ _ _ h => h
  · refine al_cons ?_ (al_cons ?_ (al_cons ?_ (al_cons ?_ (al_cons ?_ (al_cons ?_ (al_cons ?_ (al_cons ?_ (al_cons ?_ (al_nil)))))))))
    · intro LL xx ac wc sg hst hwant QQ hgo
      have se3 : ac.eval (.tmp 3) = _ := ((sg.free 3 (by kernel_rfl)).trans so3)
      have sg3 := gt_of se3
      exact op_val hwant hgo hst _ (by simp only [execOp, nth]; go_simp <;> omega) rfl
    · intro LL xx ac wc sg hst hwant QQ hgo
      have H := Lib.hid hst
      refine hpA_load1 tyS_api_Call H rfl (sg.slot 0 (sg.anc 0 rfl)) hwant (by (repeat (first | exact List.Mem.head _ | apply List.Mem.tail))) (by rfl) ?_
      exact hgo _ () _ (fun _ _ => rfl) rfl hst
    · intro LL xx ac wc sg hst hwant QQ hgo
      have se31 : ac.eval (.tmp 31) = _ := (sg.slot 1 (sg.anc 1 rfl))
      have sg31 := gt_of se31
      (try simp only [nth] at se31 sg31)
      exact op_val hwant hgo hst _ (by simp only [execOp, nth]; go_simp <;> omega) rfl
    · intro LL xx ac wc sg hst hwant QQ hgo
      have se32 : ac.eval (.tmp 32) = _ := (sg.slot 2 (sg.anc 2 rfl))
      have sg32 := gt_of se32
      (try simp only [nth] at se32 sg32)
      exact op_val hwant hgo hst _ (by simp only [execOp, nth]; go_simp <;> omega) rfl
    · intro LL xx ac wc sg hst hwant QQ hgo
      exact op_val hwant hgo hst _ (exec_move rfl (sg.slot 3 (sg.anc 3 rfl))) rfl
    · intro LL xx ac wc sg hst hwant QQ hgo
      have hG : (!(decide (70 < (a.calls.length : Int)))) = true := (want_f rfl rfl (sg.slot 4 (sg.anc 4 rfl))).symm.trans hwant
      exact op_val hwant hgo hst _ (exec_move rfl ((sg.free 1 (by kernel_rfl)).trans so1)) (cI hG)
    · intro LL xx ac wc sg hst hwant QQ hgo
      have hG : (!(decide (70 < (a.calls.length : Int)))) = true := (want_f rfl rfl (sg.slot 4 (sg.anc 4 rfl))).symm.trans hwant
      have se35 : ac.eval (.tmp 35) = _ := (cT (sg.slot 5 (sg.anc 5 rfl)) hG)
      have sg35 := gt_of se35
      (try simp only [nth] at se35 sg35)
      exact op_val hwant hgo hst _ (by simp only [execOp, nth]; go_simp <;> omega) (cI hG)
    · intro LL xx ac wc sg hst hwant QQ hgo
      have hG : (!(decide (70 < (a.calls.length : Int)))) = true := (want_f rfl rfl (sg.slot 4 (sg.anc 4 rfl))).symm.trans hwant
      have se36 : ac.eval (.tmp 36) = _ := (cT (sg.slot 6 (sg.anc 6 rfl)) hG)
      have sg36 := gt_of se36
      (try simp only [nth] at se36 sg36)
      exact op_val hwant hgo hst _ (by simp only [execOp, nth]; go_simp <;> omega) (cI hG)
    · intro LL xx ac wc sg hst hwant QQ hgo
      exact op_val hwant hgo hst (.bool ((decide (70 < (a.calls.length : Int))) || (decide (2048 < (s.size : Int))))) (exec_or (Y := decide (2048 < (s.size : Int))) rfl (sg.slot 4 (sg.anc 4 rfl)) (fun qq => cT (sg.slot 7 (sg.anc 7 rfl)) (bk qq))) rfl
  · refine skips [5, 6, 7] (by kernel_rfl) ?_
    refine List.forall_mem_cons.2 ⟨?_, List.forall_mem_cons.2 ⟨?_, List.forall_mem_cons.2 ⟨?_, fun _ h => by cases h⟩⟩⟩
    · intro oo hop LL xx ac sg hwant
      cases Option.some.inj hop
      have hG : (!(decide (70 < (a.calls.length : Int)))) = false := (want_f rfl rfl (sg.slot 4 (sg.anc 4 rfl))).symm.trans hwant
      exact ⟨cF hG, fun _ h => h⟩
    · intro oo hop LL xx ac sg hwant
      cases Option.some.inj hop
      have hG : (!(decide (70 < (a.calls.length : Int)))) = false := (want_f rfl rfl (sg.slot 4 (sg.anc 4 rfl))).symm.trans hwant
      exact ⟨cF hG, fun _ h => h⟩
    · intro oo hop LL xx ac sg hwant
      cases Option.some.inj hop
      have hG : (!(decide (70 < (a.calls.length : Int)))) = false := (want_f rfl rfl (sg.slot 4 (sg.anc 4 rfl))).symm.trans hwant
      exact ⟨cF hG, fun _ h => h⟩
  · intro xx ac1 wz hfr hsl hst
    exact hfin ac1 wz (hfr.size.trans hz) hfr.defers (fr_keep hfr [30, 31, 32, 33, 34, 35, 36, 37, 38] (by kernel_rfl)) (hsl 8 (by decide)) (Lib.hid hst)
set_option maxHeartbeats 32000000 in
set_option maxRecDepth 20000 in
theorem answers_w (a : AnsV) (sa : Option Addr) (sc : Nat) (s : ByteArray) (n : Int) (w : World) (h1 : (rS sa sc 8 (a.calls.map callRow)).holds w) (hv : Hid (smA a)) (hp : 0 ≤ a.pass ∧ a.pass ≤ 4294967295) (hn : n < 9223372036854775808) : Calls Try.prog 8 #[.agg #[.int .i64 a.seq, .int .i64 a.code, .int .i64 a.index, .int .i64 a.session, .int .u32 a.pass, .slice sa a.calls.length sc], .string s, .int .i64 n] w fun e w' => e = .returned (.bool true) ∧ Off [] w w' := by
 have H := Lib.hid (Hp.start [] w)
 have H := hp_old H h1 (by decide)
 clear h1
 refine wStart (args := [.agg #[.int .i64 a.seq, .int .i64 a.code, .int .i64 a.index, .int .i64 a.session, .int .u32 a.pass, .slice sa a.calls.length sc], .string s, .int .i64 n]) Try.func8 rfl rfl rfl H ?_
 clear H
 show Wk 177 _ _ [(0, .agg #[.int .i64 a.seq, .int .i64 a.code, .int .i64 a.index, .int .i64 a.session, .int .u32 a.pass, .slice sa a.calls.length sc]), (1, .string s), (2, .int .i64 n)] _ _
 have hrs : (refNumV 4 n).1.size ≤ 8 := ref_size _ _
 refine wSeqK fun KK1 hK1 => ?_
 refine wReg ?_
 refine wBx rfl rfl rfl fun b3 => ?_
 refine p_answers_w rfl ?_
 refine wN ?_
 refine tN (wKK hK1 ?_)
 refine wSeqK fun KK2 hK2 => ?_
 refine wSeqK fun KK3 hK3 => ?_
 refine wReg ?_
 refine wQ (l := []) Try.func18 rfl (by kernel_rfl) (.bool true) (fun wc H => awake15 wc) rfl rfl rfl rfl ?_
 refine p_answers_w rfl ?_
 refine wN ?_
 refine tN (wKK hK3 ?_)
 refine wCf rfl ?_
 refine wSk ?_
 refine tN (wKK hK2 ?_)
 refine wSeqK fun KK4 hK4 => ?_
 refine wSeqK fun KK5 hK5 => ?_
 intro aa ww nn dd hs H
 refine answers_w_r3 a sa sc s n hp hn hrs b3 H aa nn (hs 1 _ rfl) (hs 3 _ rfl) ?_
 intro ab wv nn2 dd2 kp o38 H2
 refine wIn nn2 (dd2.trans dd) (Sat.cons (Sat.cons (Sat.cons (Sat.cons (Sat.cons (Sat.cons (Sat.cons (sat_nil ab) ((kp 29 rfl).trans (hs 29 _ rfl))) ((kp 6 rfl).trans (hs 6 _ rfl))) ((kp 3 rfl).trans (hs 3 _ rfl))) ((kp 2 rfl).trans (hs 2 _ rfl))) ((kp 1 rfl).trans (hs 1 _ rfl))) ((kp 0 rfl).trans (hs 0 _ rfl))) o38) H2 ?_
 clear hs H kp H2 dd dd2 nn nn2 o38
 refine tN (wKK hK5 ?_)
 refine wCond (E := (decide (70 < (a.calls.length : Int))) || (decide (2048 < (s.size : Int)))) rfl (fun z1 => ?_) (fun z1 => ?_)
 · skip
   refine wSeqK fun KK6 hK6 => ?_
   refine wReg ?_
   refine p_answers_w rfl ?_
   refine wN ?_
   refine tN (wKK hK6 ?_)
   refine wRet ?_
   refine tR ?_
   exact wR1 rfl rfl (fun ww H => ⟨rfl, H.out.off⟩)
 · skip
   have z1l : (decide (70 < (a.calls.length : Int))) = false := Reg.ol z1
   have z1ld : ¬ (70 < (a.calls.length : Int)) := of_decide_eq_false z1l
   have z1r : (decide (2048 < (s.size : Int))) = false := Reg.orr z1
   have z1rd : ¬ (2048 < (s.size : Int)) := of_decide_eq_false z1r
   refine wSk ?_
   refine tN (wKK hK4 ?_)
   refine wSeqK fun KK7 hK7 => ?_
   refine wReg ?_
   refine wLr rfl tynote_Answer 0 rfl [.int .i64 a.seq, .int .i64 a.code, .int .i64 a.index, .int .i64 a.session, .int .u32 a.pass, .slice sa a.calls.length sc] rfl rfl ?_
   refine wQ (l := [.agg #[.int .i64 a.seq, .int .i64 a.code, .int .i64 a.index, .int .i64 a.session, .int .u32 a.pass, .slice sa a.calls.length sc]]) Try.func28 rfl (by kernel_rfl) (.agg #[.int .i64 a.seq, .int .i64 a.code, .int .i64 a.index, .int .i64 a.session, .int .i64 a.pass, .slice sa a.calls.length sc]) (fun wc H => formC a sa sc wc (hp_held H (by (repeat (first | exact List.Mem.head _ | apply List.Mem.tail)))) hp) rfl rfl rfl rfl ?_
   refine wAl rfl rfl tyhoistwayref15_Answer fun b7 => ?_
   refine wSr rfl tyhoistwayref15_Answer 0 rfl rfl rfl rfl [.int .i64 a.seq, .int .i64 a.code, .int .i64 a.index, .int .i64 a.session, .int .i64 a.pass, .slice sa a.calls.length sc] (by first | rfl | (simp only [spl]; rfl)) ?_
   refine wN ?_
   refine tN (wKK hK7 ?_)
   refine wSeqK fun KK8 hK8 => ?_
   rcases Bool.eq_false_or_eq_true ((encodeV a).2 == 0) with y2 | y2
   · skip
     have y2o : ((encodeV a).2 != 0) = false := eqq_t y2
     intro aa ww nn dd hs H
     have oa := enc_okF y2
     have hf6 : (payOk a) = true := pay_okF oa
     have hf7 : ((payloadV a).toList == (str (payB a)).toList) = true := by rw [pay_isF oa]; simp
     have hf8 : (((encodeV a).1).toList == ((encodeV a).1).toList) = true := by simp
     refine wIn nn dd hs H ?_
     refine wReg ?_
     refine wLr rfl tyhoistwayref15_Answer 0 rfl [.int .i64 a.seq, .int .i64 a.code, .int .i64 a.index, .int .i64 a.session, .int .i64 a.pass, .slice sa a.calls.length sc] rfl rfl ?_
     refine wQ (l := [.agg #[.int .i64 a.seq, .int .i64 a.code, .int .i64 a.index, .int .i64 a.session, .int .i64 a.pass, .slice sa a.calls.length sc]]) Try.func29 rfl (by kernel_rfl) (.tuple #[.string ((encodeV a).1), .bool true]) (fun wc H => by have h := refEnc a sa sc wc (hp_held H (by (repeat (first | exact List.Mem.head _ | apply List.Mem.tail)))) hv hp; rw [y2] at h; exact h) rfl rfl rfl rfl ?_
     iterate 5 refine p_answers_w rfl ?_
     refine wN ?_
     refine tN (wKK hK8 ?_)
     refine wSeqK fun KK9 hK9 => ?_
     refine wReg ?_
     refine wLr rfl tynote_Answer 1 rfl [.int .i64 a.seq, .int .i64 a.code, .int .i64 a.index, .int .i64 a.session, .int .u32 a.pass, .slice sa a.calls.length sc] rfl rfl ?_
     refine wQ (l := [.agg #[.int .i64 a.seq, .int .i64 a.code, .int .i64 a.index, .int .i64 a.session, .int .u32 a.pass, .slice sa a.calls.length sc]]) Try.func30 rfl (by kernel_rfl) (.tuple #[.string ((encodeV a).1), .int .i64 ((encodeV a).2)]) (fun wc H => encodeC a sa sc wc (hp_held H (by (repeat (first | exact List.Mem.head _ | apply List.Mem.tail)))) hp) rfl rfl rfl rfl ?_
     iterate 5 refine p_answers_w rfl ?_
     refine wN ?_
     refine tN (wKK hK9 ?_)
     refine wSeqK fun KK10 hK10 => ?_
     refine wReg ?_
     refine wLr rfl tyhoistwayref15_Answer 0 rfl [.int .i64 a.seq, .int .i64 a.code, .int .i64 a.index, .int .i64 a.session, .int .i64 a.pass, .slice sa a.calls.length sc] rfl rfl ?_
     refine wC (l := [.agg #[.int .i64 a.seq, .int .i64 a.code, .int .i64 a.index, .int .i64 a.session, .int .i64 a.pass, .slice sa a.calls.length sc]]) Try.func31 rfl (by kernel_rfl) (fun wc H => by have h := refPay a sa sc wc (hp_held H (by (repeat (first | exact List.Mem.head _ | apply List.Mem.tail)))) hv hp; rw [hf6] at h; exact h) rfl rfl rfl rfl ?_
     intro wc H
     rintro er wd ⟨p8_1, rfl, hpq, hps, hof⟩
     obtain rfl := hpq rfl
     have H2 := Lib.hid (H.out.quiet hof)
     refine ⟨_, rfl, wkAt H2 ?_⟩
     clear H H2 hof
     iterate 5 refine p_answers_w rfl ?_
     refine wN ?_
     refine tN (wKK hK10 ?_)
     refine wSeqK fun KK11 hK11 => ?_
     refine wSeqK fun KK12 hK12 => ?_
     refine wReg ?_
     iterate 2 refine p_answers_w rfl ?_
     refine wN ?_
     refine tN (wKK hK12 ?_)
     refine wCf rfl ?_
     refine wSk ?_
     refine tN (wKK hK11 ?_)
     refine wSeqK fun KK13 hK13 => ?_
     refine wSeqK fun KK14 hK14 => ?_
     refine wReg ?_
     iterate 2 refine p_answers_w rfl ?_
     refine wE (.bool false) rfl rfl rfl (fun aa ww hs _ => by have e58 := hs 58 _ rfl; have g58 := gt_of e58; have e59 := hs 59 _ rfl; have g59 := gt_of e59; simp only [execOp]; go_simp <;> omega) ?_
     iterate 4 refine p_answers_w rfl ?_
     refine wB 64 rfl y2 ?_
     refine wE (.bool false) rfl rfl rfl (fun aa ww hs _ => by have e62 := hs 62 _ rfl; have g62 := gt_of e62; have e64 := hs 64 _ rfl; have g64 := gt_of e64; simp only [execOp]; go_simp <;> omega) ?_
     iterate 10 refine p_answers_w rfl ?_
     refine wLr rfl tynote_Answer 1 rfl [.int .i64 a.seq, .int .i64 a.code, .int .i64 a.index, .int .i64 a.session, .int .u32 a.pass, .slice sa a.calls.length sc] rfl rfl ?_
     refine wQ (l := [.agg #[.int .i64 a.seq, .int .i64 a.code, .int .i64 a.index, .int .i64 a.session, .int .u32 a.pass, .slice sa a.calls.length sc]]) Try.func32 rfl (by kernel_rfl) (.string (payloadV a)) (fun wc H => payloadC a sa sc wc (hp_held H (by (repeat (first | exact List.Mem.head _ | apply List.Mem.tail)))) hp) rfl rfl rfl rfl ?_
     refine p_answers_w rfl ?_
     refine wE (.bool false) rfl rfl rfl (fun aa ww hs _ => by exact exec_sne (c := true) rfl (hs _ _ rfl) (hs _ _ rfl) (by first | exact hf7 | (rw [ByteArray.toList_eq]; exact hf7) | (simpa [ByteArray.toList_eq] using hf7))) ?_
     refine p_answers_w rfl ?_
     refine wN ?_
     refine tN (wKK hK14 ?_)
     refine wCf rfl ?_
     refine wSk ?_
     refine tN (wKK hK13 ?_)
     refine wSeqK fun KK15 hK15 => ?_
     rcases Bool.eq_false_or_eq_true ((decodeV s).2 == 0) with y3 | y3
     · skip
       have y3o : ((decodeV s).2 != 0) = false := eqq_t y3
       intro aa ww nn dd hs H
       have hdl := dec_len s
       have hpd := dec_passF s
       have hsd : Hid (smA (decodeV s).1) := Lib.hid (dec_smA y3)
       have hde := dec_encF y3
       have hg1 : (((encodeV (decodeV s).1).1).toList == ((encodeV (decodeV s).1).1).toList) = true := by simp
       have hg2 : (((encodeV (decodeV s).1).1).toList == s.toList) = true := by rw [hde]; simp
       refine wIn nn dd hs H ?_
       refine wReg ?_
       refine p_answers_w rfl ?_
       refine wC (l := [.string s]) Try.func33 rfl (by kernel_rfl) (fun wc H => decodeC s wc) rfl rfl rfl rfl ?_
       intro wc H
       rintro er wd ⟨a14_1, c14_1, rfl, hs1, hf1, hof⟩
       have H2 := hp_newS H hof hs1 hf1
       refine ⟨_, rfl, wkAt H2 ?_⟩
       clear H H2 hof
       iterate 3 refine p_answers_w rfl ?_
       refine wAl rfl rfl tynote_Answer fun b14 => ?_
       refine wSr rfl tynote_Answer 0 rfl rfl rfl rfl [.int .i64 ((decodeV s).1.seq), .int .i64 ((decodeV s).1.code), .int .i64 ((decodeV s).1.index), .int .i64 ((decodeV s).1.session), .int .u32 ((decodeV s).1.pass), .slice a14_1 (((decodeV s).1).calls.length) c14_1] (by first | rfl | (simp only [spl]; rfl)) ?_
       refine p_answers_w rfl ?_
       refine wN ?_
       refine tN (wKK hK15 ?_)
       refine wSeqK fun KK16 hK16 => ?_
       refine wReg ?_
       refine p_answers_w rfl ?_
       refine wC (l := [.string s]) Try.func34 rfl (by kernel_rfl) (fun wc H => by have h := refDec s wc; rw [y3] at h; exact h) rfl rfl rfl rfl ?_
       intro wc H
       rintro er wd ⟨v15_1, a15_1, c15_1, rfl, hvq, hs1, hf1, hof⟩
       obtain rfl := hvq rfl
       have H2 := hp_newS H hof hs1 hf1
       refine ⟨_, rfl, wkAt H2 ?_⟩
       clear H H2 hof
       iterate 3 refine p_answers_w rfl ?_
       refine wAl rfl rfl tyhoistwayref15_Answer fun b16 => ?_
       refine wSr rfl tyhoistwayref15_Answer 0 rfl rfl rfl rfl [.int .i64 ((decodeV s).1.seq), .int .i64 ((decodeV s).1.code), .int .i64 ((decodeV s).1.index), .int .i64 ((decodeV s).1.session), .int .i64 ((decodeV s).1.pass), .slice a15_1 (((decodeV s).1).calls.length) c15_1] (by first | rfl | (simp only [spl]; rfl)) ?_
       refine p_answers_w rfl ?_
       refine wN ?_
       refine tN (wKK hK16 ?_)
       refine wSeqK fun KK17 hK17 => ?_
       refine wSeqK fun KK18 hK18 => ?_
       refine wReg ?_
       iterate 3 refine p_answers_w rfl ?_
       refine wB 93 rfl y3 ?_
       refine wE (.bool false) rfl rfl rfl (fun aa ww hs _ => by have e91 := hs 91 _ rfl; have g91 := gt_of e91; have e93 := hs 93 _ rfl; have g93 := gt_of e93; simp only [execOp]; go_simp <;> omega) ?_
       iterate 14 refine p_answers_w rfl ?_
       refine wN ?_
       refine tN (wKK hK18 ?_)
       refine wCf rfl ?_
       refine wSk ?_
       refine tN (wKK hK17 ?_)
       refine wSeqK fun KK19 hK19 => ?_
       refine wSeqK fun KK20 hK20 => ?_
       refine wReg ?_
       refine p_answers_w rfl ?_
       refine wN ?_
       refine tN (wKK hK20 ?_)
       refine wCt rfl ?_
       refine wSeqK fun KK21 hK21 => ?_
       refine wReg ?_
       refine wLr rfl tynote_Answer 2 rfl [.int .i64 ((decodeV s).1.seq), .int .i64 ((decodeV s).1.code), .int .i64 ((decodeV s).1.index), .int .i64 ((decodeV s).1.session), .int .u32 ((decodeV s).1.pass), .slice a14_1 (((decodeV s).1).calls.length) c14_1] rfl rfl ?_
       refine wQ (l := [.agg #[.int .i64 ((decodeV s).1.seq), .int .i64 ((decodeV s).1.code), .int .i64 ((decodeV s).1.index), .int .i64 ((decodeV s).1.session), .int .u32 ((decodeV s).1.pass), .slice a14_1 (((decodeV s).1).calls.length) c14_1]]) Try.func28 rfl (by kernel_rfl) (.agg #[.int .i64 ((decodeV s).1.seq), .int .i64 ((decodeV s).1.code), .int .i64 ((decodeV s).1.index), .int .i64 ((decodeV s).1.session), .int .i64 ((decodeV s).1.pass), .slice a14_1 (((decodeV s).1).calls.length) c14_1]) (fun wc H => formC ((decodeV s).1) a14_1 c14_1 wc (hp_held H (by (repeat (first | exact List.Mem.head _ | apply List.Mem.tail)))) hpd) rfl rfl rfl rfl ?_
       refine wQ (l := [.agg #[.int .i64 ((decodeV s).1.seq), .int .i64 ((decodeV s).1.code), .int .i64 ((decodeV s).1.index), .int .i64 ((decodeV s).1.session), .int .i64 ((decodeV s).1.pass), .slice a14_1 (((decodeV s).1).calls.length) c14_1]]) Try.func29 rfl (by kernel_rfl) (.tuple #[.string ((encodeV ((decodeV s).1)).1), .bool ((encodeV ((decodeV s).1)).2 == 0)]) (fun wc H => refEnc ((decodeV s).1) a14_1 c14_1 wc (hp_held H (by (repeat (first | exact List.Mem.head _ | apply List.Mem.tail)))) hsd hpd) rfl rfl rfl rfl ?_
       iterate 5 refine p_answers_w rfl ?_
       refine wN ?_
       refine tN (wKK hK21 ?_)
       refine wSeqK fun KK22 hK22 => ?_
       refine wReg ?_
       refine wLr rfl tyhoistwayref15_Answer 0 rfl [.int .i64 ((decodeV s).1.seq), .int .i64 ((decodeV s).1.code), .int .i64 ((decodeV s).1.index), .int .i64 ((decodeV s).1.session), .int .i64 ((decodeV s).1.pass), .slice a15_1 (((decodeV s).1).calls.length) c15_1] rfl rfl ?_
       refine wQ (l := [.agg #[.int .i64 ((decodeV s).1.seq), .int .i64 ((decodeV s).1.code), .int .i64 ((decodeV s).1.index), .int .i64 ((decodeV s).1.session), .int .i64 ((decodeV s).1.pass), .slice a15_1 (((decodeV s).1).calls.length) c15_1]]) Try.func29 rfl (by kernel_rfl) (.tuple #[.string ((encodeV ((decodeV s).1)).1), .bool ((encodeV ((decodeV s).1)).2 == 0)]) (fun wc H => refEnc ((decodeV s).1) a15_1 c15_1 wc (hp_held H (by (repeat (first | exact List.Mem.head _ | apply List.Mem.tail)))) hsd hpd) rfl rfl rfl rfl ?_
       iterate 5 refine p_answers_w rfl ?_
       refine wN ?_
       refine tN (wKK hK22 ?_)
       refine wSeqK fun KK23 hK23 => ?_
       refine wReg ?_
       iterate 2 refine p_answers_w rfl ?_
       refine wE (.bool false) rfl rfl rfl (fun aa ww hs _ => by have e121 := hs 121 _ rfl; have g121 := gt_of e121; have e122 := hs 122 _ rfl; have g122 := gt_of e122; simp only [execOp]; go_simp <;> omega) ?_
       iterate 3 refine p_answers_w rfl ?_
       refine wE (.bool false) rfl rfl rfl (fun aa ww hs _ => by exact exec_sne (c := true) rfl (hs _ _ rfl) (hs _ _ rfl) (by first | exact hg2 | (rw [ByteArray.toList_eq]; exact hg2) | (simpa [ByteArray.toList_eq] using hg2))) ?_
       refine p_answers_w rfl ?_
       refine wN ?_
       refine tN (wKK hK23 ?_)
       refine wCf rfl ?_
       refine wSk ?_
       refine tN (wKK hK19 ?_)
       refine wSeqK fun KK24 hK24 => ?_
       refine wSeqK fun KK25 hK25 => ?_
       refine wReg ?_
       refine p_answers_w rfl ?_
       refine wE (.int .i64 s.size) rfl rfl rfl (fun aa ww hs _ => by have e129 := hs 129 _ rfl; have g129 := gt_of e129; simp only [execOp]; go_simp <;> omega) ?_
       refine p_answers_w rfl ?_
       refine wN ?_
       refine tN (wKK hK25 ?_)
       refine wCond (E := (s.size : Int) == 0) rfl (fun z4 => ?_) (fun z4 => ?_)
       · skip
         have z4o : ((s.size : Int) != 0) = false := eqq_t z4
         refine wSeqK fun KK26 hK26 => ?_
         refine wReg ?_
         refine p_answers_w rfl ?_
         refine wN ?_
         refine tN (wKK hK26 ?_)
         refine wRet ?_
         refine tR ?_
         exact wR1 rfl rfl (fun ww H => ⟨rfl, H.out.off⟩)
       · skip
         have z4o : ((s.size : Int) != 0) = true := eqq_f z4
         refine wSk ?_
         refine tN (wKK hK24 ?_)
         refine wSeqK fun KK27 hK27 => ?_
         rcases Bool.eq_false_or_eq_true ((refNumV 4 n).2) with y5 | y5
         · skip
           rcases Bool.eq_false_or_eq_true ((decodeV (((⟨#[128]⟩ : ByteArray) ++ (refNumV 4 n).1) ++ s)).2 == 0) with y6 | y6
           · skip
             have y6o : ((decodeV (((⟨#[128]⟩ : ByteArray) ++ (refNumV 4 n).1) ++ s)).2 != 0) = false := eqq_t y6
             rcases Bool.eq_false_or_eq_true (decide (1073741824 < n)) with y7 | y7
             · skip
               have y7d : 1073741824 < n := of_decide_eq_true y7
               intro aa ww nn dd hs H
               have hwn := withR_no2 (n := n) (of_decide_eq_true y7) s
               have hw1 : (((withV n s).2) == 1) = true := by rw [hwn]; rfl
               have hw2 : (((withV n s).1).toList.isEmpty) = true := by rw [hwn, ByteArray.toList_eq]; rfl
               refine wIn nn dd hs H ?_
               refine wReg ?_
               refine p_answers_w rfl ?_
               refine wQ (l := [.int .i64 4, .int .i64 n]) Try.func36 rfl (by kernel_rfl) (.tuple #[.string ((refNumV 4 n).1), .bool true]) (fun wc H => by have h := refNum 4 n wc hn; rw [y5] at h; exact h) rfl rfl rfl rfl ?_
               iterate 5 refine p_answers_w rfl ?_
               refine wN ?_
               refine tN (wKK hK27 ?_)
               refine wSeqK fun KK28 hK28 => ?_
               refine wReg ?_
               iterate 2 refine p_answers_w rfl ?_
               refine wQ (l := [.int .i64 n, .string s]) Try.func37 rfl (by kernel_rfl) (.tuple #[.string ((withV n s).1), .int .i64 ((withV n s).2)]) (fun wc H => withC n s wc (by omega)) rfl rfl rfl rfl ?_
               iterate 5 refine p_answers_w rfl ?_
               refine wN ?_
               refine tN (wKK hK28 ?_)
               refine wSeqK fun KK29 hK29 => ?_
               refine wReg ?_
               refine p_answers_w rfl ?_
               refine wE (.string ((⟨#[128]⟩ : ByteArray) ++ ((refNumV 4 n).1))) rfl rfl rfl (fun aa ww hs _ => by have e144 := hs 144 _ rfl; have g144 := gt_of e144; simp only [execOp]; go_simp <;> omega) ?_
               refine p_answers_w rfl ?_
               refine wE (.string (((⟨#[128]⟩ : ByteArray) ++ ((refNumV 4 n).1)) ++ s)) rfl rfl rfl (fun aa ww hs _ => by have e145 := hs 145 _ rfl; have g145 := gt_of e145; have e146 := hs 146 _ rfl; have g146 := gt_of e146; simp only [execOp]; go_simp <;> omega) ?_
               refine wC (l := [.string (((⟨#[128]⟩ : ByteArray) ++ ((refNumV 4 n).1)) ++ s)]) Try.func34 rfl (by kernel_rfl) (fun wc H => by have h := refDec (((⟨#[128]⟩ : ByteArray) ++ ((refNumV 4 n).1)) ++ s) wc; rw [y6] at h; exact h) rfl rfl rfl rfl ?_
               intro wc H
               rintro er wd ⟨v27_4, a27_4, c27_4, rfl, hvq, hs1, hf1, hof⟩
               obtain rfl := hvq rfl
               have H2 := hp_newS H hof hs1 hf1
               refine ⟨_, rfl, wkAt H2 ?_⟩
               clear H H2 hof
               iterate 3 refine p_answers_w rfl ?_
               refine wAl rfl rfl tyhoistwayref15_Answer fun b26 => ?_
               refine wSr rfl tyhoistwayref15_Answer 0 rfl rfl rfl rfl [.int .i64 ((decodeV (((⟨#[128]⟩ : ByteArray) ++ ((refNumV 4 n).1)) ++ s)).1.seq), .int .i64 ((decodeV (((⟨#[128]⟩ : ByteArray) ++ ((refNumV 4 n).1)) ++ s)).1.code), .int .i64 ((decodeV (((⟨#[128]⟩ : ByteArray) ++ ((refNumV 4 n).1)) ++ s)).1.index), .int .i64 ((decodeV (((⟨#[128]⟩ : ByteArray) ++ ((refNumV 4 n).1)) ++ s)).1.session), .int .i64 ((decodeV (((⟨#[128]⟩ : ByteArray) ++ ((refNumV 4 n).1)) ++ s)).1.pass), .slice a27_4 (((decodeV (((⟨#[128]⟩ : ByteArray) ++ ((refNumV 4 n).1)) ++ s)).1).calls.length) c27_4] (by first | rfl | (simp only [spl]; rfl)) ?_
               refine p_answers_w rfl ?_
               refine wN ?_
               refine tN (wKK hK29 ?_)
               refine wSeqK fun KK30 hK30 => ?_
               refine wSeqK fun KK31 hK31 => ?_
               refine wReg ?_
               iterate 9 refine p_answers_w rfl ?_
               refine wB 159 rfl y7 ?_
               refine p_answers_w rfl ?_
               refine wN ?_
               refine tN (wKK hK31 ?_)
               refine wCt rfl ?_
               refine wSeqK fun KK32 hK32 => ?_
               refine wReg ?_
               iterate 2 refine p_answers_w rfl ?_
               refine wB 162 rfl hw1 ?_
               iterate 2 refine p_answers_w rfl ?_
               refine wE (.bool true) rfl rfl rfl (fun aa ww hs _ => by exact exec_seq (c := true) rfl (hs _ _ rfl) (rfl) (by first | exact hw2 | (rw [ByteArray.toList_eq]; exact hw2) | (simpa [ByteArray.toList_eq] using hw2))) ?_
               iterate 2 refine p_answers_w rfl ?_
               refine wN ?_
               refine tN (wKK hK32 ?_)
               refine wRet ?_
               refine tR ?_
               exact wR1 rfl rfl (fun ww H => ⟨rfl, H.out.off⟩)
             · skip
               have y7d : ¬ (1073741824 < n) := of_decide_eq_false y7
               intro aa ww nn dd hs H
               have hwn := withR_yes y5 y6 (of_decide_eq_false y7)
               have hw1 : (((withV n s).2) == 0) = true := by rw [hwn]; rfl
               have hw2 : (((withV n s).1).toList == ((((⟨#[128]⟩ : ByteArray) ++ (refNumV 4 n).1) ++ s)).toList) = true := by rw [hwn]; simp
               refine wIn nn dd hs H ?_
               refine wReg ?_
               refine p_answers_w rfl ?_
               refine wQ (l := [.int .i64 4, .int .i64 n]) Try.func36 rfl (by kernel_rfl) (.tuple #[.string ((refNumV 4 n).1), .bool true]) (fun wc H => by have h := refNum 4 n wc hn; rw [y5] at h; exact h) rfl rfl rfl rfl ?_
               iterate 5 refine p_answers_w rfl ?_
               refine wN ?_
               refine tN (wKK hK27 ?_)
               refine wSeqK fun KK33 hK33 => ?_
               refine wReg ?_
               iterate 2 refine p_answers_w rfl ?_
               refine wQ (l := [.int .i64 n, .string s]) Try.func37 rfl (by kernel_rfl) (.tuple #[.string ((withV n s).1), .int .i64 ((withV n s).2)]) (fun wc H => withC n s wc (by omega)) rfl rfl rfl rfl ?_
               iterate 5 refine p_answers_w rfl ?_
               refine wN ?_
               refine tN (wKK hK33 ?_)
               refine wSeqK fun KK34 hK34 => ?_
               refine wReg ?_
               refine p_answers_w rfl ?_
               refine wE (.string ((⟨#[128]⟩ : ByteArray) ++ ((refNumV 4 n).1))) rfl rfl rfl (fun aa ww hs _ => by have e144 := hs 144 _ rfl; have g144 := gt_of e144; simp only [execOp]; go_simp <;> omega) ?_
               refine p_answers_w rfl ?_
               refine wE (.string (((⟨#[128]⟩ : ByteArray) ++ ((refNumV 4 n).1)) ++ s)) rfl rfl rfl (fun aa ww hs _ => by have e145 := hs 145 _ rfl; have g145 := gt_of e145; have e146 := hs 146 _ rfl; have g146 := gt_of e146; simp only [execOp]; go_simp <;> omega) ?_
               refine wC (l := [.string (((⟨#[128]⟩ : ByteArray) ++ ((refNumV 4 n).1)) ++ s)]) Try.func34 rfl (by kernel_rfl) (fun wc H => by have h := refDec (((⟨#[128]⟩ : ByteArray) ++ ((refNumV 4 n).1)) ++ s) wc; rw [y6] at h; exact h) rfl rfl rfl rfl ?_
               intro wc H
               rintro er wd ⟨v27_4, a27_4, c27_4, rfl, hvq, hs1, hf1, hof⟩
               obtain rfl := hvq rfl
               have H2 := hp_newS H hof hs1 hf1
               refine ⟨_, rfl, wkAt H2 ?_⟩
               clear H H2 hof
               iterate 3 refine p_answers_w rfl ?_
               refine wAl rfl rfl tyhoistwayref15_Answer fun b26 => ?_
               refine wSr rfl tyhoistwayref15_Answer 0 rfl rfl rfl rfl [.int .i64 ((decodeV (((⟨#[128]⟩ : ByteArray) ++ ((refNumV 4 n).1)) ++ s)).1.seq), .int .i64 ((decodeV (((⟨#[128]⟩ : ByteArray) ++ ((refNumV 4 n).1)) ++ s)).1.code), .int .i64 ((decodeV (((⟨#[128]⟩ : ByteArray) ++ ((refNumV 4 n).1)) ++ s)).1.index), .int .i64 ((decodeV (((⟨#[128]⟩ : ByteArray) ++ ((refNumV 4 n).1)) ++ s)).1.session), .int .i64 ((decodeV (((⟨#[128]⟩ : ByteArray) ++ ((refNumV 4 n).1)) ++ s)).1.pass), .slice a27_4 (((decodeV (((⟨#[128]⟩ : ByteArray) ++ ((refNumV 4 n).1)) ++ s)).1).calls.length) c27_4] (by first | rfl | (simp only [spl]; rfl)) ?_
               refine p_answers_w rfl ?_
               refine wN ?_
               refine tN (wKK hK34 ?_)
               refine wSeqK fun KK35 hK35 => ?_
               refine wSeqK fun KK36 hK36 => ?_
               refine wReg ?_
               iterate 9 refine p_answers_w rfl ?_
               refine wB 159 rfl y7 ?_
               refine p_answers_w rfl ?_
               refine wN ?_
               refine tN (wKK hK36 ?_)
               refine wCf rfl ?_
               refine wSk ?_
               refine tN (wKK hK35 ?_)
               refine wSeqK fun KK37 hK37 => ?_
               refine wReg ?_
               iterate 2 refine p_answers_w rfl ?_
               refine wB 168 rfl hw1 ?_
               iterate 3 refine p_answers_w rfl ?_
               refine wE (.string ((⟨#[128]⟩ : ByteArray) ++ ((refNumV 4 n).1))) rfl rfl rfl (fun aa ww hs _ => by have e171 := hs 171 _ rfl; have g171 := gt_of e171; simp only [execOp]; go_simp <;> omega) ?_
               refine p_answers_w rfl ?_
               refine wE (.string (((⟨#[128]⟩ : ByteArray) ++ ((refNumV 4 n).1)) ++ s)) rfl rfl rfl (fun aa ww hs _ => by have e172 := hs 172 _ rfl; have g172 := gt_of e172; have e173 := hs 173 _ rfl; have g173 := gt_of e173; simp only [execOp]; go_simp <;> omega) ?_
               refine wE (.bool true) rfl rfl rfl (fun aa ww hs _ => by exact exec_seq (c := true) rfl (hs _ _ rfl) (hs _ _ rfl) (by first | exact hw2 | (rw [ByteArray.toList_eq]; exact hw2) | (simpa [ByteArray.toList_eq] using hw2))) ?_
               iterate 2 refine p_answers_w rfl ?_
               refine wN ?_
               refine tN (wKK hK37 ?_)
               refine wRet ?_
               exact wR1 rfl rfl (fun ww H => ⟨rfl, H.out.off⟩)
           · skip
             have y6o : ((decodeV (((⟨#[128]⟩ : ByteArray) ++ (refNumV 4 n).1) ++ s)).2 != 0) = true := eqq_f y6
             intro aa ww nn dd hs H
             have hwn := withR_no3 y5 y6
             have hw1 : (((withV n s).2) == 1) = true := by rw [hwn]; rfl
             have hw2 : (((withV n s).1).toList.isEmpty) = true := by rw [hwn, ByteArray.toList_eq]; rfl
             refine wIn nn dd hs H ?_
             refine wReg ?_
             refine p_answers_w rfl ?_
             refine wQ (l := [.int .i64 4, .int .i64 n]) Try.func36 rfl (by kernel_rfl) (.tuple #[.string ((refNumV 4 n).1), .bool true]) (fun wc H => by have h := refNum 4 n wc hn; rw [y5] at h; exact h) rfl rfl rfl rfl ?_
             iterate 5 refine p_answers_w rfl ?_
             refine wN ?_
             refine tN (wKK hK27 ?_)
             refine wSeqK fun KK38 hK38 => ?_
             refine wReg ?_
             iterate 2 refine p_answers_w rfl ?_
             refine wQ (l := [.int .i64 n, .string s]) Try.func37 rfl (by kernel_rfl) (.tuple #[.string ((withV n s).1), .int .i64 ((withV n s).2)]) (fun wc H => withC n s wc (by omega)) rfl rfl rfl rfl ?_
             iterate 5 refine p_answers_w rfl ?_
             refine wN ?_
             refine tN (wKK hK38 ?_)
             refine wSeqK fun KK39 hK39 => ?_
             refine wReg ?_
             refine p_answers_w rfl ?_
             refine wE (.string ((⟨#[128]⟩ : ByteArray) ++ ((refNumV 4 n).1))) rfl rfl rfl (fun aa ww hs _ => by have e144 := hs 144 _ rfl; have g144 := gt_of e144; simp only [execOp]; go_simp <;> omega) ?_
             refine p_answers_w rfl ?_
             refine wE (.string (((⟨#[128]⟩ : ByteArray) ++ ((refNumV 4 n).1)) ++ s)) rfl rfl rfl (fun aa ww hs _ => by have e145 := hs 145 _ rfl; have g145 := gt_of e145; have e146 := hs 146 _ rfl; have g146 := gt_of e146; simp only [execOp]; go_simp <;> omega) ?_
             refine wC (l := [.string (((⟨#[128]⟩ : ByteArray) ++ ((refNumV 4 n).1)) ++ s)]) Try.func34 rfl (by kernel_rfl) (fun wc H => by have h := refDec (((⟨#[128]⟩ : ByteArray) ++ ((refNumV 4 n).1)) ++ s) wc; rw [y6] at h; exact h) rfl rfl rfl rfl ?_
             intro wc H
             rintro er wd ⟨v27_4, a27_4, c27_4, rfl, hvq, hs1, hf1, hof⟩
             have H2 := hp_newS H hof hs1 hf1
             refine ⟨_, rfl, wkAt H2 ?_⟩
             clear H H2 hof
             iterate 3 refine p_answers_w rfl ?_
             refine wAl rfl rfl tyhoistwayref15_Answer fun b26 => ?_
             refine wSr rfl tyhoistwayref15_Answer 0 rfl rfl rfl rfl [.int .i64 v27_4.seq, .int .i64 v27_4.code, .int .i64 v27_4.index, .int .i64 v27_4.session, .int .i64 v27_4.pass, .slice a27_4 v27_4.calls.length c27_4] (by first | rfl | (simp only [spl]; rfl)) ?_
             refine p_answers_w rfl ?_
             refine wN ?_
             refine tN (wKK hK39 ?_)
             refine wSeqK fun KK40 hK40 => ?_
             refine wSeqK fun KK41 hK41 => ?_
             refine wReg ?_
             iterate 10 refine p_answers_w rfl ?_
             refine wN ?_
             refine tN (wKK hK41 ?_)
             refine wCt rfl ?_
             refine wSeqK fun KK42 hK42 => ?_
             refine wReg ?_
             iterate 2 refine p_answers_w rfl ?_
             refine wB 162 rfl hw1 ?_
             iterate 2 refine p_answers_w rfl ?_
             refine wE (.bool true) rfl rfl rfl (fun aa ww hs _ => by exact exec_seq (c := true) rfl (hs _ _ rfl) (rfl) (by first | exact hw2 | (rw [ByteArray.toList_eq]; exact hw2) | (simpa [ByteArray.toList_eq] using hw2))) ?_
             iterate 2 refine p_answers_w rfl ?_
             refine wN ?_
             refine tN (wKK hK42 ?_)
             refine wRet ?_
             refine tR ?_
             exact wR1 rfl rfl (fun ww H => ⟨rfl, H.out.off⟩)
         · skip
           intro aa ww nn dd hs H
           have hwn := withR_no1 y5 s
           have hw1 : (((withV n s).2) == 1) = true := by rw [hwn]; rfl
           have hw2 : (((withV n s).1).toList.isEmpty) = true := by rw [hwn, ByteArray.toList_eq]; rfl
           refine wIn nn dd hs H ?_
           refine wReg ?_
           refine p_answers_w rfl ?_
           refine wQ (l := [.int .i64 4, .int .i64 n]) Try.func36 rfl (by kernel_rfl) (.tuple #[.string ((refNumV 4 n).1), .bool false]) (fun wc H => by have h := refNum 4 n wc hn; rw [y5] at h; exact h) rfl rfl rfl rfl ?_
           iterate 5 refine p_answers_w rfl ?_
           refine wN ?_
           refine tN (wKK hK27 ?_)
           refine wSeqK fun KK43 hK43 => ?_
           refine wReg ?_
           iterate 2 refine p_answers_w rfl ?_
           refine wQ (l := [.int .i64 n, .string s]) Try.func37 rfl (by kernel_rfl) (.tuple #[.string ((withV n s).1), .int .i64 ((withV n s).2)]) (fun wc H => withC n s wc (by omega)) rfl rfl rfl rfl ?_
           iterate 5 refine p_answers_w rfl ?_
           refine wN ?_
           refine tN (wKK hK43 ?_)
           refine wSeqK fun KK44 hK44 => ?_
           refine wReg ?_
           refine p_answers_w rfl ?_
           refine wE (.string ((⟨#[128]⟩ : ByteArray) ++ ((refNumV 4 n).1))) rfl rfl rfl (fun aa ww hs _ => by have e144 := hs 144 _ rfl; have g144 := gt_of e144; simp only [execOp]; go_simp <;> omega) ?_
           refine p_answers_w rfl ?_
           refine wE (.string (((⟨#[128]⟩ : ByteArray) ++ ((refNumV 4 n).1)) ++ s)) rfl rfl rfl (fun aa ww hs _ => by have e145 := hs 145 _ rfl; have g145 := gt_of e145; have e146 := hs 146 _ rfl; have g146 := gt_of e146; simp only [execOp]; go_simp <;> omega) ?_
           refine wC (l := [.string (((⟨#[128]⟩ : ByteArray) ++ ((refNumV 4 n).1)) ++ s)]) Try.func34 rfl (by kernel_rfl) (fun wc H => refDec (((⟨#[128]⟩ : ByteArray) ++ ((refNumV 4 n).1)) ++ s) wc) rfl rfl rfl rfl ?_
           intro wc H
           rintro er wd ⟨v27_4, a27_4, c27_4, rfl, hvq, hs1, hf1, hof⟩
           have H2 := hp_newS H hof hs1 hf1
           refine ⟨_, rfl, wkAt H2 ?_⟩
           clear H H2 hof
           iterate 3 refine p_answers_w rfl ?_
           refine wAl rfl rfl tyhoistwayref15_Answer fun b26 => ?_
           refine wSr rfl tyhoistwayref15_Answer 0 rfl rfl rfl rfl [.int .i64 v27_4.seq, .int .i64 v27_4.code, .int .i64 v27_4.index, .int .i64 v27_4.session, .int .i64 v27_4.pass, .slice a27_4 v27_4.calls.length c27_4] (by first | rfl | (simp only [spl]; rfl)) ?_
           refine p_answers_w rfl ?_
           refine wN ?_
           refine tN (wKK hK44 ?_)
           refine wSeqK fun KK45 hK45 => ?_
           refine wSeqK fun KK46 hK46 => ?_
           refine wReg ?_
           iterate 10 refine p_answers_w rfl ?_
           refine wN ?_
           refine tN (wKK hK46 ?_)
           refine wCt rfl ?_
           refine wSeqK fun KK47 hK47 => ?_
           refine wReg ?_
           iterate 2 refine p_answers_w rfl ?_
           refine wB 162 rfl hw1 ?_
           iterate 2 refine p_answers_w rfl ?_
           refine wE (.bool true) rfl rfl rfl (fun aa ww hs _ => by exact exec_seq (c := true) rfl (hs _ _ rfl) (rfl) (by first | exact hw2 | (rw [ByteArray.toList_eq]; exact hw2) | (simpa [ByteArray.toList_eq] using hw2))) ?_
           iterate 2 refine p_answers_w rfl ?_
           refine wN ?_
           refine tN (wKK hK47 ?_)
           refine wRet ?_
           refine tR ?_
           exact wR1 rfl rfl (fun ww H => ⟨rfl, H.out.off⟩)
     · skip
       have y3o : (((decodeV s).2) != 0) = true := eqq_f y3
       intro aa ww nn dd hs H
       have hdl := dec_len s
       have hpd := dec_passF s
       have hdn := decode_no (s := s) (by simpa using y3)
       have hg1 : (((decodeV s).2) != 4) = false := by rw [hdn]; rfl
       have hg2 : (eqA (decodeV s).1 (⟨0, 0, 0, 0, 0, []⟩ : AnsV)) = true := by rw [hdn]; exact (eqA_iff _ _).2 rfl
       refine wIn nn dd hs H ?_
       refine wReg ?_
       refine p_answers_w rfl ?_
       refine wC (l := [.string s]) Try.func33 rfl (by kernel_rfl) (fun wc H => decodeC s wc) rfl rfl rfl rfl ?_
       intro wc H
       rintro er wd ⟨a14_1, c14_1, rfl, hs1, hf1, hof⟩
       have H2 := hp_newS H hof hs1 hf1
       refine ⟨_, rfl, wkAt H2 ?_⟩
       clear H H2 hof
       iterate 3 refine p_answers_w rfl ?_
       refine wAl rfl rfl tynote_Answer fun b14 => ?_
       refine wSr rfl tynote_Answer 0 rfl rfl rfl rfl [.int .i64 ((decodeV s).1.seq), .int .i64 ((decodeV s).1.code), .int .i64 ((decodeV s).1.index), .int .i64 ((decodeV s).1.session), .int .u32 ((decodeV s).1.pass), .slice a14_1 (((decodeV s).1).calls.length) c14_1] (by first | rfl | (simp only [spl]; rfl)) ?_
       refine p_answers_w rfl ?_
       refine wN ?_
       refine tN (wKK hK15 ?_)
       refine wSeqK fun KK48 hK48 => ?_
       refine wReg ?_
       refine p_answers_w rfl ?_
       refine wC (l := [.string s]) Try.func34 rfl (by kernel_rfl) (fun wc H => by have h := refDec s wc; rw [y3] at h; exact h) rfl rfl rfl rfl ?_
       intro wc H
       rintro er wd ⟨v15_1, a15_1, c15_1, rfl, hvq, hs1, hf1, hof⟩
       have H2 := hp_newS H hof hs1 hf1
       refine ⟨_, rfl, wkAt H2 ?_⟩
       clear H H2 hof
       iterate 3 refine p_answers_w rfl ?_
       refine wAl rfl rfl tyhoistwayref15_Answer fun b16 => ?_
       refine wSr rfl tyhoistwayref15_Answer 0 rfl rfl rfl rfl [.int .i64 v15_1.seq, .int .i64 v15_1.code, .int .i64 v15_1.index, .int .i64 v15_1.session, .int .i64 v15_1.pass, .slice a15_1 v15_1.calls.length c15_1] (by first | rfl | (simp only [spl]; rfl)) ?_
       refine p_answers_w rfl ?_
       refine wN ?_
       refine tN (wKK hK48 ?_)
       refine wSeqK fun KK49 hK49 => ?_
       refine wSeqK fun KK50 hK50 => ?_
       refine wReg ?_
       iterate 3 refine p_answers_w rfl ?_
       refine wB 93 rfl y3 ?_
       refine wE (.bool false) rfl rfl rfl (fun aa ww hs _ => by have e91 := hs 91 _ rfl; have g91 := gt_of e91; have e93 := hs 93 _ rfl; have g93 := gt_of e93; simp only [execOp]; go_simp <;> omega) ?_
       iterate 6 refine p_answers_w rfl ?_
       refine wB 100 rfl hg1 ?_
       refine p_answers_w rfl ?_
       refine wLr rfl tynote_Answer 2 rfl [.int .i64 ((decodeV s).1.seq), .int .i64 ((decodeV s).1.code), .int .i64 ((decodeV s).1.index), .int .i64 ((decodeV s).1.session), .int .u32 ((decodeV s).1.pass), .slice a14_1 (((decodeV s).1).calls.length) c14_1] rfl rfl ?_
       refine wE (.agg #[.int .i64 0, .int .i64 0, .int .i64 0, .int .i64 0, .int .u32 0, .slice none 0 0]) rfl rfl rfl (fun aa ww hs _ => by simp only [execOp]; go_simp <;> omega) ?_
       refine wQ (l := [.agg #[.int .i64 ((decodeV s).1.seq), .int .i64 ((decodeV s).1.code), .int .i64 ((decodeV s).1.index), .int .i64 ((decodeV s).1.session), .int .u32 ((decodeV s).1.pass), .slice a14_1 (((decodeV s).1).calls.length) c14_1], .agg #[.int .i64 0, .int .i64 0, .int .i64 0, .int .i64 0, .int .u32 0, .slice none 0 0]]) Try.func35 rfl (by kernel_rfl) (.bool true) (fun wc H => by have h := eqlC ((decodeV s).1) a14_1 c14_1 (⟨0, 0, 0, 0, 0, []⟩ : AnsV) none 0 wc (hp_held H (by (repeat (first | exact List.Mem.head _ | apply List.Mem.tail)))) (rS_none wc).1 hdl (by show 0 ≤ 1000000; omega); rw [hg2] at h; exact h) rfl rfl rfl rfl ?_
       iterate 4 refine p_answers_w rfl ?_
       refine wN ?_
       refine tN (wKK hK50 ?_)
       refine wCf rfl ?_
       refine wSk ?_
       refine tN (wKK hK49 ?_)
       refine wSeqK fun KK51 hK51 => ?_
       refine wSeqK fun KK52 hK52 => ?_
       refine wReg ?_
       refine p_answers_w rfl ?_
       refine wN ?_
       refine tN (wKK hK52 ?_)
       refine wCf rfl ?_
       refine wSk ?_
       refine tN (wKK hK51 ?_)
       refine wSeqK fun KK53 hK53 => ?_
       refine wSeqK fun KK54 hK54 => ?_
       refine wReg ?_
       refine p_answers_w rfl ?_
       refine wE (.int .i64 s.size) rfl rfl rfl (fun aa ww hs _ => by have e129 := hs 129 _ rfl; have g129 := gt_of e129; simp only [execOp]; go_simp <;> omega) ?_
       refine p_answers_w rfl ?_
       refine wN ?_
       refine tN (wKK hK54 ?_)
       refine wCond (E := (s.size : Int) == 0) rfl (fun z8 => ?_) (fun z8 => ?_)
       · skip
         have z8o : ((s.size : Int) != 0) = false := eqq_t z8
         refine wSeqK fun KK55 hK55 => ?_
         refine wReg ?_
         refine p_answers_w rfl ?_
         refine wN ?_
         refine tN (wKK hK55 ?_)
         refine wRet ?_
         refine tR ?_
         exact wR1 rfl rfl (fun ww H => ⟨rfl, H.out.off⟩)
       · skip
         have z8o : ((s.size : Int) != 0) = true := eqq_f z8
         refine wSk ?_
         refine tN (wKK hK53 ?_)
         refine wSeqK fun KK56 hK56 => ?_
         rcases Bool.eq_false_or_eq_true ((refNumV 4 n).2) with y9 | y9
         · skip
           rcases Bool.eq_false_or_eq_true ((decodeV (((⟨#[128]⟩ : ByteArray) ++ (refNumV 4 n).1) ++ s)).2 == 0) with y10 | y10
           · skip
             have y10o : ((decodeV (((⟨#[128]⟩ : ByteArray) ++ (refNumV 4 n).1) ++ s)).2 != 0) = false := eqq_t y10
             rcases Bool.eq_false_or_eq_true (decide (1073741824 < n)) with y11 | y11
             · skip
               have y11d : 1073741824 < n := of_decide_eq_true y11
               intro aa ww nn dd hs H
               have hwn := withR_no2 (n := n) (of_decide_eq_true y11) s
               have hw1 : (((withV n s).2) == 1) = true := by rw [hwn]; rfl
               have hw2 : (((withV n s).1).toList.isEmpty) = true := by rw [hwn, ByteArray.toList_eq]; rfl
               refine wIn nn dd hs H ?_
               refine wReg ?_
               refine p_answers_w rfl ?_
               refine wQ (l := [.int .i64 4, .int .i64 n]) Try.func36 rfl (by kernel_rfl) (.tuple #[.string ((refNumV 4 n).1), .bool true]) (fun wc H => by have h := refNum 4 n wc hn; rw [y9] at h; exact h) rfl rfl rfl rfl ?_
               iterate 5 refine p_answers_w rfl ?_
               refine wN ?_
               refine tN (wKK hK56 ?_)
               refine wSeqK fun KK57 hK57 => ?_
               refine wReg ?_
               iterate 2 refine p_answers_w rfl ?_
               refine wQ (l := [.int .i64 n, .string s]) Try.func37 rfl (by kernel_rfl) (.tuple #[.string ((withV n s).1), .int .i64 ((withV n s).2)]) (fun wc H => withC n s wc (by omega)) rfl rfl rfl rfl ?_
               iterate 5 refine p_answers_w rfl ?_
               refine wN ?_
               refine tN (wKK hK57 ?_)
               refine wSeqK fun KK58 hK58 => ?_
               refine wReg ?_
               refine p_answers_w rfl ?_
               refine wE (.string ((⟨#[128]⟩ : ByteArray) ++ ((refNumV 4 n).1))) rfl rfl rfl (fun aa ww hs _ => by have e144 := hs 144 _ rfl; have g144 := gt_of e144; simp only [execOp]; go_simp <;> omega) ?_
               refine p_answers_w rfl ?_
               refine wE (.string (((⟨#[128]⟩ : ByteArray) ++ ((refNumV 4 n).1)) ++ s)) rfl rfl rfl (fun aa ww hs _ => by have e145 := hs 145 _ rfl; have g145 := gt_of e145; have e146 := hs 146 _ rfl; have g146 := gt_of e146; simp only [execOp]; go_simp <;> omega) ?_
               refine wC (l := [.string (((⟨#[128]⟩ : ByteArray) ++ ((refNumV 4 n).1)) ++ s)]) Try.func34 rfl (by kernel_rfl) (fun wc H => by have h := refDec (((⟨#[128]⟩ : ByteArray) ++ ((refNumV 4 n).1)) ++ s) wc; rw [y10] at h; exact h) rfl rfl rfl rfl ?_
               intro wc H
               rintro er wd ⟨v27_4, a27_4, c27_4, rfl, hvq, hs1, hf1, hof⟩
               obtain rfl := hvq rfl
               have H2 := hp_newS H hof hs1 hf1
               refine ⟨_, rfl, wkAt H2 ?_⟩
               clear H H2 hof
               iterate 3 refine p_answers_w rfl ?_
               refine wAl rfl rfl tyhoistwayref15_Answer fun b26 => ?_
               refine wSr rfl tyhoistwayref15_Answer 0 rfl rfl rfl rfl [.int .i64 ((decodeV (((⟨#[128]⟩ : ByteArray) ++ ((refNumV 4 n).1)) ++ s)).1.seq), .int .i64 ((decodeV (((⟨#[128]⟩ : ByteArray) ++ ((refNumV 4 n).1)) ++ s)).1.code), .int .i64 ((decodeV (((⟨#[128]⟩ : ByteArray) ++ ((refNumV 4 n).1)) ++ s)).1.index), .int .i64 ((decodeV (((⟨#[128]⟩ : ByteArray) ++ ((refNumV 4 n).1)) ++ s)).1.session), .int .i64 ((decodeV (((⟨#[128]⟩ : ByteArray) ++ ((refNumV 4 n).1)) ++ s)).1.pass), .slice a27_4 (((decodeV (((⟨#[128]⟩ : ByteArray) ++ ((refNumV 4 n).1)) ++ s)).1).calls.length) c27_4] (by first | rfl | (simp only [spl]; rfl)) ?_
               refine p_answers_w rfl ?_
               refine wN ?_
               refine tN (wKK hK58 ?_)
               refine wSeqK fun KK59 hK59 => ?_
               refine wSeqK fun KK60 hK60 => ?_
               refine wReg ?_
               iterate 9 refine p_answers_w rfl ?_
               refine wB 159 rfl y11 ?_
               refine p_answers_w rfl ?_
               refine wN ?_
               refine tN (wKK hK60 ?_)
               refine wCt rfl ?_
               refine wSeqK fun KK61 hK61 => ?_
               refine wReg ?_
               iterate 2 refine p_answers_w rfl ?_
               refine wB 162 rfl hw1 ?_
               iterate 2 refine p_answers_w rfl ?_
               refine wE (.bool true) rfl rfl rfl (fun aa ww hs _ => by exact exec_seq (c := true) rfl (hs _ _ rfl) (rfl) (by first | exact hw2 | (rw [ByteArray.toList_eq]; exact hw2) | (simpa [ByteArray.toList_eq] using hw2))) ?_
               iterate 2 refine p_answers_w rfl ?_
               refine wN ?_
               refine tN (wKK hK61 ?_)
               refine wRet ?_
               refine tR ?_
               exact wR1 rfl rfl (fun ww H => ⟨rfl, H.out.off⟩)
             · skip
               have y11d : ¬ (1073741824 < n) := of_decide_eq_false y11
               intro aa ww nn dd hs H
               have hwn := withR_yes y9 y10 (of_decide_eq_false y11)
               have hw1 : (((withV n s).2) == 0) = true := by rw [hwn]; rfl
               have hw2 : (((withV n s).1).toList == ((((⟨#[128]⟩ : ByteArray) ++ (refNumV 4 n).1) ++ s)).toList) = true := by rw [hwn]; simp
               refine wIn nn dd hs H ?_
               refine wReg ?_
               refine p_answers_w rfl ?_
               refine wQ (l := [.int .i64 4, .int .i64 n]) Try.func36 rfl (by kernel_rfl) (.tuple #[.string ((refNumV 4 n).1), .bool true]) (fun wc H => by have h := refNum 4 n wc hn; rw [y9] at h; exact h) rfl rfl rfl rfl ?_
               iterate 5 refine p_answers_w rfl ?_
               refine wN ?_
               refine tN (wKK hK56 ?_)
               refine wSeqK fun KK62 hK62 => ?_
               refine wReg ?_
               iterate 2 refine p_answers_w rfl ?_
               refine wQ (l := [.int .i64 n, .string s]) Try.func37 rfl (by kernel_rfl) (.tuple #[.string ((withV n s).1), .int .i64 ((withV n s).2)]) (fun wc H => withC n s wc (by omega)) rfl rfl rfl rfl ?_
               iterate 5 refine p_answers_w rfl ?_
               refine wN ?_
               refine tN (wKK hK62 ?_)
               refine wSeqK fun KK63 hK63 => ?_
               refine wReg ?_
               refine p_answers_w rfl ?_
               refine wE (.string ((⟨#[128]⟩ : ByteArray) ++ ((refNumV 4 n).1))) rfl rfl rfl (fun aa ww hs _ => by have e144 := hs 144 _ rfl; have g144 := gt_of e144; simp only [execOp]; go_simp <;> omega) ?_
               refine p_answers_w rfl ?_
               refine wE (.string (((⟨#[128]⟩ : ByteArray) ++ ((refNumV 4 n).1)) ++ s)) rfl rfl rfl (fun aa ww hs _ => by have e145 := hs 145 _ rfl; have g145 := gt_of e145; have e146 := hs 146 _ rfl; have g146 := gt_of e146; simp only [execOp]; go_simp <;> omega) ?_
               refine wC (l := [.string (((⟨#[128]⟩ : ByteArray) ++ ((refNumV 4 n).1)) ++ s)]) Try.func34 rfl (by kernel_rfl) (fun wc H => by have h := refDec (((⟨#[128]⟩ : ByteArray) ++ ((refNumV 4 n).1)) ++ s) wc; rw [y10] at h; exact h) rfl rfl rfl rfl ?_
               intro wc H
               rintro er wd ⟨v27_4, a27_4, c27_4, rfl, hvq, hs1, hf1, hof⟩
               obtain rfl := hvq rfl
               have H2 := hp_newS H hof hs1 hf1
               refine ⟨_, rfl, wkAt H2 ?_⟩
               clear H H2 hof
               iterate 3 refine p_answers_w rfl ?_
               refine wAl rfl rfl tyhoistwayref15_Answer fun b26 => ?_
               refine wSr rfl tyhoistwayref15_Answer 0 rfl rfl rfl rfl [.int .i64 ((decodeV (((⟨#[128]⟩ : ByteArray) ++ ((refNumV 4 n).1)) ++ s)).1.seq), .int .i64 ((decodeV (((⟨#[128]⟩ : ByteArray) ++ ((refNumV 4 n).1)) ++ s)).1.code), .int .i64 ((decodeV (((⟨#[128]⟩ : ByteArray) ++ ((refNumV 4 n).1)) ++ s)).1.index), .int .i64 ((decodeV (((⟨#[128]⟩ : ByteArray) ++ ((refNumV 4 n).1)) ++ s)).1.session), .int .i64 ((decodeV (((⟨#[128]⟩ : ByteArray) ++ ((refNumV 4 n).1)) ++ s)).1.pass), .slice a27_4 (((decodeV (((⟨#[128]⟩ : ByteArray) ++ ((refNumV 4 n).1)) ++ s)).1).calls.length) c27_4] (by first | rfl | (simp only [spl]; rfl)) ?_
               refine p_answers_w rfl ?_
               refine wN ?_
               refine tN (wKK hK63 ?_)
               refine wSeqK fun KK64 hK64 => ?_
               refine wSeqK fun KK65 hK65 => ?_
               refine wReg ?_
               iterate 9 refine p_answers_w rfl ?_
               refine wB 159 rfl y11 ?_
               refine p_answers_w rfl ?_
               refine wN ?_
               refine tN (wKK hK65 ?_)
               refine wCf rfl ?_
               refine wSk ?_
               refine tN (wKK hK64 ?_)
               refine wSeqK fun KK66 hK66 => ?_
               refine wReg ?_
               iterate 2 refine p_answers_w rfl ?_
               refine wB 168 rfl hw1 ?_
               iterate 3 refine p_answers_w rfl ?_
               refine wE (.string ((⟨#[128]⟩ : ByteArray) ++ ((refNumV 4 n).1))) rfl rfl rfl (fun aa ww hs _ => by have e171 := hs 171 _ rfl; have g171 := gt_of e171; simp only [execOp]; go_simp <;> omega) ?_
               refine p_answers_w rfl ?_
               refine wE (.string (((⟨#[128]⟩ : ByteArray) ++ ((refNumV 4 n).1)) ++ s)) rfl rfl rfl (fun aa ww hs _ => by have e172 := hs 172 _ rfl; have g172 := gt_of e172; have e173 := hs 173 _ rfl; have g173 := gt_of e173; simp only [execOp]; go_simp <;> omega) ?_
               refine wE (.bool true) rfl rfl rfl (fun aa ww hs _ => by exact exec_seq (c := true) rfl (hs _ _ rfl) (hs _ _ rfl) (by first | exact hw2 | (rw [ByteArray.toList_eq]; exact hw2) | (simpa [ByteArray.toList_eq] using hw2))) ?_
               iterate 2 refine p_answers_w rfl ?_
               refine wN ?_
               refine tN (wKK hK66 ?_)
               refine wRet ?_
               exact wR1 rfl rfl (fun ww H => ⟨rfl, H.out.off⟩)
           · skip
             have y10o : ((decodeV (((⟨#[128]⟩ : ByteArray) ++ (refNumV 4 n).1) ++ s)).2 != 0) = true := eqq_f y10
             intro aa ww nn dd hs H
             have hwn := withR_no3 y9 y10
             have hw1 : (((withV n s).2) == 1) = true := by rw [hwn]; rfl
             have hw2 : (((withV n s).1).toList.isEmpty) = true := by rw [hwn, ByteArray.toList_eq]; rfl
             refine wIn nn dd hs H ?_
             refine wReg ?_
             refine p_answers_w rfl ?_
             refine wQ (l := [.int .i64 4, .int .i64 n]) Try.func36 rfl (by kernel_rfl) (.tuple #[.string ((refNumV 4 n).1), .bool true]) (fun wc H => by have h := refNum 4 n wc hn; rw [y9] at h; exact h) rfl rfl rfl rfl ?_
             iterate 5 refine p_answers_w rfl ?_
             refine wN ?_
             refine tN (wKK hK56 ?_)
             refine wSeqK fun KK67 hK67 => ?_
             refine wReg ?_
             iterate 2 refine p_answers_w rfl ?_
             refine wQ (l := [.int .i64 n, .string s]) Try.func37 rfl (by kernel_rfl) (.tuple #[.string ((withV n s).1), .int .i64 ((withV n s).2)]) (fun wc H => withC n s wc (by omega)) rfl rfl rfl rfl ?_
             iterate 5 refine p_answers_w rfl ?_
             refine wN ?_
             refine tN (wKK hK67 ?_)
             refine wSeqK fun KK68 hK68 => ?_
             refine wReg ?_
             refine p_answers_w rfl ?_
             refine wE (.string ((⟨#[128]⟩ : ByteArray) ++ ((refNumV 4 n).1))) rfl rfl rfl (fun aa ww hs _ => by have e144 := hs 144 _ rfl; have g144 := gt_of e144; simp only [execOp]; go_simp <;> omega) ?_
             refine p_answers_w rfl ?_
             refine wE (.string (((⟨#[128]⟩ : ByteArray) ++ ((refNumV 4 n).1)) ++ s)) rfl rfl rfl (fun aa ww hs _ => by have e145 := hs 145 _ rfl; have g145 := gt_of e145; have e146 := hs 146 _ rfl; have g146 := gt_of e146; simp only [execOp]; go_simp <;> omega) ?_
             refine wC (l := [.string (((⟨#[128]⟩ : ByteArray) ++ ((refNumV 4 n).1)) ++ s)]) Try.func34 rfl (by kernel_rfl) (fun wc H => by have h := refDec (((⟨#[128]⟩ : ByteArray) ++ ((refNumV 4 n).1)) ++ s) wc; rw [y10] at h; exact h) rfl rfl rfl rfl ?_
             intro wc H
             rintro er wd ⟨v27_4, a27_4, c27_4, rfl, hvq, hs1, hf1, hof⟩
             have H2 := hp_newS H hof hs1 hf1
             refine ⟨_, rfl, wkAt H2 ?_⟩
             clear H H2 hof
             iterate 3 refine p_answers_w rfl ?_
             refine wAl rfl rfl tyhoistwayref15_Answer fun b26 => ?_
             refine wSr rfl tyhoistwayref15_Answer 0 rfl rfl rfl rfl [.int .i64 v27_4.seq, .int .i64 v27_4.code, .int .i64 v27_4.index, .int .i64 v27_4.session, .int .i64 v27_4.pass, .slice a27_4 v27_4.calls.length c27_4] (by first | rfl | (simp only [spl]; rfl)) ?_
             refine p_answers_w rfl ?_
             refine wN ?_
             refine tN (wKK hK68 ?_)
             refine wSeqK fun KK69 hK69 => ?_
             refine wSeqK fun KK70 hK70 => ?_
             refine wReg ?_
             iterate 10 refine p_answers_w rfl ?_
             refine wN ?_
             refine tN (wKK hK70 ?_)
             refine wCt rfl ?_
             refine wSeqK fun KK71 hK71 => ?_
             refine wReg ?_
             iterate 2 refine p_answers_w rfl ?_
             refine wB 162 rfl hw1 ?_
             iterate 2 refine p_answers_w rfl ?_
             refine wE (.bool true) rfl rfl rfl (fun aa ww hs _ => by exact exec_seq (c := true) rfl (hs _ _ rfl) (rfl) (by first | exact hw2 | (rw [ByteArray.toList_eq]; exact hw2) | (simpa [ByteArray.toList_eq] using hw2))) ?_
             iterate 2 refine p_answers_w rfl ?_
             refine wN ?_
             refine tN (wKK hK71 ?_)
             refine wRet ?_
             refine tR ?_
             exact wR1 rfl rfl (fun ww H => ⟨rfl, H.out.off⟩)
         · skip
           intro aa ww nn dd hs H
           have hwn := withR_no1 y9 s
           have hw1 : (((withV n s).2) == 1) = true := by rw [hwn]; rfl
           have hw2 : (((withV n s).1).toList.isEmpty) = true := by rw [hwn, ByteArray.toList_eq]; rfl
           refine wIn nn dd hs H ?_
           refine wReg ?_
           refine p_answers_w rfl ?_
           refine wQ (l := [.int .i64 4, .int .i64 n]) Try.func36 rfl (by kernel_rfl) (.tuple #[.string ((refNumV 4 n).1), .bool false]) (fun wc H => by have h := refNum 4 n wc hn; rw [y9] at h; exact h) rfl rfl rfl rfl ?_
           iterate 5 refine p_answers_w rfl ?_
           refine wN ?_
           refine tN (wKK hK56 ?_)
           refine wSeqK fun KK72 hK72 => ?_
           refine wReg ?_
           iterate 2 refine p_answers_w rfl ?_
           refine wQ (l := [.int .i64 n, .string s]) Try.func37 rfl (by kernel_rfl) (.tuple #[.string ((withV n s).1), .int .i64 ((withV n s).2)]) (fun wc H => withC n s wc (by omega)) rfl rfl rfl rfl ?_
           iterate 5 refine p_answers_w rfl ?_
           refine wN ?_
           refine tN (wKK hK72 ?_)
           refine wSeqK fun KK73 hK73 => ?_
           refine wReg ?_
           refine p_answers_w rfl ?_
           refine wE (.string ((⟨#[128]⟩ : ByteArray) ++ ((refNumV 4 n).1))) rfl rfl rfl (fun aa ww hs _ => by have e144 := hs 144 _ rfl; have g144 := gt_of e144; simp only [execOp]; go_simp <;> omega) ?_
           refine p_answers_w rfl ?_
           refine wE (.string (((⟨#[128]⟩ : ByteArray) ++ ((refNumV 4 n).1)) ++ s)) rfl rfl rfl (fun aa ww hs _ => by have e145 := hs 145 _ rfl; have g145 := gt_of e145; have e146 := hs 146 _ rfl; have g146 := gt_of e146; simp only [execOp]; go_simp <;> omega) ?_
           refine wC (l := [.string (((⟨#[128]⟩ : ByteArray) ++ ((refNumV 4 n).1)) ++ s)]) Try.func34 rfl (by kernel_rfl) (fun wc H => refDec (((⟨#[128]⟩ : ByteArray) ++ ((refNumV 4 n).1)) ++ s) wc) rfl rfl rfl rfl ?_
           intro wc H
           rintro er wd ⟨v27_4, a27_4, c27_4, rfl, hvq, hs1, hf1, hof⟩
           have H2 := hp_newS H hof hs1 hf1
           refine ⟨_, rfl, wkAt H2 ?_⟩
           clear H H2 hof
           iterate 3 refine p_answers_w rfl ?_
           refine wAl rfl rfl tyhoistwayref15_Answer fun b26 => ?_
           refine wSr rfl tyhoistwayref15_Answer 0 rfl rfl rfl rfl [.int .i64 v27_4.seq, .int .i64 v27_4.code, .int .i64 v27_4.index, .int .i64 v27_4.session, .int .i64 v27_4.pass, .slice a27_4 v27_4.calls.length c27_4] (by first | rfl | (simp only [spl]; rfl)) ?_
           refine p_answers_w rfl ?_
           refine wN ?_
           refine tN (wKK hK73 ?_)
           refine wSeqK fun KK74 hK74 => ?_
           refine wSeqK fun KK75 hK75 => ?_
           refine wReg ?_
           iterate 10 refine p_answers_w rfl ?_
           refine wN ?_
           refine tN (wKK hK75 ?_)
           refine wCt rfl ?_
           refine wSeqK fun KK76 hK76 => ?_
           refine wReg ?_
           iterate 2 refine p_answers_w rfl ?_
           refine wB 162 rfl hw1 ?_
           iterate 2 refine p_answers_w rfl ?_
           refine wE (.bool true) rfl rfl rfl (fun aa ww hs _ => by exact exec_seq (c := true) rfl (hs _ _ rfl) (rfl) (by first | exact hw2 | (rw [ByteArray.toList_eq]; exact hw2) | (simpa [ByteArray.toList_eq] using hw2))) ?_
           iterate 2 refine p_answers_w rfl ?_
           refine wN ?_
           refine tN (wKK hK76 ?_)
           refine wRet ?_
           refine tR ?_
           exact wR1 rfl rfl (fun ww H => ⟨rfl, H.out.off⟩)
   · skip
     have y2o : (((encodeV a).2) != 0) = true := eqq_f y2
     intro aa ww nn dd hs H
     have en := enc_noF y2
     have hf6 : (((encodeV a).2) != 1) = false := by rw [en.1]; rfl
     have hf7 : ((payloadV a).toList == ((⟨#[]⟩ : ByteArray)).toList) = true := by rw [en.2]; simp
     have hf8 : (((encodeV a).1).toList == ((⟨#[]⟩ : ByteArray)).toList) = true := by rw [en.1]; simp
     have hf7e : ((payloadV a).toList.isEmpty) = true := by rw [en.2, ByteArray.toList_eq]; rfl
     have hf8e : (((encodeV a).1).toList.isEmpty) = true := by rw [en.1, ByteArray.toList_eq]; rfl
     refine wIn nn dd hs H ?_
     refine wReg ?_
     refine wLr rfl tyhoistwayref15_Answer 0 rfl [.int .i64 a.seq, .int .i64 a.code, .int .i64 a.index, .int .i64 a.session, .int .i64 a.pass, .slice sa a.calls.length sc] rfl rfl ?_
     refine wQ (l := [.agg #[.int .i64 a.seq, .int .i64 a.code, .int .i64 a.index, .int .i64 a.session, .int .i64 a.pass, .slice sa a.calls.length sc]]) Try.func29 rfl (by kernel_rfl) (.tuple #[.string ((encodeV a).1), .bool false]) (fun wc H => by have h := refEnc a sa sc wc (hp_held H (by (repeat (first | exact List.Mem.head _ | apply List.Mem.tail)))) hv hp; rw [y2] at h; exact h) rfl rfl rfl rfl ?_
     iterate 5 refine p_answers_w rfl ?_
     refine wN ?_
     refine tN (wKK hK8 ?_)
     refine wSeqK fun KK77 hK77 => ?_
     refine wReg ?_
     refine wLr rfl tynote_Answer 1 rfl [.int .i64 a.seq, .int .i64 a.code, .int .i64 a.index, .int .i64 a.session, .int .u32 a.pass, .slice sa a.calls.length sc] rfl rfl ?_
     refine wQ (l := [.agg #[.int .i64 a.seq, .int .i64 a.code, .int .i64 a.index, .int .i64 a.session, .int .u32 a.pass, .slice sa a.calls.length sc]]) Try.func30 rfl (by kernel_rfl) (.tuple #[.string ((encodeV a).1), .int .i64 ((encodeV a).2)]) (fun wc H => encodeC a sa sc wc (hp_held H (by (repeat (first | exact List.Mem.head _ | apply List.Mem.tail)))) hp) rfl rfl rfl rfl ?_
     iterate 5 refine p_answers_w rfl ?_
     refine wN ?_
     refine tN (wKK hK77 ?_)
     refine wSeqK fun KK78 hK78 => ?_
     refine wReg ?_
     refine wLr rfl tyhoistwayref15_Answer 0 rfl [.int .i64 a.seq, .int .i64 a.code, .int .i64 a.index, .int .i64 a.session, .int .i64 a.pass, .slice sa a.calls.length sc] rfl rfl ?_
     refine wC (l := [.agg #[.int .i64 a.seq, .int .i64 a.code, .int .i64 a.index, .int .i64 a.session, .int .i64 a.pass, .slice sa a.calls.length sc]]) Try.func31 rfl (by kernel_rfl) (fun wc H => refPay a sa sc wc (hp_held H (by (repeat (first | exact List.Mem.head _ | apply List.Mem.tail)))) hv hp) rfl rfl rfl rfl ?_
     intro wc H
     rintro er wd ⟨p8_1, rfl, hpq, hps, hof⟩
     have H2 := Lib.hid (H.out.quiet hof)
     refine ⟨_, rfl, wkAt H2 ?_⟩
     clear H H2 hof
     iterate 5 refine p_answers_w rfl ?_
     refine wN ?_
     refine tN (wKK hK78 ?_)
     refine wSeqK fun KK79 hK79 => ?_
     refine wSeqK fun KK80 hK80 => ?_
     refine wReg ?_
     iterate 2 refine p_answers_w rfl ?_
     refine wN ?_
     refine tN (wKK hK80 ?_)
     refine wCt rfl ?_
     refine wSeqK fun KK81 hK81 => ?_
     refine wReg ?_
     refine p_answers_w rfl ?_
     refine wN ?_
     refine tN (wKK hK81 ?_)
     refine wReg ?_
     refine p_answers_w rfl ?_
     refine wN ?_
     refine tN (wKK hK79 ?_)
     refine wSeqK fun KK82 hK82 => ?_
     refine wSeqK fun KK83 hK83 => ?_
     refine wReg ?_
     iterate 2 refine p_answers_w rfl ?_
     refine wE (.bool false) rfl rfl rfl (fun aa ww hs _ => by exact exec_sne (c := true) rfl (hs _ _ rfl) (hs _ _ rfl) (by first | exact hf8e | (rw [ByteArray.toList_eq]; exact hf8e) | (simpa [ByteArray.toList_eq] using hf8e))) ?_
     iterate 4 refine p_answers_w rfl ?_
     refine wB 64 rfl y2 ?_
     refine wE (.bool false) rfl rfl rfl (fun aa ww hs _ => by have e62 := hs 62 _ rfl; have g62 := gt_of e62; have e64 := hs 64 _ rfl; have g64 := gt_of e64; simp only [execOp]; go_simp <;> omega) ?_
     iterate 7 refine p_answers_w rfl ?_
     refine wB 72 rfl hf6 ?_
     iterate 3 refine p_answers_w rfl ?_
     refine wLr rfl tynote_Answer 1 rfl [.int .i64 a.seq, .int .i64 a.code, .int .i64 a.index, .int .i64 a.session, .int .u32 a.pass, .slice sa a.calls.length sc] rfl rfl ?_
     refine wQ (l := [.agg #[.int .i64 a.seq, .int .i64 a.code, .int .i64 a.index, .int .i64 a.session, .int .u32 a.pass, .slice sa a.calls.length sc]]) Try.func32 rfl (by kernel_rfl) (.string (payloadV a)) (fun wc H => payloadC a sa sc wc (hp_held H (by (repeat (first | exact List.Mem.head _ | apply List.Mem.tail)))) hp) rfl rfl rfl rfl ?_
     refine p_answers_w rfl ?_
     refine wE (.bool false) rfl rfl rfl (fun aa ww hs _ => by exact exec_sne (c := true) rfl (hs _ _ rfl) (hs _ _ rfl) (by first | exact hf7e | (rw [ByteArray.toList_eq]; exact hf7e) | (simpa [ByteArray.toList_eq] using hf7e))) ?_
     refine p_answers_w rfl ?_
     refine wN ?_
     refine tN (wKK hK83 ?_)
     refine wCf rfl ?_
     refine wSk ?_
     refine tN (wKK hK82 ?_)
     refine wSeqK fun KK84 hK84 => ?_
     rcases Bool.eq_false_or_eq_true ((decodeV s).2 == 0) with y12 | y12
     · skip
       have y12o : (((decodeV s).2) != 0) = false := eqq_t y12
       intro aa ww nn dd hs H
       have hdl := dec_len s
       have hpd := dec_passF s
       have hsd : Hid (smA (decodeV s).1) := Lib.hid (dec_smA y12)
       have hde := dec_encF y12
       have hg1 : (((encodeV (decodeV s).1).1).toList == ((encodeV (decodeV s).1).1).toList) = true := by simp
       have hg2 : (((encodeV (decodeV s).1).1).toList == s.toList) = true := by rw [hde]; simp
       refine wIn nn dd hs H ?_
       refine wReg ?_
       refine p_answers_w rfl ?_
       refine wC (l := [.string s]) Try.func33 rfl (by kernel_rfl) (fun wc H => decodeC s wc) rfl rfl rfl rfl ?_
       intro wc H
       rintro er wd ⟨a14_1, c14_1, rfl, hs1, hf1, hof⟩
       have H2 := hp_newS H hof hs1 hf1
       refine ⟨_, rfl, wkAt H2 ?_⟩
       clear H H2 hof
       iterate 3 refine p_answers_w rfl ?_
       refine wAl rfl rfl tynote_Answer fun b14 => ?_
       refine wSr rfl tynote_Answer 0 rfl rfl rfl rfl [.int .i64 ((decodeV s).1.seq), .int .i64 ((decodeV s).1.code), .int .i64 ((decodeV s).1.index), .int .i64 ((decodeV s).1.session), .int .u32 ((decodeV s).1.pass), .slice a14_1 (((decodeV s).1).calls.length) c14_1] (by first | rfl | (simp only [spl]; rfl)) ?_
       refine p_answers_w rfl ?_
       refine wN ?_
       refine tN (wKK hK84 ?_)
       refine wSeqK fun KK85 hK85 => ?_
       refine wReg ?_
       refine p_answers_w rfl ?_
       refine wC (l := [.string s]) Try.func34 rfl (by kernel_rfl) (fun wc H => by have h := refDec s wc; rw [y12] at h; exact h) rfl rfl rfl rfl ?_
       intro wc H
       rintro er wd ⟨v15_1, a15_1, c15_1, rfl, hvq, hs1, hf1, hof⟩
       obtain rfl := hvq rfl
       have H2 := hp_newS H hof hs1 hf1
       refine ⟨_, rfl, wkAt H2 ?_⟩
       clear H H2 hof
       iterate 3 refine p_answers_w rfl ?_
       refine wAl rfl rfl tyhoistwayref15_Answer fun b16 => ?_
       refine wSr rfl tyhoistwayref15_Answer 0 rfl rfl rfl rfl [.int .i64 ((decodeV s).1.seq), .int .i64 ((decodeV s).1.code), .int .i64 ((decodeV s).1.index), .int .i64 ((decodeV s).1.session), .int .i64 ((decodeV s).1.pass), .slice a15_1 (((decodeV s).1).calls.length) c15_1] (by first | rfl | (simp only [spl]; rfl)) ?_
       refine p_answers_w rfl ?_
       refine wN ?_
       refine tN (wKK hK85 ?_)
       refine wSeqK fun KK86 hK86 => ?_
       refine wSeqK fun KK87 hK87 => ?_
       refine wReg ?_
       iterate 3 refine p_answers_w rfl ?_
       refine wB 93 rfl y12 ?_
       refine wE (.bool false) rfl rfl rfl (fun aa ww hs _ => by have e91 := hs 91 _ rfl; have g91 := gt_of e91; have e93 := hs 93 _ rfl; have g93 := gt_of e93; simp only [execOp]; go_simp <;> omega) ?_
       iterate 14 refine p_answers_w rfl ?_
       refine wN ?_
       refine tN (wKK hK87 ?_)
       refine wCf rfl ?_
       refine wSk ?_
       refine tN (wKK hK86 ?_)
       refine wSeqK fun KK88 hK88 => ?_
       refine wSeqK fun KK89 hK89 => ?_
       refine wReg ?_
       refine p_answers_w rfl ?_
       refine wN ?_
       refine tN (wKK hK89 ?_)
       refine wCt rfl ?_
       refine wSeqK fun KK90 hK90 => ?_
       refine wReg ?_
       refine wLr rfl tynote_Answer 2 rfl [.int .i64 ((decodeV s).1.seq), .int .i64 ((decodeV s).1.code), .int .i64 ((decodeV s).1.index), .int .i64 ((decodeV s).1.session), .int .u32 ((decodeV s).1.pass), .slice a14_1 (((decodeV s).1).calls.length) c14_1] rfl rfl ?_
       refine wQ (l := [.agg #[.int .i64 ((decodeV s).1.seq), .int .i64 ((decodeV s).1.code), .int .i64 ((decodeV s).1.index), .int .i64 ((decodeV s).1.session), .int .u32 ((decodeV s).1.pass), .slice a14_1 (((decodeV s).1).calls.length) c14_1]]) Try.func28 rfl (by kernel_rfl) (.agg #[.int .i64 ((decodeV s).1.seq), .int .i64 ((decodeV s).1.code), .int .i64 ((decodeV s).1.index), .int .i64 ((decodeV s).1.session), .int .i64 ((decodeV s).1.pass), .slice a14_1 (((decodeV s).1).calls.length) c14_1]) (fun wc H => formC ((decodeV s).1) a14_1 c14_1 wc (hp_held H (by (repeat (first | exact List.Mem.head _ | apply List.Mem.tail)))) hpd) rfl rfl rfl rfl ?_
       refine wQ (l := [.agg #[.int .i64 ((decodeV s).1.seq), .int .i64 ((decodeV s).1.code), .int .i64 ((decodeV s).1.index), .int .i64 ((decodeV s).1.session), .int .i64 ((decodeV s).1.pass), .slice a14_1 (((decodeV s).1).calls.length) c14_1]]) Try.func29 rfl (by kernel_rfl) (.tuple #[.string ((encodeV ((decodeV s).1)).1), .bool ((encodeV ((decodeV s).1)).2 == 0)]) (fun wc H => refEnc ((decodeV s).1) a14_1 c14_1 wc (hp_held H (by (repeat (first | exact List.Mem.head _ | apply List.Mem.tail)))) hsd hpd) rfl rfl rfl rfl ?_
       iterate 5 refine p_answers_w rfl ?_
       refine wN ?_
       refine tN (wKK hK90 ?_)
       refine wSeqK fun KK91 hK91 => ?_
       refine wReg ?_
       refine wLr rfl tyhoistwayref15_Answer 0 rfl [.int .i64 ((decodeV s).1.seq), .int .i64 ((decodeV s).1.code), .int .i64 ((decodeV s).1.index), .int .i64 ((decodeV s).1.session), .int .i64 ((decodeV s).1.pass), .slice a15_1 (((decodeV s).1).calls.length) c15_1] rfl rfl ?_
       refine wQ (l := [.agg #[.int .i64 ((decodeV s).1.seq), .int .i64 ((decodeV s).1.code), .int .i64 ((decodeV s).1.index), .int .i64 ((decodeV s).1.session), .int .i64 ((decodeV s).1.pass), .slice a15_1 (((decodeV s).1).calls.length) c15_1]]) Try.func29 rfl (by kernel_rfl) (.tuple #[.string ((encodeV ((decodeV s).1)).1), .bool ((encodeV ((decodeV s).1)).2 == 0)]) (fun wc H => refEnc ((decodeV s).1) a15_1 c15_1 wc (hp_held H (by (repeat (first | exact List.Mem.head _ | apply List.Mem.tail)))) hsd hpd) rfl rfl rfl rfl ?_
       iterate 5 refine p_answers_w rfl ?_
       refine wN ?_
       refine tN (wKK hK91 ?_)
       refine wSeqK fun KK92 hK92 => ?_
       refine wReg ?_
       iterate 2 refine p_answers_w rfl ?_
       refine wE (.bool false) rfl rfl rfl (fun aa ww hs _ => by have e121 := hs 121 _ rfl; have g121 := gt_of e121; have e122 := hs 122 _ rfl; have g122 := gt_of e122; simp only [execOp]; go_simp <;> omega) ?_
       iterate 3 refine p_answers_w rfl ?_
       refine wE (.bool false) rfl rfl rfl (fun aa ww hs _ => by exact exec_sne (c := true) rfl (hs _ _ rfl) (hs _ _ rfl) (by first | exact hg2 | (rw [ByteArray.toList_eq]; exact hg2) | (simpa [ByteArray.toList_eq] using hg2))) ?_
       refine p_answers_w rfl ?_
       refine wN ?_
       refine tN (wKK hK92 ?_)
       refine wCf rfl ?_
       refine wSk ?_
       refine tN (wKK hK88 ?_)
       refine wSeqK fun KK93 hK93 => ?_
       refine wSeqK fun KK94 hK94 => ?_
       refine wReg ?_
       refine p_answers_w rfl ?_
       refine wE (.int .i64 s.size) rfl rfl rfl (fun aa ww hs _ => by have e129 := hs 129 _ rfl; have g129 := gt_of e129; simp only [execOp]; go_simp <;> omega) ?_
       refine p_answers_w rfl ?_
       refine wN ?_
       refine tN (wKK hK94 ?_)
       refine wCond (E := (s.size : Int) == 0) rfl (fun z13 => ?_) (fun z13 => ?_)
       · skip
         have z13o : ((s.size : Int) != 0) = false := eqq_t z13
         refine wSeqK fun KK95 hK95 => ?_
         refine wReg ?_
         refine p_answers_w rfl ?_
         refine wN ?_
         refine tN (wKK hK95 ?_)
         refine wRet ?_
         refine tR ?_
         exact wR1 rfl rfl (fun ww H => ⟨rfl, H.out.off⟩)
       · skip
         have z13o : ((s.size : Int) != 0) = true := eqq_f z13
         refine wSk ?_
         refine tN (wKK hK93 ?_)
         refine wSeqK fun KK96 hK96 => ?_
         rcases Bool.eq_false_or_eq_true ((refNumV 4 n).2) with y14 | y14
         · skip
           rcases Bool.eq_false_or_eq_true ((decodeV (((⟨#[128]⟩ : ByteArray) ++ (refNumV 4 n).1) ++ s)).2 == 0) with y15 | y15
           · skip
             have y15o : ((decodeV (((⟨#[128]⟩ : ByteArray) ++ (refNumV 4 n).1) ++ s)).2 != 0) = false := eqq_t y15
             rcases Bool.eq_false_or_eq_true (decide (1073741824 < n)) with y16 | y16
             · skip
               have y16d : 1073741824 < n := of_decide_eq_true y16
               intro aa ww nn dd hs H
               have hwn := withR_no2 (n := n) (of_decide_eq_true y16) s
               have hw1 : (((withV n s).2) == 1) = true := by rw [hwn]; rfl
               have hw2 : (((withV n s).1).toList.isEmpty) = true := by rw [hwn, ByteArray.toList_eq]; rfl
               refine wIn nn dd hs H ?_
               refine wReg ?_
               refine p_answers_w rfl ?_
               refine wQ (l := [.int .i64 4, .int .i64 n]) Try.func36 rfl (by kernel_rfl) (.tuple #[.string ((refNumV 4 n).1), .bool true]) (fun wc H => by have h := refNum 4 n wc hn; rw [y14] at h; exact h) rfl rfl rfl rfl ?_
               iterate 5 refine p_answers_w rfl ?_
               refine wN ?_
               refine tN (wKK hK96 ?_)
               refine wSeqK fun KK97 hK97 => ?_
               refine wReg ?_
               iterate 2 refine p_answers_w rfl ?_
               refine wQ (l := [.int .i64 n, .string s]) Try.func37 rfl (by kernel_rfl) (.tuple #[.string ((withV n s).1), .int .i64 ((withV n s).2)]) (fun wc H => withC n s wc (by omega)) rfl rfl rfl rfl ?_
               iterate 5 refine p_answers_w rfl ?_
               refine wN ?_
               refine tN (wKK hK97 ?_)
               refine wSeqK fun KK98 hK98 => ?_
               refine wReg ?_
               refine p_answers_w rfl ?_
               refine wE (.string ((⟨#[128]⟩ : ByteArray) ++ ((refNumV 4 n).1))) rfl rfl rfl (fun aa ww hs _ => by have e144 := hs 144 _ rfl; have g144 := gt_of e144; simp only [execOp]; go_simp <;> omega) ?_
               refine p_answers_w rfl ?_
               refine wE (.string (((⟨#[128]⟩ : ByteArray) ++ ((refNumV 4 n).1)) ++ s)) rfl rfl rfl (fun aa ww hs _ => by have e145 := hs 145 _ rfl; have g145 := gt_of e145; have e146 := hs 146 _ rfl; have g146 := gt_of e146; simp only [execOp]; go_simp <;> omega) ?_
               refine wC (l := [.string (((⟨#[128]⟩ : ByteArray) ++ ((refNumV 4 n).1)) ++ s)]) Try.func34 rfl (by kernel_rfl) (fun wc H => by have h := refDec (((⟨#[128]⟩ : ByteArray) ++ ((refNumV 4 n).1)) ++ s) wc; rw [y15] at h; exact h) rfl rfl rfl rfl ?_
               intro wc H
               rintro er wd ⟨v27_4, a27_4, c27_4, rfl, hvq, hs1, hf1, hof⟩
               obtain rfl := hvq rfl
               have H2 := hp_newS H hof hs1 hf1
               refine ⟨_, rfl, wkAt H2 ?_⟩
               clear H H2 hof
               iterate 3 refine p_answers_w rfl ?_
               refine wAl rfl rfl tyhoistwayref15_Answer fun b26 => ?_
               refine wSr rfl tyhoistwayref15_Answer 0 rfl rfl rfl rfl [.int .i64 ((decodeV (((⟨#[128]⟩ : ByteArray) ++ ((refNumV 4 n).1)) ++ s)).1.seq), .int .i64 ((decodeV (((⟨#[128]⟩ : ByteArray) ++ ((refNumV 4 n).1)) ++ s)).1.code), .int .i64 ((decodeV (((⟨#[128]⟩ : ByteArray) ++ ((refNumV 4 n).1)) ++ s)).1.index), .int .i64 ((decodeV (((⟨#[128]⟩ : ByteArray) ++ ((refNumV 4 n).1)) ++ s)).1.session), .int .i64 ((decodeV (((⟨#[128]⟩ : ByteArray) ++ ((refNumV 4 n).1)) ++ s)).1.pass), .slice a27_4 (((decodeV (((⟨#[128]⟩ : ByteArray) ++ ((refNumV 4 n).1)) ++ s)).1).calls.length) c27_4] (by first | rfl | (simp only [spl]; rfl)) ?_
               refine p_answers_w rfl ?_
               refine wN ?_
               refine tN (wKK hK98 ?_)
               refine wSeqK fun KK99 hK99 => ?_
               refine wSeqK fun KK100 hK100 => ?_
               refine wReg ?_
               iterate 9 refine p_answers_w rfl ?_
               refine wB 159 rfl y16 ?_
               refine p_answers_w rfl ?_
               refine wN ?_
               refine tN (wKK hK100 ?_)
               refine wCt rfl ?_
               refine wSeqK fun KK101 hK101 => ?_
               refine wReg ?_
               iterate 2 refine p_answers_w rfl ?_
               refine wB 162 rfl hw1 ?_
               iterate 2 refine p_answers_w rfl ?_
               refine wE (.bool true) rfl rfl rfl (fun aa ww hs _ => by exact exec_seq (c := true) rfl (hs _ _ rfl) (rfl) (by first | exact hw2 | (rw [ByteArray.toList_eq]; exact hw2) | (simpa [ByteArray.toList_eq] using hw2))) ?_
               iterate 2 refine p_answers_w rfl ?_
               refine wN ?_
               refine tN (wKK hK101 ?_)
               refine wRet ?_
               refine tR ?_
               exact wR1 rfl rfl (fun ww H => ⟨rfl, H.out.off⟩)
             · skip
               have y16d : ¬ (1073741824 < n) := of_decide_eq_false y16
               intro aa ww nn dd hs H
               have hwn := withR_yes y14 y15 (of_decide_eq_false y16)
               have hw1 : (((withV n s).2) == 0) = true := by rw [hwn]; rfl
               have hw2 : (((withV n s).1).toList == ((((⟨#[128]⟩ : ByteArray) ++ (refNumV 4 n).1) ++ s)).toList) = true := by rw [hwn]; simp
               refine wIn nn dd hs H ?_
               refine wReg ?_
               refine p_answers_w rfl ?_
               refine wQ (l := [.int .i64 4, .int .i64 n]) Try.func36 rfl (by kernel_rfl) (.tuple #[.string ((refNumV 4 n).1), .bool true]) (fun wc H => by have h := refNum 4 n wc hn; rw [y14] at h; exact h) rfl rfl rfl rfl ?_
               iterate 5 refine p_answers_w rfl ?_
               refine wN ?_
               refine tN (wKK hK96 ?_)
               refine wSeqK fun KK102 hK102 => ?_
               refine wReg ?_
               iterate 2 refine p_answers_w rfl ?_
               refine wQ (l := [.int .i64 n, .string s]) Try.func37 rfl (by kernel_rfl) (.tuple #[.string ((withV n s).1), .int .i64 ((withV n s).2)]) (fun wc H => withC n s wc (by omega)) rfl rfl rfl rfl ?_
               iterate 5 refine p_answers_w rfl ?_
               refine wN ?_
               refine tN (wKK hK102 ?_)
               refine wSeqK fun KK103 hK103 => ?_
               refine wReg ?_
               refine p_answers_w rfl ?_
               refine wE (.string ((⟨#[128]⟩ : ByteArray) ++ ((refNumV 4 n).1))) rfl rfl rfl (fun aa ww hs _ => by have e144 := hs 144 _ rfl; have g144 := gt_of e144; simp only [execOp]; go_simp <;> omega) ?_
               refine p_answers_w rfl ?_
               refine wE (.string (((⟨#[128]⟩ : ByteArray) ++ ((refNumV 4 n).1)) ++ s)) rfl rfl rfl (fun aa ww hs _ => by have e145 := hs 145 _ rfl; have g145 := gt_of e145; have e146 := hs 146 _ rfl; have g146 := gt_of e146; simp only [execOp]; go_simp <;> omega) ?_
               refine wC (l := [.string (((⟨#[128]⟩ : ByteArray) ++ ((refNumV 4 n).1)) ++ s)]) Try.func34 rfl (by kernel_rfl) (fun wc H => by have h := refDec (((⟨#[128]⟩ : ByteArray) ++ ((refNumV 4 n).1)) ++ s) wc; rw [y15] at h; exact h) rfl rfl rfl rfl ?_
               intro wc H
               rintro er wd ⟨v27_4, a27_4, c27_4, rfl, hvq, hs1, hf1, hof⟩
               obtain rfl := hvq rfl
               have H2 := hp_newS H hof hs1 hf1
               refine ⟨_, rfl, wkAt H2 ?_⟩
               clear H H2 hof
               iterate 3 refine p_answers_w rfl ?_
               refine wAl rfl rfl tyhoistwayref15_Answer fun b26 => ?_
               refine wSr rfl tyhoistwayref15_Answer 0 rfl rfl rfl rfl [.int .i64 ((decodeV (((⟨#[128]⟩ : ByteArray) ++ ((refNumV 4 n).1)) ++ s)).1.seq), .int .i64 ((decodeV (((⟨#[128]⟩ : ByteArray) ++ ((refNumV 4 n).1)) ++ s)).1.code), .int .i64 ((decodeV (((⟨#[128]⟩ : ByteArray) ++ ((refNumV 4 n).1)) ++ s)).1.index), .int .i64 ((decodeV (((⟨#[128]⟩ : ByteArray) ++ ((refNumV 4 n).1)) ++ s)).1.session), .int .i64 ((decodeV (((⟨#[128]⟩ : ByteArray) ++ ((refNumV 4 n).1)) ++ s)).1.pass), .slice a27_4 (((decodeV (((⟨#[128]⟩ : ByteArray) ++ ((refNumV 4 n).1)) ++ s)).1).calls.length) c27_4] (by first | rfl | (simp only [spl]; rfl)) ?_
               refine p_answers_w rfl ?_
               refine wN ?_
               refine tN (wKK hK103 ?_)
               refine wSeqK fun KK104 hK104 => ?_
               refine wSeqK fun KK105 hK105 => ?_
               refine wReg ?_
               iterate 9 refine p_answers_w rfl ?_
               refine wB 159 rfl y16 ?_
               refine p_answers_w rfl ?_
               refine wN ?_
               refine tN (wKK hK105 ?_)
               refine wCf rfl ?_
               refine wSk ?_
               refine tN (wKK hK104 ?_)
               refine wSeqK fun KK106 hK106 => ?_
               refine wReg ?_
               iterate 2 refine p_answers_w rfl ?_
               refine wB 168 rfl hw1 ?_
               iterate 3 refine p_answers_w rfl ?_
               refine wE (.string ((⟨#[128]⟩ : ByteArray) ++ ((refNumV 4 n).1))) rfl rfl rfl (fun aa ww hs _ => by have e171 := hs 171 _ rfl; have g171 := gt_of e171; simp only [execOp]; go_simp <;> omega) ?_
               refine p_answers_w rfl ?_
               refine wE (.string (((⟨#[128]⟩ : ByteArray) ++ ((refNumV 4 n).1)) ++ s)) rfl rfl rfl (fun aa ww hs _ => by have e172 := hs 172 _ rfl; have g172 := gt_of e172; have e173 := hs 173 _ rfl; have g173 := gt_of e173; simp only [execOp]; go_simp <;> omega) ?_
               refine wE (.bool true) rfl rfl rfl (fun aa ww hs _ => by exact exec_seq (c := true) rfl (hs _ _ rfl) (hs _ _ rfl) (by first | exact hw2 | (rw [ByteArray.toList_eq]; exact hw2) | (simpa [ByteArray.toList_eq] using hw2))) ?_
               iterate 2 refine p_answers_w rfl ?_
               refine wN ?_
               refine tN (wKK hK106 ?_)
               refine wRet ?_
               exact wR1 rfl rfl (fun ww H => ⟨rfl, H.out.off⟩)
           · skip
             have y15o : ((decodeV (((⟨#[128]⟩ : ByteArray) ++ (refNumV 4 n).1) ++ s)).2 != 0) = true := eqq_f y15
             intro aa ww nn dd hs H
             have hwn := withR_no3 y14 y15
             have hw1 : (((withV n s).2) == 1) = true := by rw [hwn]; rfl
             have hw2 : (((withV n s).1).toList.isEmpty) = true := by rw [hwn, ByteArray.toList_eq]; rfl
             refine wIn nn dd hs H ?_
             refine wReg ?_
             refine p_answers_w rfl ?_
             refine wQ (l := [.int .i64 4, .int .i64 n]) Try.func36 rfl (by kernel_rfl) (.tuple #[.string ((refNumV 4 n).1), .bool true]) (fun wc H => by have h := refNum 4 n wc hn; rw [y14] at h; exact h) rfl rfl rfl rfl ?_
             iterate 5 refine p_answers_w rfl ?_
             refine wN ?_
             refine tN (wKK hK96 ?_)
             refine wSeqK fun KK107 hK107 => ?_
             refine wReg ?_
             iterate 2 refine p_answers_w rfl ?_
             refine wQ (l := [.int .i64 n, .string s]) Try.func37 rfl (by kernel_rfl) (.tuple #[.string ((withV n s).1), .int .i64 ((withV n s).2)]) (fun wc H => withC n s wc (by omega)) rfl rfl rfl rfl ?_
             iterate 5 refine p_answers_w rfl ?_
             refine wN ?_
             refine tN (wKK hK107 ?_)
             refine wSeqK fun KK108 hK108 => ?_
             refine wReg ?_
             refine p_answers_w rfl ?_
             refine wE (.string ((⟨#[128]⟩ : ByteArray) ++ ((refNumV 4 n).1))) rfl rfl rfl (fun aa ww hs _ => by have e144 := hs 144 _ rfl; have g144 := gt_of e144; simp only [execOp]; go_simp <;> omega) ?_
             refine p_answers_w rfl ?_
             refine wE (.string (((⟨#[128]⟩ : ByteArray) ++ ((refNumV 4 n).1)) ++ s)) rfl rfl rfl (fun aa ww hs _ => by have e145 := hs 145 _ rfl; have g145 := gt_of e145; have e146 := hs 146 _ rfl; have g146 := gt_of e146; simp only [execOp]; go_simp <;> omega) ?_
             refine wC (l := [.string (((⟨#[128]⟩ : ByteArray) ++ ((refNumV 4 n).1)) ++ s)]) Try.func34 rfl (by kernel_rfl) (fun wc H => by have h := refDec (((⟨#[128]⟩ : ByteArray) ++ ((refNumV 4 n).1)) ++ s) wc; rw [y15] at h; exact h) rfl rfl rfl rfl ?_
             intro wc H
             rintro er wd ⟨v27_4, a27_4, c27_4, rfl, hvq, hs1, hf1, hof⟩
             have H2 := hp_newS H hof hs1 hf1
             refine ⟨_, rfl, wkAt H2 ?_⟩
             clear H H2 hof
             iterate 3 refine p_answers_w rfl ?_
             refine wAl rfl rfl tyhoistwayref15_Answer fun b26 => ?_
             refine wSr rfl tyhoistwayref15_Answer 0 rfl rfl rfl rfl [.int .i64 v27_4.seq, .int .i64 v27_4.code, .int .i64 v27_4.index, .int .i64 v27_4.session, .int .i64 v27_4.pass, .slice a27_4 v27_4.calls.length c27_4] (by first | rfl | (simp only [spl]; rfl)) ?_
             refine p_answers_w rfl ?_
             refine wN ?_
             refine tN (wKK hK108 ?_)
             refine wSeqK fun KK109 hK109 => ?_
             refine wSeqK fun KK110 hK110 => ?_
             refine wReg ?_
             iterate 10 refine p_answers_w rfl ?_
             refine wN ?_
             refine tN (wKK hK110 ?_)
             refine wCt rfl ?_
             refine wSeqK fun KK111 hK111 => ?_
             refine wReg ?_
             iterate 2 refine p_answers_w rfl ?_
             refine wB 162 rfl hw1 ?_
             iterate 2 refine p_answers_w rfl ?_
             refine wE (.bool true) rfl rfl rfl (fun aa ww hs _ => by exact exec_seq (c := true) rfl (hs _ _ rfl) (rfl) (by first | exact hw2 | (rw [ByteArray.toList_eq]; exact hw2) | (simpa [ByteArray.toList_eq] using hw2))) ?_
             iterate 2 refine p_answers_w rfl ?_
             refine wN ?_
             refine tN (wKK hK111 ?_)
             refine wRet ?_
             refine tR ?_
             exact wR1 rfl rfl (fun ww H => ⟨rfl, H.out.off⟩)
         · skip
           intro aa ww nn dd hs H
           have hwn := withR_no1 y14 s
           have hw1 : (((withV n s).2) == 1) = true := by rw [hwn]; rfl
           have hw2 : (((withV n s).1).toList.isEmpty) = true := by rw [hwn, ByteArray.toList_eq]; rfl
           refine wIn nn dd hs H ?_
           refine wReg ?_
           refine p_answers_w rfl ?_
           refine wQ (l := [.int .i64 4, .int .i64 n]) Try.func36 rfl (by kernel_rfl) (.tuple #[.string ((refNumV 4 n).1), .bool false]) (fun wc H => by have h := refNum 4 n wc hn; rw [y14] at h; exact h) rfl rfl rfl rfl ?_
           iterate 5 refine p_answers_w rfl ?_
           refine wN ?_
           refine tN (wKK hK96 ?_)
           refine wSeqK fun KK112 hK112 => ?_
           refine wReg ?_
           iterate 2 refine p_answers_w rfl ?_
           refine wQ (l := [.int .i64 n, .string s]) Try.func37 rfl (by kernel_rfl) (.tuple #[.string ((withV n s).1), .int .i64 ((withV n s).2)]) (fun wc H => withC n s wc (by omega)) rfl rfl rfl rfl ?_
           iterate 5 refine p_answers_w rfl ?_
           refine wN ?_
           refine tN (wKK hK112 ?_)
           refine wSeqK fun KK113 hK113 => ?_
           refine wReg ?_
           refine p_answers_w rfl ?_
           refine wE (.string ((⟨#[128]⟩ : ByteArray) ++ ((refNumV 4 n).1))) rfl rfl rfl (fun aa ww hs _ => by have e144 := hs 144 _ rfl; have g144 := gt_of e144; simp only [execOp]; go_simp <;> omega) ?_
           refine p_answers_w rfl ?_
           refine wE (.string (((⟨#[128]⟩ : ByteArray) ++ ((refNumV 4 n).1)) ++ s)) rfl rfl rfl (fun aa ww hs _ => by have e145 := hs 145 _ rfl; have g145 := gt_of e145; have e146 := hs 146 _ rfl; have g146 := gt_of e146; simp only [execOp]; go_simp <;> omega) ?_
           refine wC (l := [.string (((⟨#[128]⟩ : ByteArray) ++ ((refNumV 4 n).1)) ++ s)]) Try.func34 rfl (by kernel_rfl) (fun wc H => refDec (((⟨#[128]⟩ : ByteArray) ++ ((refNumV 4 n).1)) ++ s) wc) rfl rfl rfl rfl ?_
           intro wc H
           rintro er wd ⟨v27_4, a27_4, c27_4, rfl, hvq, hs1, hf1, hof⟩
           have H2 := hp_newS H hof hs1 hf1
           refine ⟨_, rfl, wkAt H2 ?_⟩
           clear H H2 hof
           iterate 3 refine p_answers_w rfl ?_
           refine wAl rfl rfl tyhoistwayref15_Answer fun b26 => ?_
           refine wSr rfl tyhoistwayref15_Answer 0 rfl rfl rfl rfl [.int .i64 v27_4.seq, .int .i64 v27_4.code, .int .i64 v27_4.index, .int .i64 v27_4.session, .int .i64 v27_4.pass, .slice a27_4 v27_4.calls.length c27_4] (by first | rfl | (simp only [spl]; rfl)) ?_
           refine p_answers_w rfl ?_
           refine wN ?_
           refine tN (wKK hK113 ?_)
           refine wSeqK fun KK114 hK114 => ?_
           refine wSeqK fun KK115 hK115 => ?_
           refine wReg ?_
           iterate 10 refine p_answers_w rfl ?_
           refine wN ?_
           refine tN (wKK hK115 ?_)
           refine wCt rfl ?_
           refine wSeqK fun KK116 hK116 => ?_
           refine wReg ?_
           iterate 2 refine p_answers_w rfl ?_
           refine wB 162 rfl hw1 ?_
           iterate 2 refine p_answers_w rfl ?_
           refine wE (.bool true) rfl rfl rfl (fun aa ww hs _ => by exact exec_seq (c := true) rfl (hs _ _ rfl) (rfl) (by first | exact hw2 | (rw [ByteArray.toList_eq]; exact hw2) | (simpa [ByteArray.toList_eq] using hw2))) ?_
           iterate 2 refine p_answers_w rfl ?_
           refine wN ?_
           refine tN (wKK hK116 ?_)
           refine wRet ?_
           refine tR ?_
           exact wR1 rfl rfl (fun ww H => ⟨rfl, H.out.off⟩)
     · skip
       have y12o : (((decodeV s).2) != 0) = true := eqq_f y12
       intro aa ww nn dd hs H
       have hdl := dec_len s
       have hpd := dec_passF s
       have hdn := decode_no (s := s) (by simpa using y12)
       have hg1 : (((decodeV s).2) != 4) = false := by rw [hdn]; rfl
       have hg2 : (eqA (decodeV s).1 (⟨0, 0, 0, 0, 0, []⟩ : AnsV)) = true := by rw [hdn]; exact (eqA_iff _ _).2 rfl
       refine wIn nn dd hs H ?_
       refine wReg ?_
       refine p_answers_w rfl ?_
       refine wC (l := [.string s]) Try.func33 rfl (by kernel_rfl) (fun wc H => decodeC s wc) rfl rfl rfl rfl ?_
       intro wc H
       rintro er wd ⟨a14_1, c14_1, rfl, hs1, hf1, hof⟩
       have H2 := hp_newS H hof hs1 hf1
       refine ⟨_, rfl, wkAt H2 ?_⟩
       clear H H2 hof
       iterate 3 refine p_answers_w rfl ?_
       refine wAl rfl rfl tynote_Answer fun b14 => ?_
       refine wSr rfl tynote_Answer 0 rfl rfl rfl rfl [.int .i64 ((decodeV s).1.seq), .int .i64 ((decodeV s).1.code), .int .i64 ((decodeV s).1.index), .int .i64 ((decodeV s).1.session), .int .u32 ((decodeV s).1.pass), .slice a14_1 (((decodeV s).1).calls.length) c14_1] (by first | rfl | (simp only [spl]; rfl)) ?_
       refine p_answers_w rfl ?_
       refine wN ?_
       refine tN (wKK hK84 ?_)
       refine wSeqK fun KK117 hK117 => ?_
       refine wReg ?_
       refine p_answers_w rfl ?_
       refine wC (l := [.string s]) Try.func34 rfl (by kernel_rfl) (fun wc H => by have h := refDec s wc; rw [y12] at h; exact h) rfl rfl rfl rfl ?_
       intro wc H
       rintro er wd ⟨v15_1, a15_1, c15_1, rfl, hvq, hs1, hf1, hof⟩
       have H2 := hp_newS H hof hs1 hf1
       refine ⟨_, rfl, wkAt H2 ?_⟩
       clear H H2 hof
       iterate 3 refine p_answers_w rfl ?_
       refine wAl rfl rfl tyhoistwayref15_Answer fun b16 => ?_
       refine wSr rfl tyhoistwayref15_Answer 0 rfl rfl rfl rfl [.int .i64 v15_1.seq, .int .i64 v15_1.code, .int .i64 v15_1.index, .int .i64 v15_1.session, .int .i64 v15_1.pass, .slice a15_1 v15_1.calls.length c15_1] (by first | rfl | (simp only [spl]; rfl)) ?_
       refine p_answers_w rfl ?_
       refine wN ?_
       refine tN (wKK hK117 ?_)
       refine wSeqK fun KK118 hK118 => ?_
       refine wSeqK fun KK119 hK119 => ?_
       refine wReg ?_
       iterate 3 refine p_answers_w rfl ?_
       refine wB 93 rfl y12 ?_
       refine wE (.bool false) rfl rfl rfl (fun aa ww hs _ => by have e91 := hs 91 _ rfl; have g91 := gt_of e91; have e93 := hs 93 _ rfl; have g93 := gt_of e93; simp only [execOp]; go_simp <;> omega) ?_
       iterate 6 refine p_answers_w rfl ?_
       refine wB 100 rfl hg1 ?_
       refine p_answers_w rfl ?_
       refine wLr rfl tynote_Answer 2 rfl [.int .i64 ((decodeV s).1.seq), .int .i64 ((decodeV s).1.code), .int .i64 ((decodeV s).1.index), .int .i64 ((decodeV s).1.session), .int .u32 ((decodeV s).1.pass), .slice a14_1 (((decodeV s).1).calls.length) c14_1] rfl rfl ?_
       refine wE (.agg #[.int .i64 0, .int .i64 0, .int .i64 0, .int .i64 0, .int .u32 0, .slice none 0 0]) rfl rfl rfl (fun aa ww hs _ => by simp only [execOp]; go_simp <;> omega) ?_
       refine wQ (l := [.agg #[.int .i64 ((decodeV s).1.seq), .int .i64 ((decodeV s).1.code), .int .i64 ((decodeV s).1.index), .int .i64 ((decodeV s).1.session), .int .u32 ((decodeV s).1.pass), .slice a14_1 (((decodeV s).1).calls.length) c14_1], .agg #[.int .i64 0, .int .i64 0, .int .i64 0, .int .i64 0, .int .u32 0, .slice none 0 0]]) Try.func35 rfl (by kernel_rfl) (.bool true) (fun wc H => by have h := eqlC ((decodeV s).1) a14_1 c14_1 (⟨0, 0, 0, 0, 0, []⟩ : AnsV) none 0 wc (hp_held H (by (repeat (first | exact List.Mem.head _ | apply List.Mem.tail)))) (rS_none wc).1 hdl (by show 0 ≤ 1000000; omega); rw [hg2] at h; exact h) rfl rfl rfl rfl ?_
       iterate 4 refine p_answers_w rfl ?_
       refine wN ?_
       refine tN (wKK hK119 ?_)
       refine wCf rfl ?_
       refine wSk ?_
       refine tN (wKK hK118 ?_)
       refine wSeqK fun KK120 hK120 => ?_
       refine wSeqK fun KK121 hK121 => ?_
       refine wReg ?_
       refine p_answers_w rfl ?_
       refine wN ?_
       refine tN (wKK hK121 ?_)
       refine wCf rfl ?_
       refine wSk ?_
       refine tN (wKK hK120 ?_)
       refine wSeqK fun KK122 hK122 => ?_
       refine wSeqK fun KK123 hK123 => ?_
       refine wReg ?_
       refine p_answers_w rfl ?_
       refine wE (.int .i64 s.size) rfl rfl rfl (fun aa ww hs _ => by have e129 := hs 129 _ rfl; have g129 := gt_of e129; simp only [execOp]; go_simp <;> omega) ?_
       refine p_answers_w rfl ?_
       refine wN ?_
       refine tN (wKK hK123 ?_)
       refine wCond (E := (s.size : Int) == 0) rfl (fun z17 => ?_) (fun z17 => ?_)
       · skip
         have z17o : ((s.size : Int) != 0) = false := eqq_t z17
         refine wSeqK fun KK124 hK124 => ?_
         refine wReg ?_
         refine p_answers_w rfl ?_
         refine wN ?_
         refine tN (wKK hK124 ?_)
         refine wRet ?_
         refine tR ?_
         exact wR1 rfl rfl (fun ww H => ⟨rfl, H.out.off⟩)
       · skip
         have z17o : ((s.size : Int) != 0) = true := eqq_f z17
         refine wSk ?_
         refine tN (wKK hK122 ?_)
         refine wSeqK fun KK125 hK125 => ?_
         rcases Bool.eq_false_or_eq_true ((refNumV 4 n).2) with y18 | y18
         · skip
           rcases Bool.eq_false_or_eq_true ((decodeV (((⟨#[128]⟩ : ByteArray) ++ (refNumV 4 n).1) ++ s)).2 == 0) with y19 | y19
           · skip
             have y19o : ((decodeV (((⟨#[128]⟩ : ByteArray) ++ (refNumV 4 n).1) ++ s)).2 != 0) = false := eqq_t y19
             rcases Bool.eq_false_or_eq_true (decide (1073741824 < n)) with y20 | y20
             · skip
               have y20d : 1073741824 < n := of_decide_eq_true y20
               intro aa ww nn dd hs H
               have hwn := withR_no2 (n := n) (of_decide_eq_true y20) s
               have hw1 : (((withV n s).2) == 1) = true := by rw [hwn]; rfl
               have hw2 : (((withV n s).1).toList.isEmpty) = true := by rw [hwn, ByteArray.toList_eq]; rfl
               refine wIn nn dd hs H ?_
               refine wReg ?_
               refine p_answers_w rfl ?_
               refine wQ (l := [.int .i64 4, .int .i64 n]) Try.func36 rfl (by kernel_rfl) (.tuple #[.string ((refNumV 4 n).1), .bool true]) (fun wc H => by have h := refNum 4 n wc hn; rw [y18] at h; exact h) rfl rfl rfl rfl ?_
               iterate 5 refine p_answers_w rfl ?_
               refine wN ?_
               refine tN (wKK hK125 ?_)
               refine wSeqK fun KK126 hK126 => ?_
               refine wReg ?_
               iterate 2 refine p_answers_w rfl ?_
               refine wQ (l := [.int .i64 n, .string s]) Try.func37 rfl (by kernel_rfl) (.tuple #[.string ((withV n s).1), .int .i64 ((withV n s).2)]) (fun wc H => withC n s wc (by omega)) rfl rfl rfl rfl ?_
               iterate 5 refine p_answers_w rfl ?_
               refine wN ?_
               refine tN (wKK hK126 ?_)
               refine wSeqK fun KK127 hK127 => ?_
               refine wReg ?_
               refine p_answers_w rfl ?_
               refine wE (.string ((⟨#[128]⟩ : ByteArray) ++ ((refNumV 4 n).1))) rfl rfl rfl (fun aa ww hs _ => by have e144 := hs 144 _ rfl; have g144 := gt_of e144; simp only [execOp]; go_simp <;> omega) ?_
               refine p_answers_w rfl ?_
               refine wE (.string (((⟨#[128]⟩ : ByteArray) ++ ((refNumV 4 n).1)) ++ s)) rfl rfl rfl (fun aa ww hs _ => by have e145 := hs 145 _ rfl; have g145 := gt_of e145; have e146 := hs 146 _ rfl; have g146 := gt_of e146; simp only [execOp]; go_simp <;> omega) ?_
               refine wC (l := [.string (((⟨#[128]⟩ : ByteArray) ++ ((refNumV 4 n).1)) ++ s)]) Try.func34 rfl (by kernel_rfl) (fun wc H => by have h := refDec (((⟨#[128]⟩ : ByteArray) ++ ((refNumV 4 n).1)) ++ s) wc; rw [y19] at h; exact h) rfl rfl rfl rfl ?_
               intro wc H
               rintro er wd ⟨v27_4, a27_4, c27_4, rfl, hvq, hs1, hf1, hof⟩
               obtain rfl := hvq rfl
               have H2 := hp_newS H hof hs1 hf1
               refine ⟨_, rfl, wkAt H2 ?_⟩
               clear H H2 hof
               iterate 3 refine p_answers_w rfl ?_
               refine wAl rfl rfl tyhoistwayref15_Answer fun b26 => ?_
               refine wSr rfl tyhoistwayref15_Answer 0 rfl rfl rfl rfl [.int .i64 ((decodeV (((⟨#[128]⟩ : ByteArray) ++ ((refNumV 4 n).1)) ++ s)).1.seq), .int .i64 ((decodeV (((⟨#[128]⟩ : ByteArray) ++ ((refNumV 4 n).1)) ++ s)).1.code), .int .i64 ((decodeV (((⟨#[128]⟩ : ByteArray) ++ ((refNumV 4 n).1)) ++ s)).1.index), .int .i64 ((decodeV (((⟨#[128]⟩ : ByteArray) ++ ((refNumV 4 n).1)) ++ s)).1.session), .int .i64 ((decodeV (((⟨#[128]⟩ : ByteArray) ++ ((refNumV 4 n).1)) ++ s)).1.pass), .slice a27_4 (((decodeV (((⟨#[128]⟩ : ByteArray) ++ ((refNumV 4 n).1)) ++ s)).1).calls.length) c27_4] (by first | rfl | (simp only [spl]; rfl)) ?_
               refine p_answers_w rfl ?_
               refine wN ?_
               refine tN (wKK hK127 ?_)
               refine wSeqK fun KK128 hK128 => ?_
               refine wSeqK fun KK129 hK129 => ?_
               refine wReg ?_
               iterate 9 refine p_answers_w rfl ?_
               refine wB 159 rfl y20 ?_
               refine p_answers_w rfl ?_
               refine wN ?_
               refine tN (wKK hK129 ?_)
               refine wCt rfl ?_
               refine wSeqK fun KK130 hK130 => ?_
               refine wReg ?_
               iterate 2 refine p_answers_w rfl ?_
               refine wB 162 rfl hw1 ?_
               iterate 2 refine p_answers_w rfl ?_
               refine wE (.bool true) rfl rfl rfl (fun aa ww hs _ => by exact exec_seq (c := true) rfl (hs _ _ rfl) (rfl) (by first | exact hw2 | (rw [ByteArray.toList_eq]; exact hw2) | (simpa [ByteArray.toList_eq] using hw2))) ?_
               iterate 2 refine p_answers_w rfl ?_
               refine wN ?_
               refine tN (wKK hK130 ?_)
               refine wRet ?_
               refine tR ?_
               exact wR1 rfl rfl (fun ww H => ⟨rfl, H.out.off⟩)
             · skip
               have y20d : ¬ (1073741824 < n) := of_decide_eq_false y20
               intro aa ww nn dd hs H
               have hwn := withR_yes y18 y19 (of_decide_eq_false y20)
               have hw1 : (((withV n s).2) == 0) = true := by rw [hwn]; rfl
               have hw2 : (((withV n s).1).toList == ((((⟨#[128]⟩ : ByteArray) ++ (refNumV 4 n).1) ++ s)).toList) = true := by rw [hwn]; simp
               refine wIn nn dd hs H ?_
               refine wReg ?_
               refine p_answers_w rfl ?_
               refine wQ (l := [.int .i64 4, .int .i64 n]) Try.func36 rfl (by kernel_rfl) (.tuple #[.string ((refNumV 4 n).1), .bool true]) (fun wc H => by have h := refNum 4 n wc hn; rw [y18] at h; exact h) rfl rfl rfl rfl ?_
               iterate 5 refine p_answers_w rfl ?_
               refine wN ?_
               refine tN (wKK hK125 ?_)
               refine wSeqK fun KK131 hK131 => ?_
               refine wReg ?_
               iterate 2 refine p_answers_w rfl ?_
               refine wQ (l := [.int .i64 n, .string s]) Try.func37 rfl (by kernel_rfl) (.tuple #[.string ((withV n s).1), .int .i64 ((withV n s).2)]) (fun wc H => withC n s wc (by omega)) rfl rfl rfl rfl ?_
               iterate 5 refine p_answers_w rfl ?_
               refine wN ?_
               refine tN (wKK hK131 ?_)
               refine wSeqK fun KK132 hK132 => ?_
               refine wReg ?_
               refine p_answers_w rfl ?_
               refine wE (.string ((⟨#[128]⟩ : ByteArray) ++ ((refNumV 4 n).1))) rfl rfl rfl (fun aa ww hs _ => by have e144 := hs 144 _ rfl; have g144 := gt_of e144; simp only [execOp]; go_simp <;> omega) ?_
               refine p_answers_w rfl ?_
               refine wE (.string (((⟨#[128]⟩ : ByteArray) ++ ((refNumV 4 n).1)) ++ s)) rfl rfl rfl (fun aa ww hs _ => by have e145 := hs 145 _ rfl; have g145 := gt_of e145; have e146 := hs 146 _ rfl; have g146 := gt_of e146; simp only [execOp]; go_simp <;> omega) ?_
               refine wC (l := [.string (((⟨#[128]⟩ : ByteArray) ++ ((refNumV 4 n).1)) ++ s)]) Try.func34 rfl (by kernel_rfl) (fun wc H => by have h := refDec (((⟨#[128]⟩ : ByteArray) ++ ((refNumV 4 n).1)) ++ s) wc; rw [y19] at h; exact h) rfl rfl rfl rfl ?_
               intro wc H
               rintro er wd ⟨v27_4, a27_4, c27_4, rfl, hvq, hs1, hf1, hof⟩
               obtain rfl := hvq rfl
               have H2 := hp_newS H hof hs1 hf1
               refine ⟨_, rfl, wkAt H2 ?_⟩
               clear H H2 hof
               iterate 3 refine p_answers_w rfl ?_
               refine wAl rfl rfl tyhoistwayref15_Answer fun b26 => ?_
               refine wSr rfl tyhoistwayref15_Answer 0 rfl rfl rfl rfl [.int .i64 ((decodeV (((⟨#[128]⟩ : ByteArray) ++ ((refNumV 4 n).1)) ++ s)).1.seq), .int .i64 ((decodeV (((⟨#[128]⟩ : ByteArray) ++ ((refNumV 4 n).1)) ++ s)).1.code), .int .i64 ((decodeV (((⟨#[128]⟩ : ByteArray) ++ ((refNumV 4 n).1)) ++ s)).1.index), .int .i64 ((decodeV (((⟨#[128]⟩ : ByteArray) ++ ((refNumV 4 n).1)) ++ s)).1.session), .int .i64 ((decodeV (((⟨#[128]⟩ : ByteArray) ++ ((refNumV 4 n).1)) ++ s)).1.pass), .slice a27_4 (((decodeV (((⟨#[128]⟩ : ByteArray) ++ ((refNumV 4 n).1)) ++ s)).1).calls.length) c27_4] (by first | rfl | (simp only [spl]; rfl)) ?_
               refine p_answers_w rfl ?_
               refine wN ?_
               refine tN (wKK hK132 ?_)
               refine wSeqK fun KK133 hK133 => ?_
               refine wSeqK fun KK134 hK134 => ?_
               refine wReg ?_
               iterate 9 refine p_answers_w rfl ?_
               refine wB 159 rfl y20 ?_
               refine p_answers_w rfl ?_
               refine wN ?_
               refine tN (wKK hK134 ?_)
               refine wCf rfl ?_
               refine wSk ?_
               refine tN (wKK hK133 ?_)
               refine wSeqK fun KK135 hK135 => ?_
               refine wReg ?_
               iterate 2 refine p_answers_w rfl ?_
               refine wB 168 rfl hw1 ?_
               iterate 3 refine p_answers_w rfl ?_
               refine wE (.string ((⟨#[128]⟩ : ByteArray) ++ ((refNumV 4 n).1))) rfl rfl rfl (fun aa ww hs _ => by have e171 := hs 171 _ rfl; have g171 := gt_of e171; simp only [execOp]; go_simp <;> omega) ?_
               refine p_answers_w rfl ?_
               refine wE (.string (((⟨#[128]⟩ : ByteArray) ++ ((refNumV 4 n).1)) ++ s)) rfl rfl rfl (fun aa ww hs _ => by have e172 := hs 172 _ rfl; have g172 := gt_of e172; have e173 := hs 173 _ rfl; have g173 := gt_of e173; simp only [execOp]; go_simp <;> omega) ?_
               refine wE (.bool true) rfl rfl rfl (fun aa ww hs _ => by exact exec_seq (c := true) rfl (hs _ _ rfl) (hs _ _ rfl) (by first | exact hw2 | (rw [ByteArray.toList_eq]; exact hw2) | (simpa [ByteArray.toList_eq] using hw2))) ?_
               iterate 2 refine p_answers_w rfl ?_
               refine wN ?_
               refine tN (wKK hK135 ?_)
               refine wRet ?_
               exact wR1 rfl rfl (fun ww H => ⟨rfl, H.out.off⟩)
           · skip
             have y19o : ((decodeV (((⟨#[128]⟩ : ByteArray) ++ (refNumV 4 n).1) ++ s)).2 != 0) = true := eqq_f y19
             intro aa ww nn dd hs H
             have hwn := withR_no3 y18 y19
             have hw1 : (((withV n s).2) == 1) = true := by rw [hwn]; rfl
             have hw2 : (((withV n s).1).toList.isEmpty) = true := by rw [hwn, ByteArray.toList_eq]; rfl
             refine wIn nn dd hs H ?_
             refine wReg ?_
             refine p_answers_w rfl ?_
             refine wQ (l := [.int .i64 4, .int .i64 n]) Try.func36 rfl (by kernel_rfl) (.tuple #[.string ((refNumV 4 n).1), .bool true]) (fun wc H => by have h := refNum 4 n wc hn; rw [y18] at h; exact h) rfl rfl rfl rfl ?_
             iterate 5 refine p_answers_w rfl ?_
             refine wN ?_
             refine tN (wKK hK125 ?_)
             refine wSeqK fun KK136 hK136 => ?_
             refine wReg ?_
             iterate 2 refine p_answers_w rfl ?_
             refine wQ (l := [.int .i64 n, .string s]) Try.func37 rfl (by kernel_rfl) (.tuple #[.string ((withV n s).1), .int .i64 ((withV n s).2)]) (fun wc H => withC n s wc (by omega)) rfl rfl rfl rfl ?_
             iterate 5 refine p_answers_w rfl ?_
             refine wN ?_
             refine tN (wKK hK136 ?_)
             refine wSeqK fun KK137 hK137 => ?_
             refine wReg ?_
             refine p_answers_w rfl ?_
             refine wE (.string ((⟨#[128]⟩ : ByteArray) ++ ((refNumV 4 n).1))) rfl rfl rfl (fun aa ww hs _ => by have e144 := hs 144 _ rfl; have g144 := gt_of e144; simp only [execOp]; go_simp <;> omega) ?_
             refine p_answers_w rfl ?_
             refine wE (.string (((⟨#[128]⟩ : ByteArray) ++ ((refNumV 4 n).1)) ++ s)) rfl rfl rfl (fun aa ww hs _ => by have e145 := hs 145 _ rfl; have g145 := gt_of e145; have e146 := hs 146 _ rfl; have g146 := gt_of e146; simp only [execOp]; go_simp <;> omega) ?_
             refine wC (l := [.string (((⟨#[128]⟩ : ByteArray) ++ ((refNumV 4 n).1)) ++ s)]) Try.func34 rfl (by kernel_rfl) (fun wc H => by have h := refDec (((⟨#[128]⟩ : ByteArray) ++ ((refNumV 4 n).1)) ++ s) wc; rw [y19] at h; exact h) rfl rfl rfl rfl ?_
             intro wc H
             rintro er wd ⟨v27_4, a27_4, c27_4, rfl, hvq, hs1, hf1, hof⟩
             have H2 := hp_newS H hof hs1 hf1
             refine ⟨_, rfl, wkAt H2 ?_⟩
             clear H H2 hof
             iterate 3 refine p_answers_w rfl ?_
             refine wAl rfl rfl tyhoistwayref15_Answer fun b26 => ?_
             refine wSr rfl tyhoistwayref15_Answer 0 rfl rfl rfl rfl [.int .i64 v27_4.seq, .int .i64 v27_4.code, .int .i64 v27_4.index, .int .i64 v27_4.session, .int .i64 v27_4.pass, .slice a27_4 v27_4.calls.length c27_4] (by first | rfl | (simp only [spl]; rfl)) ?_
             refine p_answers_w rfl ?_
             refine wN ?_
             refine tN (wKK hK137 ?_)
             refine wSeqK fun KK138 hK138 => ?_
             refine wSeqK fun KK139 hK139 => ?_
             refine wReg ?_
             iterate 10 refine p_answers_w rfl ?_
             refine wN ?_
             refine tN (wKK hK139 ?_)
             refine wCt rfl ?_
             refine wSeqK fun KK140 hK140 => ?_
             refine wReg ?_
             iterate 2 refine p_answers_w rfl ?_
             refine wB 162 rfl hw1 ?_
             iterate 2 refine p_answers_w rfl ?_
             refine wE (.bool true) rfl rfl rfl (fun aa ww hs _ => by exact exec_seq (c := true) rfl (hs _ _ rfl) (rfl) (by first | exact hw2 | (rw [ByteArray.toList_eq]; exact hw2) | (simpa [ByteArray.toList_eq] using hw2))) ?_
             iterate 2 refine p_answers_w rfl ?_
             refine wN ?_
             refine tN (wKK hK140 ?_)
             refine wRet ?_
             refine tR ?_
             exact wR1 rfl rfl (fun ww H => ⟨rfl, H.out.off⟩)
         · skip
           intro aa ww nn dd hs H
           have hwn := withR_no1 y18 s
           have hw1 : (((withV n s).2) == 1) = true := by rw [hwn]; rfl
           have hw2 : (((withV n s).1).toList.isEmpty) = true := by rw [hwn, ByteArray.toList_eq]; rfl
           refine wIn nn dd hs H ?_
           refine wReg ?_
           refine p_answers_w rfl ?_
           refine wQ (l := [.int .i64 4, .int .i64 n]) Try.func36 rfl (by kernel_rfl) (.tuple #[.string ((refNumV 4 n).1), .bool false]) (fun wc H => by have h := refNum 4 n wc hn; rw [y18] at h; exact h) rfl rfl rfl rfl ?_
           iterate 5 refine p_answers_w rfl ?_
           refine wN ?_
           refine tN (wKK hK125 ?_)
           refine wSeqK fun KK141 hK141 => ?_
           refine wReg ?_
           iterate 2 refine p_answers_w rfl ?_
           refine wQ (l := [.int .i64 n, .string s]) Try.func37 rfl (by kernel_rfl) (.tuple #[.string ((withV n s).1), .int .i64 ((withV n s).2)]) (fun wc H => withC n s wc (by omega)) rfl rfl rfl rfl ?_
           iterate 5 refine p_answers_w rfl ?_
           refine wN ?_
           refine tN (wKK hK141 ?_)
           refine wSeqK fun KK142 hK142 => ?_
           refine wReg ?_
           refine p_answers_w rfl ?_
           refine wE (.string ((⟨#[128]⟩ : ByteArray) ++ ((refNumV 4 n).1))) rfl rfl rfl (fun aa ww hs _ => by have e144 := hs 144 _ rfl; have g144 := gt_of e144; simp only [execOp]; go_simp <;> omega) ?_
           refine p_answers_w rfl ?_
           refine wE (.string (((⟨#[128]⟩ : ByteArray) ++ ((refNumV 4 n).1)) ++ s)) rfl rfl rfl (fun aa ww hs _ => by have e145 := hs 145 _ rfl; have g145 := gt_of e145; have e146 := hs 146 _ rfl; have g146 := gt_of e146; simp only [execOp]; go_simp <;> omega) ?_
           refine wC (l := [.string (((⟨#[128]⟩ : ByteArray) ++ ((refNumV 4 n).1)) ++ s)]) Try.func34 rfl (by kernel_rfl) (fun wc H => refDec (((⟨#[128]⟩ : ByteArray) ++ ((refNumV 4 n).1)) ++ s) wc) rfl rfl rfl rfl ?_
           intro wc H
           rintro er wd ⟨v27_4, a27_4, c27_4, rfl, hvq, hs1, hf1, hof⟩
           have H2 := hp_newS H hof hs1 hf1
           refine ⟨_, rfl, wkAt H2 ?_⟩
           clear H H2 hof
           iterate 3 refine p_answers_w rfl ?_
           refine wAl rfl rfl tyhoistwayref15_Answer fun b26 => ?_
           refine wSr rfl tyhoistwayref15_Answer 0 rfl rfl rfl rfl [.int .i64 v27_4.seq, .int .i64 v27_4.code, .int .i64 v27_4.index, .int .i64 v27_4.session, .int .i64 v27_4.pass, .slice a27_4 v27_4.calls.length c27_4] (by first | rfl | (simp only [spl]; rfl)) ?_
           refine p_answers_w rfl ?_
           refine wN ?_
           refine tN (wKK hK142 ?_)
           refine wSeqK fun KK143 hK143 => ?_
           refine wSeqK fun KK144 hK144 => ?_
           refine wReg ?_
           iterate 10 refine p_answers_w rfl ?_
           refine wN ?_
           refine tN (wKK hK144 ?_)
           refine wCt rfl ?_
           refine wSeqK fun KK145 hK145 => ?_
           refine wReg ?_
           iterate 2 refine p_answers_w rfl ?_
           refine wB 162 rfl hw1 ?_
           iterate 2 refine p_answers_w rfl ?_
           refine wE (.bool true) rfl rfl rfl (fun aa ww hs _ => by exact exec_seq (c := true) rfl (hs _ _ rfl) (rfl) (by first | exact hw2 | (rw [ByteArray.toList_eq]; exact hw2) | (simpa [ByteArray.toList_eq] using hw2))) ?_
           iterate 2 refine p_answers_w rfl ?_
           refine wN ?_
           refine tN (wKK hK145 ?_)
           refine wRet ?_
           refine tR ?_
           exact wR1 rfl rfl (fun ww H => ⟨rfl, H.out.off⟩)
end Go.Proofs.Ytloemjhhedkhiaa.Nt
