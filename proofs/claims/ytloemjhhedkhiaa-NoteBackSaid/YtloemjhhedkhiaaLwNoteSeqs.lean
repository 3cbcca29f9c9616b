/- A payload goes with any Seq: the walk. -/
import Derived.Test.YtloemjhhedkhiaaProg
import Derived.Below
import Derived.WalkKit
import Derived.KernelRfl
import Derived.RowKit3
import Derived.Deep.LoopGhost
import Derived.Deep.QuietTactic
import Derived.BigQuiet
import Derived.WideLaws
import Derived.Deep.DeepCutAuto
import Derived.Deep.CutBlock
import Derived.Lib.Hide
import Derived.Laws.BitsLemmas
import Derived.Laws.Bits64
import Derived.Laws.BitsAllLaws
import Derived.IntWalk
import Derived.Outline
import Derived.WalkSpells
import Derived.Test.YtloemjhhedkhiaaMem
import Derived.Test.YtloemjhhedkhiaaNk1
namespace Go.Proofs.Ytloemjhhedkhiaa.Nt
open Go.RowKit Go.Proofs.Ytloemjhhedkhiaa.Mem Go.Proofs.Ytloemjhhedkhiaa.Pk Go.Proofs.Ytloemjhhedkhiaa.Reg Go.Proofs.Ytloemjhhedkhiaa.Wk
set_option linter.unusedVariables false
set_option linter.unusedSimpArgs false

theorem enc_ok {a : AnsV} (h : ((encodeV a).2 != 0) = false) : ansOk a = true := by
  unfold encodeV at h
  cases ho : ansOk a with
  | true => rfl
  | false => rw [ho] at h; simp at h
theorem calls_len : ∀ l : List CallV, (callsB l).length = 17 * l.length
  | [] => rfl
  | x :: l => by
    have := calls_len l
    have e : callsB (x :: l) = callB x ++ callsB l := by simp [callsB]
    rw [e, List.length_append, this]
    unfold callB
    simp only [List.length_append, beB_length, List.length_cons]
    omega
theorem pay_size {a : AnsV} (h : ¬ 64 < (a.calls.length : Int)) : (payloadV a).size ≤ 140737488351232 := by
  unfold payloadV
  cases ansOk a with
  | false => exact Nat.zero_le _
  | true =>
    simp only [cond_true]
    rw [str_size]
    unfold payB
    simp only [List.length_append, beB_length, calls_len]
    omega
theorem pay_of {a : AnsV} (h : ansOk a = true) : payloadV a = str (payB a) := by unfold payloadV; rw [h]; rfl
theorem seqs_pay {a b : AnsV} (ha : ansOk a = true) (hpa : PassOk a) (hb : ansOk b = true) (hpb : PassOk b) : (((payloadV a).toList == (payloadV b).toList) == eqA a (⟨a.seq, b.code, b.index, b.session, b.pass, b.calls⟩ : AnsV)) = true := by
  rw [beq_iff_eq, Bool.eq_iff_iff, eqA_iff]
  constructor
  · intro h
    exact (pay_inj ha hpa hb hpb (list_beq h)).symm
  · intro h
    have e : payloadV a = payloadV b := by
      rw [pay_of ha, pay_of hb]
      have : payB a = payB (⟨a.seq, b.code, b.index, b.session, b.pass, b.calls⟩ : AnsV) := by rw [← h]
      rw [this]
      rfl
    rw [e]
    simp
theorem seqs_with {a : AnsV} (ha : ansOk a = true) (hpa : PassOk a) {n : Int} (h1 : ¬ n < 0) (h2 : ¬ 1073741824 < n) : withV n (payloadV a) = (str (ansB { a with seq := n }), 0) ∧ decodeV (withV n (payloadV a)).1 = ({ a with seq := n }, 0) := by
  have hn : cnt n = true := by rw [cnt_iff]; omega
  have h := with_back ha hpa hn
  rw [h]
  refine ⟨rfl, decode_back ?_ hpa⟩
  unfold ansOk at ha ⊢
  simp only [Bool.and_eq_true] at ha ⊢
  exact ⟨hn, ha.2⟩
theorem seqs_no {n : Int} {p : ByteArray} (h : (decide (n < 0) || decide (1073741824 < n)) = true) : withV n p = (⟨#[]⟩, 1) := with_no (by
  cases hc : cnt n with
  | false => rfl
  | true => rw [cnt_iff] at hc; simp at h; omega) p
def tab_seqs_w : Wk.Tab := [(64, 0, 0)]
theorem p_seqs_w {ops : Array Oper} {rest : List Oper} {o : Oper} {w0 : World} {Q : Exit → Act → World → Prop} {S : List Nat} {R : List Res} {K K' : Wk.Env} {N : Nat} (h : Wk.stp tab_seqs_w N ops K o = some K') (n : Wk.Wk N S w0 K' R (wpList Try.prog ops Q rest)) : Wk.Wk N S w0 K R (wpList Try.prog ops Q (o :: rest)) := Wk.wP (T := tab_seqs_w) (by kernel_rfl) h n
set_option maxHeartbeats 4000000 in
set_option maxRecDepth 20000 in
theorem seqs_w_r3 (a : AnsV) (sa : Option Addr) (sc : Nat) (b : AnsV) (ta : Option Addr) (tc : Nat) (hpa : 0 ≤ a.pass ∧ a.pass ≤ 4294967295) (hpb : 0 ≤ b.pass ∧ b.pass ≤ 4294967295) (b3 : Nat) (b4 : Nat) {wa wb : World} (H : Hid (Hp [] wa wb [rB b4 64 [.int .i64 b.seq, .int .i64 b.code, .int .i64 b.index, .int .i64 b.session, .int .u32 b.pass, .slice ta b.calls.length tc], rB b3 64 [.int .i64 a.seq, .int .i64 a.code, .int .i64 a.index, .int .i64 a.session, .int .u32 a.pass, .slice sa a.calls.length sc], rS ta tc 8 (b.calls.map callRow), rS sa sc 8 (a.calls.map callRow)])) (ac0 : Act) (hz : ac0.tmps.size = 96) (so3 : ac0.eval (.tmp 3) = .pointer (some ⟨b3, 0, none⟩)) (so4 : ac0.eval (.tmp 4) = .pointer (some ⟨b4, 0, none⟩)) {QR : Exit → Act → World → Prop} (hfin : ∀ (ac1 : Act) (wz : World), ac1.tmps.size = 96 → ac1.defers = ac0.defers → (∀ t, ([19, 20, 21, 22, 23, 24, 25, 26, 27, 28] : List Nat).contains t = false → ac1.eval (.tmp t) = ac0.eval (.tmp t)) → ac1.eval (.tmp 28) = .bool ((decide (64 < (a.calls.length : Int))) || (decide (64 < (b.calls.length : Int)))) →  Hid (Hp [] wa wz [rB b4 64 [.int .i64 b.seq, .int .i64 b.code, .int .i64 b.index, .int .i64 b.session, .int .u32 b.pass, .slice ta b.calls.length tc], rB b3 64 [.int .i64 a.seq, .int .i64 a.code, .int .i64 a.index, .int .i64 a.session, .int .u32 a.pass, .slice sa a.calls.length sc], rS ta tc 8 (b.calls.map callRow), rS sa sc 8 (a.calls.map callRow)]) → QR .normal ac1 wz) : (regAt Try.f10 3).wp Try.prog QR ac0 wb := by
  refine wp_region_sq (by kernel_rfl) 96 hz (by kernel_rfl) (fun (xx : Unit) jx => nth [.pointer (some ⟨b3, 5, none⟩), .slice sa a.calls.length sc, .int .i64 a.calls.length, .bool (decide (64 < (a.calls.length : Int))), .bool (decide (64 < (a.calls.length : Int))), bif !(decide (64 < (a.calls.length : Int))) then .pointer (some ⟨b4, 5, none⟩) else undef, bif !(decide (64 < (a.calls.length : Int))) then .slice ta b.calls.length tc else undef, bif !(decide (64 < (a.calls.length : Int))) then .int .i64 b.calls.length else undef, bif !(decide (64 < (a.calls.length : Int))) then .bool (decide (64 < (b.calls.length : Int))) else undef, .bool ((decide (64 < (a.calls.length : Int))) || (decide (64 < (b.calls.length : Int))))] jx) (fun (LL : Nat → Bool) (xx : Unit) ww => Hp [] wa ww [rB b4 64 [.int .i64 b.seq, .int .i64 b.code, .int .i64 b.index, .int .i64 b.session, .int .u32 b.pass, .slice ta b.calls.length tc], rB b3 64 [.int .i64 a.seq, .int .i64 a.code, .int .i64 a.index, .int .i64 a.session, .int .u32 a.pass, .slice sa a.calls.length sc], rS ta tc 8 (b.calls.map callRow), rS sa sc 8 (a.calls.map callRow)]) () H.out ?_ (steps_al ?_) ?_ ?_
  · exact fun _ _ _ _ _ h => h
  · refine al_cons ?_ (al_cons ?_ (al_cons ?_ (al_cons ?_ (al_cons ?_ (al_cons ?_ (al_cons ?_ (al_cons ?_ (al_cons ?_ (al_cons ?_ (al_nil))))))))))
    · intro LL xx ac wc sg hst hwant QQ hgo
      have se3 : ac.eval (.tmp 3) = _ := ((sg.free 3 (by kernel_rfl)).trans so3)
      have sg3 := gt_of se3
      exact op_val hwant hgo hst _ (by simp only [execOp, nth]; go_simp <;> omega) rfl
    · intro LL xx ac wc sg hst hwant QQ hgo
      have H := Lib.hid hst
      refine hpA_load1 tyS_api_Call H rfl (sg.slot 0 (sg.anc 0 rfl)) hwant (by (repeat (first | exact List.Mem.head _ | apply List.Mem.tail))) (by rfl) ?_
      exact hgo _ () _ (fun _ _ => rfl) rfl hst
    · intro LL xx ac wc sg hst hwant QQ hgo
      have se20 : ac.eval (.tmp 20) = _ := (sg.slot 1 (sg.anc 1 rfl))
      have sg20 := gt_of se20
      (try simp only [nth] at se20 sg20)
      exact op_val hwant hgo hst _ (by simp only [execOp, nth]; go_simp <;> omega) rfl
    · intro LL xx ac wc sg hst hwant QQ hgo
      have se21 : ac.eval (.tmp 21) = _ := (sg.slot 2 (sg.anc 2 rfl))
      have sg21 := gt_of se21
      (try simp only [nth] at se21 sg21)
      exact op_val hwant hgo hst _ (by simp only [execOp, nth]; go_simp <;> omega) rfl
    · intro LL xx ac wc sg hst hwant QQ hgo
      exact op_val hwant hgo hst _ (exec_move rfl (sg.slot 3 (sg.anc 3 rfl))) rfl
    · intro LL xx ac wc sg hst hwant QQ hgo
      have hG : (!(decide (64 < (a.calls.length : Int)))) = true := (want_f rfl rfl (sg.slot 4 (sg.anc 4 rfl))).symm.trans hwant
      have se4 : ac.eval (.tmp 4) = _ := ((sg.free 4 (by kernel_rfl)).trans so4)
      have sg4 := gt_of se4
      exact op_val hwant hgo hst _ (by simp only [execOp, nth]; go_simp <;> omega) (cI hG)
    · intro LL xx ac wc sg hst hwant QQ hgo
      have hG : (!(decide (64 < (a.calls.length : Int)))) = true := (want_f rfl rfl (sg.slot 4 (sg.anc 4 rfl))).symm.trans hwant
      have H := Lib.hid hst
      refine hpA_load1 tyS_api_Call H rfl (cT (sg.slot 5 (sg.anc 5 rfl)) hG) hwant (by (repeat (first | exact List.Mem.head _ | apply List.Mem.tail))) (by rfl) ?_
      exact hgo _ () _ (fun _ _ => rfl) (cI hG) hst
    · intro LL xx ac wc sg hst hwant QQ hgo
      have hG : (!(decide (64 < (a.calls.length : Int)))) = true := (want_f rfl rfl (sg.slot 4 (sg.anc 4 rfl))).symm.trans hwant
      have se25 : ac.eval (.tmp 25) = _ := (cT (sg.slot 6 (sg.anc 6 rfl)) hG)
      have sg25 := gt_of se25
      (try simp only [nth] at se25 sg25)
      exact op_val hwant hgo hst _ (by simp only [execOp, nth]; go_simp <;> omega) (cI hG)
    · intro LL xx ac wc sg hst hwant QQ hgo
      have hG : (!(decide (64 < (a.calls.length : Int)))) = true := (want_f rfl rfl (sg.slot 4 (sg.anc 4 rfl))).symm.trans hwant
      have se26 : ac.eval (.tmp 26) = _ := (cT (sg.slot 7 (sg.anc 7 rfl)) hG)
      have sg26 := gt_of se26
      (try simp only [nth] at se26 sg26)
      exact op_val hwant hgo hst _ (by simp only [execOp, nth]; go_simp <;> omega) (cI hG)
    · intro LL xx ac wc sg hst hwant QQ hgo
      exact op_val hwant hgo hst (.bool ((decide (64 < (a.calls.length : Int))) || (decide (64 < (b.calls.length : Int))))) (exec_or (Y := decide (64 < (b.calls.length : Int))) rfl (sg.slot 4 (sg.anc 4 rfl)) (fun qq => cT (sg.slot 8 (sg.anc 8 rfl)) (bk qq))) rfl
  · refine skips [5, 6, 7, 8] (by kernel_rfl) ?_
    refine List.forall_mem_cons.2 ⟨?_, List.forall_mem_cons.2 ⟨?_, List.forall_mem_cons.2 ⟨?_, List.forall_mem_cons.2 ⟨?_, fun _ h => by cases h⟩⟩⟩⟩
    · intro oo hop LL xx ac sg hwant
      cases Option.some.inj hop
      have hG : (!(decide (64 < (a.calls.length : Int)))) = false := (want_f rfl rfl (sg.slot 4 (sg.anc 4 rfl))).symm.trans hwant
      exact ⟨cF hG, fun _ h => h⟩
    · intro oo hop LL xx ac sg hwant
      cases Option.some.inj hop
      have hG : (!(decide (64 < (a.calls.length : Int)))) = false := (want_f rfl rfl (sg.slot 4 (sg.anc 4 rfl))).symm.trans hwant
      exact ⟨cF hG, fun _ h => h⟩
    · intro oo hop LL xx ac sg hwant
      cases Option.some.inj hop
      have hG : (!(decide (64 < (a.calls.length : Int)))) = false := (want_f rfl rfl (sg.slot 4 (sg.anc 4 rfl))).symm.trans hwant
      exact ⟨cF hG, fun _ h => h⟩
    · intro oo hop LL xx ac sg hwant
      cases Option.some.inj hop
      have hG : (!(decide (64 < (a.calls.length : Int)))) = false := (want_f rfl rfl (sg.slot 4 (sg.anc 4 rfl))).symm.trans hwant
      exact ⟨cF hG, fun _ h => h⟩
  · intro xx ac1 wz hfr hsl hst
    exact hfin ac1 wz (hfr.size.trans hz) hfr.defers (fr_keep hfr [19, 20, 21, 22, 23, 24, 25, 26, 27, 28] (by kernel_rfl)) (hsl 9 (by decide)) (Lib.hid hst)
set_option maxHeartbeats 4000000 in
set_option maxRecDepth 20000 in
theorem seqs_w_r7 (a : AnsV) (sa : Option Addr) (sc : Nat) (b : AnsV) (ta : Option Addr) (tc : Nat) (hpa : 0 ≤ a.pass ∧ a.pass ≤ 4294967295) (hpb : 0 ≤ b.pass ∧ b.pass ≤ 4294967295) (b3 : Nat) (b4 : Nat) (z1ld : ¬ (64 < (a.calls.length : Int))) (z1rd : ¬ (64 < (b.calls.length : Int))) {wa wb : World} (H : Hid (Hp [] wa wb [rB b4 64 [.int .i64 b.seq, .int .i64 b.code, .int .i64 b.index, .int .i64 b.session, .int .u32 b.pass, .slice ta b.calls.length tc], rB b3 64 [.int .i64 a.seq, .int .i64 a.code, .int .i64 a.index, .int .i64 a.session, .int .u32 a.pass, .slice sa a.calls.length sc], rS ta tc 8 (b.calls.map callRow), rS sa sc 8 (a.calls.map callRow)])) (ac0 : Act) (hz : ac0.tmps.size = 96) (so8 : ac0.eval (.tmp 8) = .int .i64 ((encodeV a).2)) (so10 : ac0.eval (.tmp 10) = .int .i64 ((encodeV b).2)) {QR : Exit → Act → World → Prop} (hfin : ∀ (ac1 : Act) (wz : World), ac1.tmps.size = 96 → ac1.defers = ac0.defers → (∀ t, ([39, 40, 41, 42, 43, 44] : List Nat).contains t = false → ac1.eval (.tmp t) = ac0.eval (.tmp t)) → ac1.eval (.tmp 44) = .bool ((((encodeV a).2) != 0) || (((encodeV b).2) != 0)) →  Hid (Hp [] wa wz [rB b4 64 [.int .i64 b.seq, .int .i64 b.code, .int .i64 b.index, .int .i64 b.session, .int .u32 b.pass, .slice ta b.calls.length tc], rB b3 64 [.int .i64 a.seq, .int .i64 a.code, .int .i64 a.index, .int .i64 a.session, .int .u32 a.pass, .slice sa a.calls.length sc], rS ta tc 8 (b.calls.map callRow), rS sa sc 8 (a.calls.map callRow)]) → QR .normal ac1 wz) : (regAt Try.f10 7).wp Try.prog QR ac0 wb := by
  refine wp_region_sq (by kernel_rfl) 96 hz (by kernel_rfl) (fun (xx : Unit) jx => nth [.int .i64 ((encodeV a).2), .bool (((encodeV a).2) != 0), .bool (((encodeV a).2) != 0), bif !(((encodeV a).2) != 0) then .int .i64 ((encodeV b).2) else undef, bif !(((encodeV a).2) != 0) then .bool (((encodeV b).2) != 0) else undef, .bool ((((encodeV a).2) != 0) || (((encodeV b).2) != 0))] jx) (fun (LL : Nat → Bool) (xx : Unit) ww => Hp [] wa ww [rB b4 64 [.int .i64 b.seq, .int .i64 b.code, .int .i64 b.index, .int .i64 b.session, .int .u32 b.pass, .slice ta b.calls.length tc], rB b3 64 [.int .i64 a.seq, .int .i64 a.code, .int .i64 a.index, .int .i64 a.session, .int .u32 a.pass, .slice sa a.calls.length sc], rS ta tc 8 (b.calls.map callRow), rS sa sc 8 (a.calls.map callRow)]) () H.out ?_ (steps_al ?_) ?_ ?_
  · exact fun _ _ _ _ _ h => h
  · refine al_cons ?_ (al_cons ?_ (al_cons ?_ (al_cons ?_ (al_cons ?_ (al_cons ?_ (al_nil))))))
    · intro LL xx ac wc sg hst hwant QQ hgo
      exact op_val hwant hgo hst _ (exec_move rfl ((sg.free 8 (by kernel_rfl)).trans so8)) rfl
    · intro LL xx ac wc sg hst hwant QQ hgo
      have se39 : ac.eval (.tmp 39) = _ := (sg.slot 0 (sg.anc 0 rfl))
      have sg39 := gt_of se39
      (try simp only [nth] at se39 sg39)
      exact op_val hwant hgo hst _ (by simp only [execOp, nth]; go_simp <;> omega) rfl
    · intro LL xx ac wc sg hst hwant QQ hgo
      exact op_val hwant hgo hst _ (exec_move rfl (sg.slot 1 (sg.anc 1 rfl))) rfl
    · intro LL xx ac wc sg hst hwant QQ hgo
      have hG : (!(((encodeV a).2) != 0)) = true := (want_f rfl rfl (sg.slot 2 (sg.anc 2 rfl))).symm.trans hwant
      exact op_val hwant hgo hst _ (exec_move rfl ((sg.free 10 (by kernel_rfl)).trans so10)) (cI hG)
    · intro LL xx ac wc sg hst hwant QQ hgo
      have hG : (!(((encodeV a).2) != 0)) = true := (want_f rfl rfl (sg.slot 2 (sg.anc 2 rfl))).symm.trans hwant
      have se42 : ac.eval (.tmp 42) = _ := (cT (sg.slot 3 (sg.anc 3 rfl)) hG)
      have sg42 := gt_of se42
      (try simp only [nth] at se42 sg42)
      exact op_val hwant hgo hst _ (by simp only [execOp, nth]; go_simp <;> omega) (cI hG)
    · intro LL xx ac wc sg hst hwant QQ hgo
      exact op_val hwant hgo hst (.bool ((((encodeV a).2) != 0) || (((encodeV b).2) != 0))) (exec_or (Y := ((encodeV b).2) != 0) rfl (sg.slot 2 (sg.anc 2 rfl)) (fun qq => cT (sg.slot 4 (sg.anc 4 rfl)) (bk qq))) rfl
  · refine skips [3, 4] (by kernel_rfl) ?_
    refine List.forall_mem_cons.2 ⟨?_, List.forall_mem_cons.2 ⟨?_, fun _ h => by cases h⟩⟩
    · intro oo hop LL xx ac sg hwant
      cases Option.some.inj hop
      have hG : (!(((encodeV a).2) != 0)) = false := (want_f rfl rfl (sg.slot 2 (sg.anc 2 rfl))).symm.trans hwant
      exact ⟨cF hG, fun _ h => h⟩
    · intro oo hop LL xx ac sg hwant
      cases Option.some.inj hop
      have hG : (!(((encodeV a).2) != 0)) = false := (want_f rfl rfl (sg.slot 2 (sg.anc 2 rfl))).symm.trans hwant
      exact ⟨cF hG, fun _ h => h⟩
  · intro xx ac1 wz hfr hsl hst
    exact hfin ac1 wz (hfr.size.trans hz) hfr.defers (fr_keep hfr [39, 40, 41, 42, 43, 44] (by kernel_rfl)) (hsl 5 (by decide)) (Lib.hid hst)
set_option maxHeartbeats 4000000 in
set_option maxRecDepth 20000 in
theorem seqs_w_r11 (a : AnsV) (sa : Option Addr) (sc : Nat) (b : AnsV) (ta : Option Addr) (tc : Nat) (hpa : 0 ≤ a.pass ∧ a.pass ≤ 4294967295) (hpb : 0 ≤ b.pass ∧ b.pass ≤ 4294967295) (b3 : Nat) (b4 : Nat) (z1ld : ¬ (64 < (a.calls.length : Int))) (z1rd : ¬ (64 < (b.calls.length : Int))) (oa : ansOk a = true) (ob : ansOk b = true) (hpe : (((payloadV a).toList == (payloadV b).toList) == (eqA a (⟨a.seq, b.code, b.index, b.session, b.pass, b.calls⟩ : AnsV))) = true) (b11 : Nat) {wa wb : World} (H : Hid (Hp [] wa wb [rB b11 64 [.int .i64 a.seq, .int .i64 b.code, .int .i64 b.index, .int .i64 b.session, .int .u32 b.pass, .slice ta b.calls.length tc], rB b4 64 [.int .i64 b.seq, .int .i64 b.code, .int .i64 b.index, .int .i64 b.session, .int .u32 b.pass, .slice ta b.calls.length tc], rB b3 64 [.int .i64 a.seq, .int .i64 a.code, .int .i64 a.index, .int .i64 a.session, .int .u32 a.pass, .slice sa a.calls.length sc], rS ta tc 8 (b.calls.map callRow), rS sa sc 8 (a.calls.map callRow)])) (ac0 : Act) (hz : ac0.tmps.size = 96) (so3 : ac0.eval (.tmp 3) = .pointer (some ⟨b3, 0, none⟩)) (so4 : ac0.eval (.tmp 4) = .pointer (some ⟨b4, 0, none⟩)) (so11 : ac0.eval (.tmp 11) = .pointer (some ⟨b11, 0, none⟩)) {QR : Exit → Act → World → Prop} (hfin : ∀ (ac1 : Act) (wz : World), ac1.tmps.size = 96 → ac1.defers = ac0.defers → (∀ t, ([49, 50, 51, 52, 53, 54, 55, 56, 57] : List Nat).contains t = false → ac1.eval (.tmp t) = ac0.eval (.tmp t)) → ac1.eval (.tmp 57) = .bool false →  Hid (Hp [] wa wz [rB b11 64 [.int .i64 a.seq, .int .i64 b.code, .int .i64 b.index, .int .i64 b.session, .int .u32 b.pass, .slice ta b.calls.length tc], rB b4 64 [.int .i64 b.seq, .int .i64 b.code, .int .i64 b.index, .int .i64 b.session, .int .u32 b.pass, .slice ta b.calls.length tc], rB b3 64 [.int .i64 a.seq, .int .i64 a.code, .int .i64 a.index, .int .i64 a.session, .int .u32 a.pass, .slice sa a.calls.length sc], rS ta tc 8 (b.calls.map callRow), rS sa sc 8 (a.calls.map callRow)]) → QR .normal ac1 wz) : (regAt Try.f10 11).wp Try.prog QR ac0 wb := by
  refine wp_region_st mixedP ⟨[0, 1, 0, 2, 3, 0, 0, 3, 4], by kernel_rfl⟩ [[], [0], [], [0, 1, 2], [0, 1, 2, 3], [], [], [0, 1, 2, 3, 5, 6], [0, 1, 2, 3, 4, 5, 6, 7]] (by kernel_rfl) (by kernel_rfl) 96 hz (by kernel_rfl) (fun (xx : Unit) jx => nth [.agg #[.int .i64 a.seq, .int .i64 a.code, .int .i64 a.index, .int .i64 a.session, .int .u32 a.pass, .slice sa a.calls.length sc], .string (payloadV a), .agg #[.int .i64 b.seq, .int .i64 b.code, .int .i64 b.index, .int .i64 b.session, .int .u32 b.pass, .slice ta b.calls.length tc], .string (payloadV b), .bool ((payloadV a).toList == (payloadV b).toList), .agg #[.int .i64 a.seq, .int .i64 a.code, .int .i64 a.index, .int .i64 a.session, .int .u32 a.pass, .slice sa a.calls.length sc], .agg #[.int .i64 a.seq, .int .i64 b.code, .int .i64 b.index, .int .i64 b.session, .int .u32 b.pass, .slice ta b.calls.length tc], .bool (eqA a (⟨a.seq, b.code, b.index, b.session, b.pass, b.calls⟩ : AnsV)), .bool false] jx) (fun (LL : Nat → Bool) (xx : Unit) ww => Hp [] wa ww [rB b11 64 [.int .i64 a.seq, .int .i64 b.code, .int .i64 b.index, .int .i64 b.session, .int .u32 b.pass, .slice ta b.calls.length tc], rB b4 64 [.int .i64 b.seq, .int .i64 b.code, .int .i64 b.index, .int .i64 b.session, .int .u32 b.pass, .slice ta b.calls.length tc], rB b3 64 [.int .i64 a.seq, .int .i64 a.code, .int .i64 a.index, .int .i64 a.session, .int .u32 a.pass, .slice sa a.calls.length sc], rS ta tc 8 (b.calls.map callRow), rS sa sc 8 (a.calls.map callRow)]) () H.out.drew ?_ (steps_al ?_) ?_ ?_
  · exact fun _ _ _ _ _ h => h
  · refine al_cons ?_ (al_cons ?_ (al_cons ?_ (al_cons ?_ (al_cons ?_ (al_cons ?_ (al_cons ?_ (al_cons ?_ (al_cons ?_ (al_nil)))))))))
    · intro LL xx ac wc sg hst hwant QQ hgo
      have H := Lib.hid hst
      refine hpA_load tynote_Answer H rfl ((sg.free 3 (by kernel_rfl)).trans so3) hwant (by (repeat (first | exact List.Mem.head _ | apply List.Mem.tail))) (by rfl) rfl ?_
      exact hgo _ () _ (fun _ _ => rfl) rfl hst
    · intro LL xx ac wc sg hst hwant QQ hgo
      have se49 : ac.eval (.tmp 49) = _ := (sg.slot 0 (sg.anc 0 rfl))
      have sg49 := gt_of se49
      (try simp only [nth] at se49 sg49)
      have H := Lib.hid hst
      refine op_call hwant hgo 32 _ (by simp only [execOp]; go_simp) (payloadC a sa sc wc (hp_held H (by (repeat (first | exact List.Mem.head _ | apply List.Mem.tail)))) hpa) ?_
      rintro er wd ⟨rfl, hof⟩
      exact ⟨_, (), rfl, fun _ _ => rfl, rfl, Hp.quiet hst hof⟩
    · intro LL xx ac wc sg hst hwant QQ hgo
      have H := Lib.hid hst
      refine hpA_load tynote_Answer H rfl ((sg.free 4 (by kernel_rfl)).trans so4) hwant (by (repeat (first | exact List.Mem.head _ | apply List.Mem.tail))) (by rfl) rfl ?_
      exact hgo _ () _ (fun _ _ => rfl) rfl hst
    · intro LL xx ac wc sg hst hwant QQ hgo
      have se51 : ac.eval (.tmp 51) = _ := (sg.slot 2 (sg.anc 2 rfl))
      have sg51 := gt_of se51
      (try simp only [nth] at se51 sg51)
      have H := Lib.hid hst
      refine op_call hwant hgo 32 _ (by simp only [execOp]; go_simp) (payloadC b ta tc wc (hp_held H (by (repeat (first | exact List.Mem.head _ | apply List.Mem.tail)))) hpb) ?_
      rintro er wd ⟨rfl, hof⟩
      exact ⟨_, (), rfl, fun _ _ => rfl, rfl, Hp.quiet hst hof⟩
    · intro LL xx ac wc sg hst hwant QQ hgo
      have se50 : ac.eval (.tmp 50) = _ := (sg.slot 1 (sg.anc 1 rfl))
      have sg50 := gt_of se50
      have se52 : ac.eval (.tmp 52) = _ := (sg.slot 3 (sg.anc 3 rfl))
      have sg52 := gt_of se52
      (try simp only [nth] at se50 sg50 se52 sg52)
      exact op_val hwant hgo hst _ (by simp only [execOp, nth]; go_simp <;> omega) rfl
    · intro LL xx ac wc sg hst hwant QQ hgo
      have H := Lib.hid hst
      refine hpA_load tynote_Answer H rfl ((sg.free 3 (by kernel_rfl)).trans so3) hwant (by (repeat (first | exact List.Mem.head _ | apply List.Mem.tail))) (by rfl) rfl ?_
      exact hgo _ () _ (fun _ _ => rfl) rfl hst
    · intro LL xx ac wc sg hst hwant QQ hgo
      have H := Lib.hid hst
      refine hpA_load tynote_Answer H rfl ((sg.free 11 (by kernel_rfl)).trans so11) hwant (by (repeat (first | exact List.Mem.head _ | apply List.Mem.tail))) (by rfl) rfl ?_
      exact hgo _ () _ (fun _ _ => rfl) rfl hst
    · intro LL xx ac wc sg hst hwant QQ hgo
      have se54 : ac.eval (.tmp 54) = _ := (sg.slot 5 (sg.anc 5 rfl))
      have sg54 := gt_of se54
      have se55 : ac.eval (.tmp 55) = _ := (sg.slot 6 (sg.anc 6 rfl))
      have sg55 := gt_of se55
      (try simp only [nth] at se54 sg54 se55 sg55)
      have H := Lib.hid hst
      refine op_call hwant hgo 35 #[.agg #[.int .i64 a.seq, .int .i64 a.code, .int .i64 a.index, .int .i64 a.session, .int .u32 a.pass, .slice sa a.calls.length sc], .agg #[.int .i64 a.seq, .int .i64 b.code, .int .i64 b.index, .int .i64 b.session, .int .u32 b.pass, .slice ta b.calls.length tc]] (by simp only [execOp]; go_simp) (eqlC a sa sc (⟨a.seq, b.code, b.index, b.session, b.pass, b.calls⟩ : AnsV) ta tc wc (hp_held H (by (repeat (first | exact List.Mem.head _ | apply List.Mem.tail)))) (hp_held H (by (repeat (first | exact List.Mem.head _ | apply List.Mem.tail)))) (by show a.calls.length ≤ 1000000; omega) (by show b.calls.length ≤ 1000000; omega)) ?_
      rintro er wd ⟨rfl, hof⟩
      exact ⟨_, (), rfl, fun _ _ => rfl, rfl, Hp.quiet hst hof⟩
    · intro LL xx ac wc sg hst hwant QQ hgo
      exact op_val hwant hgo hst (.bool false) (exec_bne (c := true) rfl (sg.slot 4 (sg.anc 4 rfl)) (sg.slot 7 (sg.anc 7 rfl)) Try.underlying4 hpe) rfl
  · exact skips [] (by kernel_rfl) (fun _ h => by cases h)
  · intro xx ac1 wz hfr hsl hst
    exact hfin ac1 wz (hfr.size.trans hz) hfr.defers (fr_keep hfr [49, 50, 51, 52, 53, 54, 55, 56, 57] (by kernel_rfl)) (hsl 8 (by decide)) (Lib.hid hst)
set_option maxHeartbeats 4000000 in
set_option maxRecDepth 20000 in
theorem seqs_w_r14 (a : AnsV) (sa : Option Addr) (sc : Nat) (b : AnsV) (ta : Option Addr) (tc : Nat) (n : Int) (hpa : 0 ≤ a.pass ∧ a.pass ≤ 4294967295) (hpb : 0 ≤ b.pass ∧ b.pass ≤ 4294967295) (b3 : Nat) (b4 : Nat) (z1ld : ¬ (64 < (a.calls.length : Int))) (z1rd : ¬ (64 < (b.calls.length : Int))) (oa : ansOk a = true) (ob : ansOk b = true) (hpe : (((payloadV a).toList == (payloadV b).toList) == (eqA a (⟨a.seq, b.code, b.index, b.session, b.pass, b.calls⟩ : AnsV))) = true) (b11 : Nat) {wa wb : World} (H : Hid (Hp [] wa wb [rB b11 64 [.int .i64 a.seq, .int .i64 b.code, .int .i64 b.index, .int .i64 b.session, .int .u32 b.pass, .slice ta b.calls.length tc], rB b4 64 [.int .i64 b.seq, .int .i64 b.code, .int .i64 b.index, .int .i64 b.session, .int .u32 b.pass, .slice ta b.calls.length tc], rB b3 64 [.int .i64 a.seq, .int .i64 a.code, .int .i64 a.index, .int .i64 a.session, .int .u32 a.pass, .slice sa a.calls.length sc], rS ta tc 8 (b.calls.map callRow), rS sa sc 8 (a.calls.map callRow)])) (ac0 : Act) (hz : ac0.tmps.size = 96) (so2 : ac0.eval (.tmp 2) = .int .i64 n) {QR : Exit → Act → World → Prop} (hfin : ∀ (ac1 : Act) (wz : World), ac1.tmps.size = 96 → ac1.defers = ac0.defers → (∀ t, ([65, 66, 67, 68, 69, 70] : List Nat).contains t = false → ac1.eval (.tmp t) = ac0.eval (.tmp t)) → ac1.eval (.tmp 70) = .bool ((decide (n < 0)) || (decide (1073741824 < n))) →  Hid (Hp [] wa wz [rB b11 64 [.int .i64 a.seq, .int .i64 b.code, .int .i64 b.index, .int .i64 b.session, .int .u32 b.pass, .slice ta b.calls.length tc], rB b4 64 [.int .i64 b.seq, .int .i64 b.code, .int .i64 b.index, .int .i64 b.session, .int .u32 b.pass, .slice ta b.calls.length tc], rB b3 64 [.int .i64 a.seq, .int .i64 a.code, .int .i64 a.index, .int .i64 a.session, .int .u32 a.pass, .slice sa a.calls.length sc], rS ta tc 8 (b.calls.map callRow), rS sa sc 8 (a.calls.map callRow)]) → QR .normal ac1 wz) : (regAt Try.f10 14).wp Try.prog QR ac0 wb := by
  refine wp_region_sq (by kernel_rfl) 96 hz (by kernel_rfl) (fun (xx : Unit) jx => nth [.int .i64 n, .bool (decide (n < 0)), .bool (decide (n < 0)), bif !(decide (n < 0)) then .int .i64 n else undef, bif !(decide (n < 0)) then .bool (decide (1073741824 < n)) else undef, .bool ((decide (n < 0)) || (decide (1073741824 < n)))] jx) (fun (LL : Nat → Bool) (xx : Unit) ww => Hp [] wa ww [rB b11 64 [.int .i64 a.seq, .int .i64 b.code, .int .i64 b.index, .int .i64 b.session, .int .u32 b.pass, .slice ta b.calls.length tc], rB b4 64 [.int .i64 b.seq, .int .i64 b.code, .int .i64 b.index, .int .i64 b.session, .int .u32 b.pass, .slice ta b.calls.length tc], rB b3 64 [.int .i64 a.seq, .int .i64 a.code, .int .i64 a.index, .int .i64 a.session, .int .u32 a.pass, .slice sa a.calls.length sc], rS ta tc 8 (b.calls.map callRow), rS sa sc 8 (a.calls.map callRow)]) () H.out ?_ (steps_al ?_) ?_ ?_
  · exact fun _ _ _ _ _ h => h
  · refine al_cons ?_ (al_cons ?_ (al_cons ?_ (al_cons ?_ (al_cons ?_ (al_cons ?_ (al_nil))))))
    · intro LL xx ac wc sg hst hwant QQ hgo
      exact op_val hwant hgo hst _ (exec_move rfl ((sg.free 2 (by kernel_rfl)).trans so2)) rfl
    · intro LL xx ac wc sg hst hwant QQ hgo
      have se65 : ac.eval (.tmp 65) = _ := (sg.slot 0 (sg.anc 0 rfl))
      have sg65 := gt_of se65
      (try simp only [nth] at se65 sg65)
      exact op_val hwant hgo hst _ (by simp only [execOp, nth]; go_simp <;> omega) rfl
    · intro LL xx ac wc sg hst hwant QQ hgo
      exact op_val hwant hgo hst _ (exec_move rfl (sg.slot 1 (sg.anc 1 rfl))) rfl
    · intro LL xx ac wc sg hst hwant QQ hgo
      have hG : (!(decide (n < 0))) = true := (want_f rfl rfl (sg.slot 2 (sg.anc 2 rfl))).symm.trans hwant
      exact op_val hwant hgo hst _ (exec_move rfl ((sg.free 2 (by kernel_rfl)).trans so2)) (cI hG)
    · intro LL xx ac wc sg hst hwant QQ hgo
      have hG : (!(decide (n < 0))) = true := (want_f rfl rfl (sg.slot 2 (sg.anc 2 rfl))).symm.trans hwant
      have se68 : ac.eval (.tmp 68) = _ := (cT (sg.slot 3 (sg.anc 3 rfl)) hG)
      have sg68 := gt_of se68
      (try simp only [nth] at se68 sg68)
      exact op_val hwant hgo hst _ (by simp only [execOp, nth]; go_simp <;> omega) (cI hG)
    · intro LL xx ac wc sg hst hwant QQ hgo
      exact op_val hwant hgo hst (.bool ((decide (n < 0)) || (decide (1073741824 < n)))) (exec_or (Y := decide (1073741824 < n)) rfl (sg.slot 2 (sg.anc 2 rfl)) (fun qq => cT (sg.slot 4 (sg.anc 4 rfl)) (bk qq))) rfl
  · refine skips [3, 4] (by kernel_rfl) ?_
    refine List.forall_mem_cons.2 ⟨?_, List.forall_mem_cons.2 ⟨?_, fun _ h => by cases h⟩⟩
    · intro oo hop LL xx ac sg hwant
      cases Option.some.inj hop
      have hG : (!(decide (n < 0))) = false := (want_f rfl rfl (sg.slot 2 (sg.anc 2 rfl))).symm.trans hwant
      exact ⟨cF hG, fun _ h => h⟩
    · intro oo hop LL xx ac sg hwant
      cases Option.some.inj hop
      have hG : (!(decide (n < 0))) = false := (want_f rfl rfl (sg.slot 2 (sg.anc 2 rfl))).symm.trans hwant
      exact ⟨cF hG, fun _ h => h⟩
  · intro xx ac1 wz hfr hsl hst
    exact hfin ac1 wz (hfr.size.trans hz) hfr.defers (fr_keep hfr [65, 66, 67, 68, 69, 70] (by kernel_rfl)) (hsl 5 (by decide)) (Lib.hid hst)
set_option maxHeartbeats 16000000 in
set_option maxRecDepth 20000 in
theorem seqs_w (a : AnsV) (sa : Option Addr) (sc : Nat) (b : AnsV) (ta : Option Addr) (tc : Nat) (n : Int) (w : World) (h1 : (rS sa sc 8 (a.calls.map callRow)).holds w) (h2 : (rS ta tc 8 (b.calls.map callRow)).holds w) (hpa : 0 ≤ a.pass ∧ a.pass ≤ 4294967295) (hpb : 0 ≤ b.pass ∧ b.pass ≤ 4294967295) : Calls Try.prog 10 #[.agg #[.int .i64 a.seq, .int .i64 a.code, .int .i64 a.index, .int .i64 a.session, .int .u32 a.pass, .slice sa a.calls.length sc], .agg #[.int .i64 b.seq, .int .i64 b.code, .int .i64 b.index, .int .i64 b.session, .int .u32 b.pass, .slice ta b.calls.length tc], .int .i64 n] w fun e w' => e = .returned (.bool true) ∧ Off [] w w' := by
 have H := Lib.hid (Hp.start [] w)
 have H := hp_old H h1 (by decide)
 have H := hp_old H h2 (by decide)
 clear h1 h2
 refine wStart (args := [.agg #[.int .i64 a.seq, .int .i64 a.code, .int .i64 a.index, .int .i64 a.session, .int .u32 a.pass, .slice sa a.calls.length sc], .agg #[.int .i64 b.seq, .int .i64 b.code, .int .i64 b.index, .int .i64 b.session, .int .u32 b.pass, .slice ta b.calls.length tc], .int .i64 n]) Try.func10 rfl rfl rfl H ?_
 clear H
 show Wk 96 _ _ [(0, .agg #[.int .i64 a.seq, .int .i64 a.code, .int .i64 a.index, .int .i64 a.session, .int .u32 a.pass, .slice sa a.calls.length sc]), (1, .agg #[.int .i64 b.seq, .int .i64 b.code, .int .i64 b.index, .int .i64 b.session, .int .u32 b.pass, .slice ta b.calls.length tc]), (2, .int .i64 n)] _ _
 refine wSeqK fun KK1 hK1 => ?_
 refine wReg ?_
 refine wBx rfl rfl rfl fun b3 => ?_
 refine wBx rfl rfl rfl fun b4 => ?_
 refine p_seqs_w rfl ?_
 refine wN ?_
 refine tN (wKK hK1 ?_)
 refine wSeqK fun KK2 hK2 => ?_
 refine wSeqK fun KK3 hK3 => ?_
 refine wReg ?_
 refine wQ (l := []) Try.func18 rfl (by kernel_rfl) (.bool true) (fun wc H => awake15 wc) rfl rfl rfl rfl ?_
 refine p_seqs_w rfl ?_
 refine wN ?_
 refine tN (wKK hK3 ?_)
 refine wCf rfl ?_
 refine wSk ?_
 refine tN (wKK hK2 ?_)
 refine wSeqK fun KK4 hK4 => ?_
 refine wSeqK fun KK5 hK5 => ?_
 intro aa ww nn dd hs H
 refine seqs_w_r3 a sa sc b ta tc hpa hpb b3 b4 H aa nn (hs 3 _ rfl) (hs 4 _ rfl) ?_
 intro ab wv nn2 dd2 kp o28 H2
 refine wIn nn2 (dd2.trans dd) (Sat.cons (Sat.cons (Sat.cons (Sat.cons (Sat.cons (Sat.cons (Sat.cons (Sat.cons (sat_nil ab) ((kp 18 rfl).trans (hs 18 _ rfl))) ((kp 6 rfl).trans (hs 6 _ rfl))) ((kp 4 rfl).trans (hs 4 _ rfl))) ((kp 3 rfl).trans (hs 3 _ rfl))) ((kp 2 rfl).trans (hs 2 _ rfl))) ((kp 1 rfl).trans (hs 1 _ rfl))) ((kp 0 rfl).trans (hs 0 _ rfl))) o28) H2 ?_
 clear hs H kp H2 dd dd2 nn nn2 o28
 refine tN (wKK hK5 ?_)
 refine wCond (E := (decide (64 < (a.calls.length : Int))) || (decide (64 < (b.calls.length : Int)))) rfl (fun z1 => ?_) (fun z1 => ?_)
 · skip
   refine wSeqK fun KK6 hK6 => ?_
   refine wReg ?_
   refine p_seqs_w rfl ?_
   refine wN ?_
   refine tN (wKK hK6 ?_)
   refine wRet ?_
   refine tR ?_
   exact wR1 rfl rfl (fun ww H => ⟨rfl, H.out.off⟩)
 · skip
   have z1l : (decide (64 < (a.calls.length : Int))) = false := Reg.ol z1
   have z1ld : ¬ (64 < (a.calls.length : Int)) := of_decide_eq_false z1l
   have z1r : (decide (64 < (b.calls.length : Int))) = false := Reg.orr z1
   have z1rd : ¬ (64 < (b.calls.length : Int)) := of_decide_eq_false z1r
   refine wSk ?_
   refine tN (wKK hK4 ?_)
   refine wSeqK fun KK7 hK7 => ?_
   refine wReg ?_
   refine wLr rfl tynote_Answer 1 rfl [.int .i64 a.seq, .int .i64 a.code, .int .i64 a.index, .int .i64 a.session, .int .u32 a.pass, .slice sa a.calls.length sc] rfl rfl ?_
   refine wQ (l := [.agg #[.int .i64 a.seq, .int .i64 a.code, .int .i64 a.index, .int .i64 a.session, .int .u32 a.pass, .slice sa a.calls.length sc]]) Try.func30 rfl (by kernel_rfl) (.tuple #[.string ((encodeV a).1), .int .i64 ((encodeV a).2)]) (fun wc H => encodeC a sa sc wc (hp_held H (by (repeat (first | exact List.Mem.head _ | apply List.Mem.tail)))) hpa) rfl rfl rfl rfl ?_
   iterate 5 refine p_seqs_w rfl ?_
   refine wN ?_
   refine tN (wKK hK7 ?_)
   refine wSeqK fun KK8 hK8 => ?_
   refine wReg ?_
   refine wLr rfl tynote_Answer 0 rfl [.int .i64 b.seq, .int .i64 b.code, .int .i64 b.index, .int .i64 b.session, .int .u32 b.pass, .slice ta b.calls.length tc] rfl rfl ?_
   refine wQ (l := [.agg #[.int .i64 b.seq, .int .i64 b.code, .int .i64 b.index, .int .i64 b.session, .int .u32 b.pass, .slice ta b.calls.length tc]]) Try.func30 rfl (by kernel_rfl) (.tuple #[.string ((encodeV b).1), .int .i64 ((encodeV b).2)]) (fun wc H => encodeC b ta tc wc (hp_held H (by (repeat (first | exact List.Mem.head _ | apply List.Mem.tail)))) hpb) rfl rfl rfl rfl ?_
   iterate 5 refine p_seqs_w rfl ?_
   refine wN ?_
   refine tN (wKK hK8 ?_)
   refine wSeqK fun KK9 hK9 => ?_
   refine wSeqK fun KK10 hK10 => ?_
   intro aa ww nn dd hs H
   refine seqs_w_r7 a sa sc b ta tc hpa hpb b3 b4 z1ld z1rd H aa nn (hs 8 _ rfl) (hs 10 _ rfl) ?_
   intro ab wv nn2 dd2 kp o44 H2
   refine wIn nn2 (dd2.trans dd) (Sat.cons (Sat.cons (Sat.cons (Sat.cons (Sat.cons (Sat.cons (Sat.cons (Sat.cons (Sat.cons (Sat.cons (Sat.cons (sat_nil ab) ((kp 28 rfl).trans (hs 28 _ rfl))) ((kp 18 rfl).trans (hs 18 _ rfl))) ((kp 10 rfl).trans (hs 10 _ rfl))) ((kp 8 rfl).trans (hs 8 _ rfl))) ((kp 6 rfl).trans (hs 6 _ rfl))) ((kp 4 rfl).trans (hs 4 _ rfl))) ((kp 3 rfl).trans (hs 3 _ rfl))) ((kp 2 rfl).trans (hs 2 _ rfl))) ((kp 1 rfl).trans (hs 1 _ rfl))) ((kp 0 rfl).trans (hs 0 _ rfl))) o44) H2 ?_
   clear hs H kp H2 dd dd2 nn nn2 o44
   refine tN (wKK hK10 ?_)
   refine wCond (E := (((encodeV a).2) != 0) || (((encodeV b).2) != 0)) rfl (fun z2 => ?_) (fun z2 => ?_)
   · skip
     refine wSeqK fun KK11 hK11 => ?_
     refine wReg ?_
     refine p_seqs_w rfl ?_
     refine wN ?_
     refine tN (wKK hK11 ?_)
     refine wRet ?_
     refine tR ?_
     exact wR1 rfl rfl (fun ww H => ⟨rfl, H.out.off⟩)
   · skip
     have z2l : (((encodeV a).2) != 0) = false := Reg.ol z2
     have z2lo : (((encodeV a).2) == 0) = true := neq_f z2l
     have z2r : (((encodeV b).2) != 0) = false := Reg.orr z2
     have z2ro : (((encodeV b).2) == 0) = true := neq_f z2r
     intro aa ww nn dd hs H
     have oa := enc_ok (Reg.ol z2)
     have ob := enc_ok (Reg.orr z2)
     have hpe : (((payloadV a).toList == (payloadV b).toList) == (eqA a (⟨a.seq, b.code, b.index, b.session, b.pass, b.calls⟩ : AnsV))) = true := seqs_pay oa hpa ob hpb
     refine wIn nn dd hs H ?_
     refine wSk ?_
     refine tN (wKK hK9 ?_)
     refine wSeqK fun KK12 hK12 => ?_
     refine wReg ?_
     refine wLr rfl tynote_Answer 0 rfl [.int .i64 b.seq, .int .i64 b.code, .int .i64 b.index, .int .i64 b.session, .int .u32 b.pass, .slice ta b.calls.length tc] rfl rfl ?_
     refine wAl rfl rfl tynote_Answer fun b11 => ?_
     refine wSr rfl tynote_Answer 0 rfl rfl rfl rfl [.int .i64 b.seq, .int .i64 b.code, .int .i64 b.index, .int .i64 b.session, .int .u32 b.pass, .slice ta b.calls.length tc] (by first | rfl | (simp only [spl]; rfl)) ?_
     refine wN ?_
     refine tN (wKK hK12 ?_)
     refine wSeqK fun KK13 hK13 => ?_
     refine wReg ?_
     refine p_seqs_w rfl ?_
     refine wLd rfl tyint 2 rfl rfl ?_
     refine p_seqs_w rfl ?_
     refine wSt rfl tyint 0 rfl rfl rfl rfl ?_
     refine wN ?_
     refine tN (wKK hK13 ?_)
     refine wSeqK fun KK14 hK14 => ?_
     refine wSeqK fun KK15 hK15 => ?_
     intro aa ww nn dd hs H
     refine seqs_w_r11 a sa sc b ta tc hpa hpb b3 b4 z1ld z1rd oa ob hpe b11 H aa nn (hs 3 _ rfl) (hs 4 _ rfl) (hs 11 _ rfl) ?_
     intro ab wv nn2 dd2 kp o57 H2
     refine wIn nn2 (dd2.trans dd) (Sat.cons (Sat.cons (Sat.cons (Sat.cons (Sat.cons (Sat.cons (Sat.cons (Sat.cons (Sat.cons (Sat.cons (Sat.cons (Sat.cons (Sat.cons (sat_nil ab) ((kp 44 rfl).trans (hs 44 _ rfl))) ((kp 28 rfl).trans (hs 28 _ rfl))) ((kp 18 rfl).trans (hs 18 _ rfl))) ((kp 11 rfl).trans (hs 11 _ rfl))) ((kp 10 rfl).trans (hs 10 _ rfl))) ((kp 8 rfl).trans (hs 8 _ rfl))) ((kp 6 rfl).trans (hs 6 _ rfl))) ((kp 4 rfl).trans (hs 4 _ rfl))) ((kp 3 rfl).trans (hs 3 _ rfl))) ((kp 2 rfl).trans (hs 2 _ rfl))) ((kp 1 rfl).trans (hs 1 _ rfl))) ((kp 0 rfl).trans (hs 0 _ rfl))) o57) H2 ?_
     clear hs H kp H2 dd dd2 nn nn2 o57
     refine tN (wKK hK15 ?_)
     refine wCf rfl ?_
     refine wSk ?_
     refine tN (wKK hK14 ?_)
     refine wSeqK fun KK16 hK16 => ?_
     refine wReg ?_
     refine p_seqs_w rfl ?_
     refine wLr rfl tynote_Answer 2 rfl [.int .i64 a.seq, .int .i64 a.code, .int .i64 a.index, .int .i64 a.session, .int .u32 a.pass, .slice sa a.calls.length sc] rfl rfl ?_
     refine wQ (l := [.agg #[.int .i64 a.seq, .int .i64 a.code, .int .i64 a.index, .int .i64 a.session, .int .u32 a.pass, .slice sa a.calls.length sc]]) Try.func32 rfl (by kernel_rfl) (.string (payloadV a)) (fun wc H => payloadC a sa sc wc (hp_held H (by (repeat (first | exact List.Mem.head _ | apply List.Mem.tail)))) hpa) rfl rfl rfl rfl ?_
     refine wQ (l := [.int .i64 n, .string (payloadV a)]) Try.func37 rfl (by kernel_rfl) (.tuple #[.string ((withV n (payloadV a)).1), .int .i64 ((withV n (payloadV a)).2)]) (fun wc H => withC n (payloadV a) wc (pay_size (by omega))) rfl rfl rfl rfl ?_
     iterate 5 refine p_seqs_w rfl ?_
     refine wN ?_
     refine tN (wKK hK16 ?_)
     refine wSeqK fun KK17 hK17 => ?_
     refine wSeqK fun KK18 hK18 => ?_
     intro aa ww nn dd hs H
     refine seqs_w_r14 a sa sc b ta tc n hpa hpb b3 b4 z1ld z1rd oa ob hpe b11 H aa nn (hs 2 _ rfl) ?_
     intro ab wv nn2 dd2 kp o70 H2
     refine wIn nn2 (dd2.trans dd) (Sat.cons (Sat.cons (Sat.cons (Sat.cons (Sat.cons (Sat.cons (Sat.cons (Sat.cons (Sat.cons (Sat.cons (Sat.cons (Sat.cons (Sat.cons (Sat.cons (Sat.cons (Sat.cons (sat_nil ab) ((kp 57 rfl).trans (hs 57 _ rfl))) ((kp 44 rfl).trans (hs 44 _ rfl))) ((kp 28 rfl).trans (hs 28 _ rfl))) ((kp 18 rfl).trans (hs 18 _ rfl))) ((kp 13 rfl).trans (hs 13 _ rfl))) ((kp 12 rfl).trans (hs 12 _ rfl))) ((kp 11 rfl).trans (hs 11 _ rfl))) ((kp 10 rfl).trans (hs 10 _ rfl))) ((kp 8 rfl).trans (hs 8 _ rfl))) ((kp 6 rfl).trans (hs 6 _ rfl))) ((kp 4 rfl).trans (hs 4 _ rfl))) ((kp 3 rfl).trans (hs 3 _ rfl))) ((kp 2 rfl).trans (hs 2 _ rfl))) ((kp 1 rfl).trans (hs 1 _ rfl))) ((kp 0 rfl).trans (hs 0 _ rfl))) o70) H2 ?_
     clear hs H kp H2 dd dd2 nn nn2 o70
     refine tN (wKK hK18 ?_)
     refine wCond (E := (decide (n < 0)) || (decide (1073741824 < n))) rfl (fun z3 => ?_) (fun z3 => ?_)
     · skip
       intro aa ww nn dd hs H
       have hw := seqs_no (p := payloadV a) z3
       have hw2 : ((withV n (payloadV a)).2 == 1) = true := by rw [hw]; rfl
       have hw1 : (((withV n (payloadV a)).1).toList.isEmpty) = true := by rw [hw, ByteArray.toList_eq]; rfl
       refine wIn nn dd hs H ?_
       refine wSeqK fun KK19 hK19 => ?_
       refine wReg ?_
       iterate 2 refine p_seqs_w rfl ?_
       refine wB 72 rfl hw2 ?_
       iterate 2 refine p_seqs_w rfl ?_
       refine wE (.bool true) rfl rfl rfl (fun aa ww hs _ => by exact exec_seq (c := true) rfl (hs _ _ rfl) (rfl) (by first | exact hw1 | (rw [ByteArray.toList_eq]; exact hw1) | (simpa [ByteArray.toList_eq] using hw1))) ?_
       iterate 2 refine p_seqs_w rfl ?_
       refine wN ?_
       refine tN (wKK hK19 ?_)
       refine wRet ?_
       refine tR ?_
       exact wR1 rfl rfl (fun ww H => ⟨rfl, H.out.off⟩)
     · skip
       have z3l : (decide (n < 0)) = false := Reg.ol z3
       have z3ld : ¬ (n < 0) := of_decide_eq_false z3l
       have z3r : (decide (1073741824 < n)) = false := Reg.orr z3
       have z3rd : ¬ (1073741824 < n) := of_decide_eq_false z3r
       intro aa ww nn dd hs H
       obtain ⟨hw, hdw⟩ := seqs_with oa hpa (of_decide_eq_false (Reg.ol z3)) (of_decide_eq_false (Reg.orr z3))
       have hw2 : (((withV n (payloadV a)).2) == 0) = true := by rw [hw]; rfl
       have hd2 : (((decodeV ((withV n (payloadV a)).1)).2) == 0) = true := by rw [hdw]; rfl
       have heq : (eqA ((decodeV ((withV n (payloadV a)).1)).1) (⟨n, a.code, a.index, a.session, a.pass, a.calls⟩ : AnsV)) = true := by rw [hdw]; exact (eqA_iff _ _).2 rfl
       have hdl : (decodeV (withV n (payloadV a)).1).1.calls.length ≤ 1000000 := by rw [hdw]; show a.calls.length ≤ _; omega
       refine wIn nn dd hs H ?_
       refine wSk ?_
       refine tN (wKK hK17 ?_)
       refine wSeqK fun KK20 hK20 => ?_
       refine wReg ?_
       refine p_seqs_w rfl ?_
       refine wC (l := [.string ((withV n (payloadV a)).1)]) Try.func33 rfl (by kernel_rfl) (fun wc H => decodeC ((withV n (payloadV a)).1) wc) rfl rfl rfl rfl ?_
       intro wc H
       rintro er wd ⟨a16_1, c16_1, rfl, hs1, hf1, hof⟩
       have H2 := hp_newS H hof hs1 hf1
       refine ⟨_, rfl, wkAt H2 ?_⟩
       clear H H2 hof
       iterate 3 refine p_seqs_w rfl ?_
       refine wAl rfl rfl tynote_Answer fun b14 => ?_
       refine wSr rfl tynote_Answer 0 rfl rfl rfl rfl [.int .i64 ((decodeV ((withV n (payloadV a)).1)).1.seq), .int .i64 ((decodeV ((withV n (payloadV a)).1)).1.code), .int .i64 ((decodeV ((withV n (payloadV a)).1)).1.index), .int .i64 ((decodeV ((withV n (payloadV a)).1)).1.session), .int .u32 ((decodeV ((withV n (payloadV a)).1)).1.pass), .slice a16_1 (((decodeV ((withV n (payloadV a)).1)).1).calls.length) c16_1] (by first | rfl | (simp only [spl]; rfl)) ?_
       refine p_seqs_w rfl ?_
       refine wN ?_
       refine tN (wKK hK20 ?_)
       refine wSeqK fun KK21 hK21 => ?_
       refine wReg ?_
       refine wLr rfl tynote_Answer 4 rfl [.int .i64 a.seq, .int .i64 a.code, .int .i64 a.index, .int .i64 a.session, .int .u32 a.pass, .slice sa a.calls.length sc] rfl rfl ?_
       refine wAl rfl rfl tynote_Answer fun b16 => ?_
       refine wSr rfl tynote_Answer 0 rfl rfl rfl rfl [.int .i64 a.seq, .int .i64 a.code, .int .i64 a.index, .int .i64 a.session, .int .u32 a.pass, .slice sa a.calls.length sc] (by first | rfl | (simp only [spl]; rfl)) ?_
       refine wN ?_
       refine tN (wKK hK21 ?_)
       refine wSeqK fun KK22 hK22 => ?_
       refine wReg ?_
       iterate 2 refine p_seqs_w rfl ?_
       refine wSt rfl tyint 0 rfl rfl rfl rfl ?_
       refine wN ?_
       refine tN (wKK hK22 ?_)
       refine wSeqK fun KK23 hK23 => ?_
       refine wReg ?_
       iterate 2 refine p_seqs_w rfl ?_
       refine wB 86 rfl hw2 ?_
       iterate 3 refine p_seqs_w rfl ?_
       refine wB 89 rfl hd2 ?_
       iterate 2 refine p_seqs_w rfl ?_
       refine wLr rfl tynote_Answer 1 rfl [.int .i64 ((decodeV ((withV n (payloadV a)).1)).1.seq), .int .i64 ((decodeV ((withV n (payloadV a)).1)).1.code), .int .i64 ((decodeV ((withV n (payloadV a)).1)).1.index), .int .i64 ((decodeV ((withV n (payloadV a)).1)).1.session), .int .u32 ((decodeV ((withV n (payloadV a)).1)).1.pass), .slice a16_1 (((decodeV ((withV n (payloadV a)).1)).1).calls.length) c16_1] rfl rfl ?_
       refine wLr rfl tynote_Answer 0 rfl [.int .i64 n, .int .i64 a.code, .int .i64 a.index, .int .i64 a.session, .int .u32 a.pass, .slice sa a.calls.length sc] rfl rfl ?_
       refine wQ (l := [.agg #[.int .i64 ((decodeV ((withV n (payloadV a)).1)).1.seq), .int .i64 ((decodeV ((withV n (payloadV a)).1)).1.code), .int .i64 ((decodeV ((withV n (payloadV a)).1)).1.index), .int .i64 ((decodeV ((withV n (payloadV a)).1)).1.session), .int .u32 ((decodeV ((withV n (payloadV a)).1)).1.pass), .slice a16_1 (((decodeV ((withV n (payloadV a)).1)).1).calls.length) c16_1], .agg #[.int .i64 n, .int .i64 a.code, .int .i64 a.index, .int .i64 a.session, .int .u32 a.pass, .slice sa a.calls.length sc]]) Try.func35 rfl (by kernel_rfl) (.bool true) (fun wc H => by have h := eqlC ((decodeV ((withV n (payloadV a)).1)).1) a16_1 c16_1 (⟨n, a.code, a.index, a.session, a.pass, a.calls⟩ : AnsV) sa sc wc (hp_held H (by (repeat (first | exact List.Mem.head _ | apply List.Mem.tail)))) (hp_held H (by (repeat (first | exact List.Mem.head _ | apply List.Mem.tail)))) hdl (by show a.calls.length ≤ 1000000; omega); rw [heq] at h; exact h) rfl rfl rfl rfl ?_
       iterate 2 refine p_seqs_w rfl ?_
       refine wN ?_
       refine tN (wKK hK23 ?_)
       refine wRet ?_
       exact wR1 rfl rfl (fun ww H => ⟨rfl, H.out.off⟩)
end Go.Proofs.Ytloemjhhedkhiaa.Nt
