/- What was encoded is decoded as it was: the walk. -/
import Derived.Test.YtloemjhhedkhiaaProg
import Derived.Below
import Derived.WalkKit
import Derived.KernelRfl
import Derived.RowKit3
import Derived.Deep.LoopGhost
import Derived.Deep.QuietTactic
import Derived.BigQuiet
import Derived.WideLaws
import Derived.Deep.DeepCutAuto
import Derived.Deep.CutBlock
import Derived.Lib.Hide
import Derived.Laws.BitsLemmas
import Derived.Laws.Bits64
import Derived.Laws.BitsAllLaws
import Derived.IntWalk
import Derived.Outline
import Derived.WalkSpells
import Derived.Test.YtloemjhhedkhiaaMem
import Derived.Test.YtloemjhhedkhiaaNk1
import Derived.Test.YtloemjhhedkhiaaLwNoteSeqs
namespace Go.Proofs.Ytloemjhhedkhiaa.Nt
open Go.RowKit Go.Proofs.Ytloemjhhedkhiaa.Mem Go.Proofs.Ytloemjhhedkhiaa.Pk Go.Proofs.Ytloemjhhedkhiaa.Reg Go.Proofs.Ytloemjhhedkhiaa.Wk
set_option linter.unusedVariables false
set_option linter.unusedSimpArgs false

theorem enc_yes2 {a : AnsV} (h : ansOk a = true) : encodeV a = (str (ansB a), 0) := by unfold encodeV; rw [h]; rfl
theorem enc_okE {a : AnsV} (h : ((encodeV a).2 == 0) = true) : ansOk a = true := enc_ok (by rw [bne, h]; rfl)
theorem enc_noE {a : AnsV} (h : ((encodeV a).2 == 0) = false) : ansOk a = false := by
  unfold encodeV at h
  cases ho : ansOk a with
  | false => rfl
  | true => rw [ho] at h; simp at h
theorem back_dec {a : AnsV} (ha : ansOk a = true) (hp : PassOk a) : decodeV (encodeV a).1 = (a, 0) := by rw [enc_yes2 ha]; exact decode_back ha hp
theorem back_with {a : AnsV} (ha : ansOk a = true) (hp : PassOk a) : withV a.seq (payloadV a) = ((encodeV a).1, 0) := by
  have c : cnt a.seq = true := by unfold ansOk at ha; simp only [Bool.and_eq_true] at ha; exact ha.1
  rw [with_back ha hp c, enc_yes2 ha]
theorem back_same {a b : AnsV} (ha : ansOk a = true) (hpa : PassOk a) (hb : ansOk b = true) (hpb : PassOk b) : (((encodeV a).1.toList == (encodeV b).1.toList) == eqA a b) = true := by
  rw [beq_iff_eq, Bool.eq_iff_iff, eqA_iff]
  constructor
  · intro h
    have h2 := list_beq h
    rw [enc_yes2 ha, enc_yes2 hb] at h2
    exact ans_inj ha hpa hb hpb (str_inj (ans_lt _) (ans_lt _) h2)
  · intro h
    rw [h]
    simp
theorem back_told {a : AnsV} (ha : ansOk a = true) : ((toldV (encodeV a).1).2 == 0) = false := by
  have := told_ans a
  rw [enc_yes2 ha]
  simpa using this
theorem enc_size5 {a : AnsV} (ha : ansOk a = true) : 5 ≤ (encodeV a).1.size := by
  rw [enc_yes2 ha]
  show 5 ≤ (str (ansB a)).size
  rw [str_size]
  unfold ansB
  rw [List.length_append, head_len]
  omega
theorem cut5 {a : AnsV} (ha : ansOk a = true) : (encodeV a).1.extract 5 (encodeV a).1.size = payloadV a := by
  rw [enc_yes2 ha, pay_of ha]
  exact str_extract_tail _ _ 5 (head_len _) _ rfl
theorem back_pay {a b : AnsV} (ha : ansOk a = true) (hb : ansOk b = true) : (((payloadV a).toList == (payloadV b).toList) == (((encodeV a).1.extract 5 (encodeV a).1.size).toList == ((encodeV b).1.extract 5 (encodeV b).1.size).toList)) = true := by
  rw [cut5 ha, cut5 hb]
  simp
theorem tell_okE {n : NoteV} (h : ((tellV n).2 != 0) = false) : ∃ l, tellL n = some l ∧ tellV n = (str l, 0) := tell_ok (by simpa using h)
theorem tell_same {n m : NoteV} (hn : ((tellV n).2 != 0) = false) (hm : ((tellV m).2 != 0) = false) : (((tellV n).1.toList == (tellV m).1.toList) == decide (n = m)) = true := by
  obtain ⟨l, h1, h2⟩ := tell_okE hn
  obtain ⟨k, h3, h4⟩ := tell_okE hm
  rw [beq_iff_eq, Bool.eq_iff_iff, decide_eq_true_eq]
  constructor
  · intro h
    have h5 := list_beq h
    rw [h2, h4] at h5
    have h6 : l = k := str_inj (tell_lt h1) (tell_lt h3) h5
    subst h6
    exact tell_inj h1 h3
  · intro h
    rw [h]
    simp
def tab_back_w : Wk.Tab := []
theorem p_back_w {ops : Array Oper} {rest : List Oper} {o : Oper} {w0 : World} {Q : Exit → Act → World → Prop} {S : List Nat} {R : List Res} {K K' : Wk.Env} {N : Nat} (h : Wk.stp tab_back_w N ops K o = some K') (n : Wk.Wk N S w0 K' R (wpList Try.prog ops Q rest)) : Wk.Wk N S w0 K R (wpList Try.prog ops Q (o :: rest)) := Wk.wP (T := tab_back_w) (by kernel_rfl) h n
set_option maxHeartbeats 8000000 in
set_option maxRecDepth 20000 in
theorem back_w_r3 (a : AnsV) (sa : Option Addr) (sc : Nat) (b : AnsV) (ta : Option Addr) (tc : Nat) (n : NoteV) (m : NoteV) (hpa : 0 ≤ a.pass ∧ a.pass ≤ 4294967295) (hpb : 0 ≤ b.pass ∧ b.pass ≤ 4294967295) (b4 : Nat) (b5 : Nat) (b6 : Nat) (b7 : Nat) {wa wb : World} (H : Hid (Hp [] wa wb [rB b7 50 [.int .i64 m.index, .int .i64 m.chg.index, .int .i64 m.chg.call.id, .int .i64 m.chg.call.kind, .int .i64 m.chg.call.src, .int .i64 m.chg.call.dst, .int .i64 m.chg.call.car, .int .i64 m.chg.call.state, .int .i64 m.chg.call.owner, .int .i64 m.chg.call.born, .int .i64 m.chg.car, .int .i64 m.chg.mode], rB b6 50 [.int .i64 n.index, .int .i64 n.chg.index, .int .i64 n.chg.call.id, .int .i64 n.chg.call.kind, .int .i64 n.chg.call.src, .int .i64 n.chg.call.dst, .int .i64 n.chg.call.car, .int .i64 n.chg.call.state, .int .i64 n.chg.call.owner, .int .i64 n.chg.call.born, .int .i64 n.chg.car, .int .i64 n.chg.mode], rB b5 64 [.int .i64 b.seq, .int .i64 b.code, .int .i64 b.index, .int .i64 b.session, .int .u32 b.pass, .slice ta b.calls.length tc], rB b4 64 [.int .i64 a.seq, .int .i64 a.code, .int .i64 a.index, .int .i64 a.session, .int .u32 a.pass, .slice sa a.calls.length sc], rS ta tc 8 (b.calls.map callRow), rS sa sc 8 (a.calls.map callRow)])) (ac0 : Act) (hz : ac0.tmps.size = 164) (so4 : ac0.eval (.tmp 4) = .pointer (some ⟨b4, 0, none⟩)) (so5 : ac0.eval (.tmp 5) = .pointer (some ⟨b5, 0, none⟩)) {QR : Exit → Act → World → Prop} (hfin : ∀ (ac1 : Act) (wz : World), ac1.tmps.size = 164 → ac1.defers = ac0.defers → (∀ t, ([29, 30, 31, 32, 33, 34, 35, 36, 37, 38] : List Nat).contains t = false → ac1.eval (.tmp t) = ac0.eval (.tmp t)) → ac1.eval (.tmp 38) = .bool ((decide (64 < (a.calls.length : Int))) || (decide (64 < (b.calls.length : Int)))) →  Hid (Hp [] wa wz [rB b7 50 [.int .i64 m.index, .int .i64 m.chg.index, .int .i64 m.chg.call.id, .int .i64 m.chg.call.kind, .int .i64 m.chg.call.src, .int .i64 m.chg.call.dst, .int .i64 m.chg.call.car, .int .i64 m.chg.call.state, .int .i64 m.chg.call.owner, .int .i64 m.chg.call.born, .int .i64 m.chg.car, .int .i64 m.chg.mode], rB b6 50 [.int .i64 n.index, .int .i64 n.chg.index, .int .i64 n.chg.call.id, .int .i64 n.chg.call.kind, .int .i64 n.chg.call.src, .int .i64 n.chg.call.dst, .int .i64 n.chg.call.car, .int .i64 n.chg.call.state, .int .i64 n.chg.call.owner, .int .i64 n.chg.call.born, .int .i64 n.chg.car, .int .i64 n.chg.mode], rB b5 64 [.int .i64 b.seq, .int .i64 b.code, .int .i64 b.index, .int .i64 b.session, .int .u32 b.pass, .slice ta b.calls.length tc], rB b4 64 [.int .i64 a.seq, .int .i64 a.code, .int .i64 a.index, .int .i64 a.session, .int .u32 a.pass, .slice sa a.calls.length sc], rS ta tc 8 (b.calls.map callRow), rS sa sc 8 (a.calls.map callRow)]) → QR .normal ac1 wz) : (regAt Try.f9 3).wp Try.prog QR ac0 wb := by
  refine wp_region_sq (by kernel_rfl) 164 hz (by kernel_rfl) (fun (xx : Unit) jx => nth [.pointer (some ⟨b4, 5, none⟩), .slice sa a.calls.length sc, .int .i64 a.calls.length, .bool (decide (64 < (a.calls.length : Int))), .bool (decide (64 < (a.calls.length : Int))), bif !(decide (64 < (a.calls.length : Int))) then .pointer (some ⟨b5, 5, none⟩) else undef, bif !(decide (64 < (a.calls.length : Int))) then .slice ta b.calls.length tc else undef, bif !(decide (64 < (a.calls.length : Int))) then .int .i64 b.calls.length else undef, bif !(decide (64 < (a.calls.length : Int))) then .bool (decide (64 < (b.calls.length : Int))) else undef, .bool ((decide (64 < (a.calls.length : Int))) || (decide (64 < (b.calls.length : Int))))] jx) (fun (LL : Nat → Bool) (xx : Unit) ww => Hp [] wa ww [rB b7 50 [.int .i64 m.index, .int .i64 m.chg.index, .int .i64 m.chg.call.id, .int .i64 m.chg.call.kind, .int .i64 m.chg.call.src, .int .i64 m.chg.call.dst, .int .i64 m.chg.call.car, .int .i64 m.chg.call.state, .int .i64 m.chg.call.owner, .int .i64 m.chg.call.born, .int .i64 m.chg.car, .int .i64 m.chg.mode], rB b6 50 [.int .i64 n.index, .int .i64 n.chg.index, .int .i64 n.chg.call.id, .int .i64 n.chg.call.kind, .int .i64 n.chg.call.src, .int .i64 n.chg.call.dst, .int .i64 n.chg.call.car, .int .i64 n.chg.call.state, .int .i64 n.chg.call.owner, .int .i64 n.chg.call.born, .int .i64 n.chg.car, .int .i64 n.chg.mode], rB b5 64 [.int .i64 b.seq, .int .i64 b.code, .int .i64 b.index, .int .i64 b.session, .int .u32 b.pass, .slice ta b.calls.length tc], rB b4 64 [.int .i64 a.seq, .int .i64 a.code, .int .i64 a.index, .int .i64 a.session, .int .u32 a.pass, .slice sa a.calls.length sc], rS ta tc 8 (b.calls.map callRow), rS sa sc 8 (a.calls.map callRow)]) () H.out ?_ (steps_al ?_) ?_ ?_
  · exact fun _ _ _ _ _ h => h
  · refine al_cons ?_ (al_cons ?_ (al_cons ?_ (al_cons ?_ (al_cons ?_ (al_cons ?_ (al_cons ?_ (al_cons ?_ (al_cons ?_ (al_cons ?_ (al_nil))))))))))
    · intro LL xx ac wc sg hst hwant QQ hgo
      have se4 : ac.eval (.tmp 4) = _ := ((sg.free 4 (by kernel_rfl)).trans so4)
      have sg4 := gt_of se4
      exact op_val hwant hgo hst _ (by simp only [execOp, nth]; go_simp <;> omega) rfl
    · intro LL xx ac wc sg hst hwant QQ hgo
      have H := Lib.hid hst
      refine hpA_load1 tyS_api_Call H rfl (sg.slot 0 (sg.anc 0 rfl)) hwant (by (repeat (first | exact List.Mem.head _ | apply List.Mem.tail))) (by rfl) ?_
      exact hgo _ () _ (fun _ _ => rfl) rfl hst
    · intro LL xx ac wc sg hst hwant QQ hgo
      have se30 : ac.eval (.tmp 30) = _ := (sg.slot 1 (sg.anc 1 rfl))
      have sg30 := gt_of se30
      (try simp only [nth] at se30 sg30)
      exact op_val hwant hgo hst _ (by simp only [execOp, nth]; go_simp <;> omega) rfl
    · intro LL xx ac wc sg hst hwant QQ hgo
      have se31 : ac.eval (.tmp 31) = _ := (sg.slot 2 (sg.anc 2 rfl))
      have sg31 := gt_of se31
      (try simp only [nth] at se31 sg31)
      exact op_val hwant hgo hst _ (by simp only [execOp, nth]; go_simp <;> omega) rfl
    · intro LL xx ac wc sg hst hwant QQ hgo
      exact op_val hwant hgo hst _ (exec_move rfl (sg.slot 3 (sg.anc 3 rfl))) rfl
    · intro LL xx ac wc sg hst hwant QQ hgo
      have hG : (!(decide (64 < (a.calls.length : Int)))) = true := (want_f rfl rfl (sg.slot 4 (sg.anc 4 rfl))).symm.trans hwant
      have se5 : ac.eval (.tmp 5) = _ := ((sg.free 5 (by kernel_rfl)).trans so5)
      have sg5 := gt_of se5
      exact op_val hwant hgo hst _ (by simp only [execOp, nth]; go_simp <;> omega) (cI hG)
    · intro LL xx ac wc sg hst hwant QQ hgo
      have hG : (!(decide (64 < (a.calls.length : Int)))) = true := (want_f rfl rfl (sg.slot 4 (sg.anc 4 rfl))).symm.trans hwant
      have H := Lib.hid hst
      refine hpA_load1 tyS_api_Call H rfl (cT (sg.slot 5 (sg.anc 5 rfl)) hG) hwant (by (repeat (first | exact List.Mem.head _ | apply List.Mem.tail))) (by rfl) ?_
      exact hgo _ () _ (fun _ _ => rfl) (cI hG) hst
    · intro LL xx ac wc sg hst hwant QQ hgo
      have hG : (!(decide (64 < (a.calls.length : Int)))) = true := (want_f rfl rfl (sg.slot 4 (sg.anc 4 rfl))).symm.trans hwant
      have se35 : ac.eval (.tmp 35) = _ := (cT (sg.slot 6 (sg.anc 6 rfl)) hG)
      have sg35 := gt_of se35
      (try simp only [nth] at se35 sg35)
      exact op_val hwant hgo hst _ (by simp only [execOp, nth]; go_simp <;> omega) (cI hG)
    · intro LL xx ac wc sg hst hwant QQ hgo
      have hG : (!(decide (64 < (a.calls.length : Int)))) = true := (want_f rfl rfl (sg.slot 4 (sg.anc 4 rfl))).symm.trans hwant
      have se36 : ac.eval (.tmp 36) = _ := (cT (sg.slot 7 (sg.anc 7 rfl)) hG)
      have sg36 := gt_of se36
      (try simp only [nth] at se36 sg36)
      exact op_val hwant hgo hst _ (by simp only [execOp, nth]; go_simp <;> omega) (cI hG)
    · intro LL xx ac wc sg hst hwant QQ hgo
      exact op_val hwant hgo hst (.bool ((decide (64 < (a.calls.length : Int))) || (decide (64 < (b.calls.length : Int))))) (exec_or (Y := decide (64 < (b.calls.length : Int))) rfl (sg.slot 4 (sg.anc 4 rfl)) (fun qq => cT (sg.slot 8 (sg.anc 8 rfl)) (bk qq))) rfl
  · refine skips [5, 6, 7, 8] (by kernel_rfl) ?_
    refine List.forall_mem_cons.2 ⟨?_, List.forall_mem_cons.2 ⟨?_, List.forall_mem_cons.2 ⟨?_, List.forall_mem_cons.2 ⟨?_, fun _ h => by cases h⟩⟩⟩⟩
    · intro oo hop LL xx ac sg hwant
      cases Option.some.inj hop
      have hG : (!(decide (64 < (a.calls.length : Int)))) = false := (want_f rfl rfl (sg.slot 4 (sg.anc 4 rfl))).symm.trans hwant
      exact ⟨cF hG, fun _ h => h⟩
    · intro oo hop LL xx ac sg hwant
      cases Option.some.inj hop
      have hG : (!(decide (64 < (a.calls.length : Int)))) = false := (want_f rfl rfl (sg.slot 4 (sg.anc 4 rfl))).symm.trans hwant
      exact ⟨cF hG, fun _ h => h⟩
    · intro oo hop LL xx ac sg hwant
      cases Option.some.inj hop
      have hG : (!(decide (64 < (a.calls.length : Int)))) = false := (want_f rfl rfl (sg.slot 4 (sg.anc 4 rfl))).symm.trans hwant
      exact ⟨cF hG, fun _ h => h⟩
    · intro oo hop LL xx ac sg hwant
      cases Option.some.inj hop
      have hG : (!(decide (64 < (a.calls.length : Int)))) = false := (want_f rfl rfl (sg.slot 4 (sg.anc 4 rfl))).symm.trans hwant
      exact ⟨cF hG, fun _ h => h⟩
  · intro xx ac1 wz hfr hsl hst
    exact hfin ac1 wz (hfr.size.trans hz) hfr.defers (fr_keep hfr [29, 30, 31, 32, 33, 34, 35, 36, 37, 38] (by kernel_rfl)) (hsl 9 (by decide)) (Lib.hid hst)
set_option maxHeartbeats 8000000 in
set_option maxRecDepth 20000 in
theorem back_w_r9 (a : AnsV) (sa : Option Addr) (sc : Nat) (b : AnsV) (ta : Option Addr) (tc : Nat) (n : NoteV) (m : NoteV) (hpa : 0 ≤ a.pass ∧ a.pass ≤ 4294967295) (hpb : 0 ≤ b.pass ∧ b.pass ≤ 4294967295) (b4 : Nat) (b5 : Nat) (b6 : Nat) (b7 : Nat) (z1ld : ¬ (64 < (a.calls.length : Int))) (z1rd : ¬ (64 < (b.calls.length : Int))) (oa : ansOk a = true) (hd2 : (((decodeV ((encodeV a).1)).2) != 0) = false) (heq : (eqA ((decodeV ((encodeV a).1)).1) a) = true) (hw2 : (((withV a.seq (payloadV a)).2) != 0) = false) (hw1 : (((withV a.seq (payloadV a)).1).toList == (((encodeV a).1)).toList) = true) (ht2 : (((toldV ((encodeV a).1)).2) == 0) = false) (hdl : (decodeV ((encodeV a).1)).1.calls.length ≤ 1000000) (hs5 : 5 ≤ (encodeV a).1.size) (a8_1 : Option Addr) (c8_1 : Nat) (b13 : Nat) {wa wb : World} (H : Hid (Hp [] wa wb [rB b13 64 [.int .i64 ((decodeV ((encodeV a).1)).1.seq), .int .i64 ((decodeV ((encodeV a).1)).1.code), .int .i64 ((decodeV ((encodeV a).1)).1.index), .int .i64 ((decodeV ((encodeV a).1)).1.session), .int .u32 ((decodeV ((encodeV a).1)).1.pass), .slice a8_1 (((decodeV ((encodeV a).1)).1).calls.length) c8_1], rS a8_1 c8_1 8 ((decodeV ((encodeV a).1)).1.calls.map callRow), rB b7 50 [.int .i64 m.index, .int .i64 m.chg.index, .int .i64 m.chg.call.id, .int .i64 m.chg.call.kind, .int .i64 m.chg.call.src, .int .i64 m.chg.call.dst, .int .i64 m.chg.call.car, .int .i64 m.chg.call.state, .int .i64 m.chg.call.owner, .int .i64 m.chg.call.born, .int .i64 m.chg.car, .int .i64 m.chg.mode], rB b6 50 [.int .i64 n.index, .int .i64 n.chg.index, .int .i64 n.chg.call.id, .int .i64 n.chg.call.kind, .int .i64 n.chg.call.src, .int .i64 n.chg.call.dst, .int .i64 n.chg.call.car, .int .i64 n.chg.call.state, .int .i64 n.chg.call.owner, .int .i64 n.chg.call.born, .int .i64 n.chg.car, .int .i64 n.chg.mode], rB b5 64 [.int .i64 b.seq, .int .i64 b.code, .int .i64 b.index, .int .i64 b.session, .int .u32 b.pass, .slice ta b.calls.length tc], rB b4 64 [.int .i64 a.seq, .int .i64 a.code, .int .i64 a.index, .int .i64 a.session, .int .u32 a.pass, .slice sa a.calls.length sc], rS ta tc 8 (b.calls.map callRow), rS sa sc 8 (a.calls.map callRow)])) (ac0 : Act) (hz : ac0.tmps.size = 164) (so4 : ac0.eval (.tmp 4) = .pointer (some ⟨b4, 0, none⟩)) {QR : Exit → Act → World → Prop} (hfin : ∀ (ac1 : Act) (wz : World), ac1.tmps.size = 164 → ac1.defers = ac0.defers → (∀ t, ([15, 16, 56, 57, 58, 59, 60, 61, 62, 63] : List Nat).contains t = false → ac1.eval (.tmp t) = ac0.eval (.tmp t)) → ac1.eval (.tmp 15) = .string ((withV a.seq (payloadV a)).1) → ac1.eval (.tmp 16) = .int .i64 ((withV a.seq (payloadV a)).2) →  Hid (Hp [] wa wz [rB b13 64 [.int .i64 ((decodeV ((encodeV a).1)).1.seq), .int .i64 ((decodeV ((encodeV a).1)).1.code), .int .i64 ((decodeV ((encodeV a).1)).1.index), .int .i64 ((decodeV ((encodeV a).1)).1.session), .int .u32 ((decodeV ((encodeV a).1)).1.pass), .slice a8_1 (((decodeV ((encodeV a).1)).1).calls.length) c8_1], rS a8_1 c8_1 8 ((decodeV ((encodeV a).1)).1.calls.map callRow), rB b7 50 [.int .i64 m.index, .int .i64 m.chg.index, .int .i64 m.chg.call.id, .int .i64 m.chg.call.kind, .int .i64 m.chg.call.src, .int .i64 m.chg.call.dst, .int .i64 m.chg.call.car, .int .i64 m.chg.call.state, .int .i64 m.chg.call.owner, .int .i64 m.chg.call.born, .int .i64 m.chg.car, .int .i64 m.chg.mode], rB b6 50 [.int .i64 n.index, .int .i64 n.chg.index, .int .i64 n.chg.call.id, .int .i64 n.chg.call.kind, .int .i64 n.chg.call.src, .int .i64 n.chg.call.dst, .int .i64 n.chg.call.car, .int .i64 n.chg.call.state, .int .i64 n.chg.call.owner, .int .i64 n.chg.call.born, .int .i64 n.chg.car, .int .i64 n.chg.mode], rB b5 64 [.int .i64 b.seq, .int .i64 b.code, .int .i64 b.index, .int .i64 b.session, .int .u32 b.pass, .slice ta b.calls.length tc], rB b4 64 [.int .i64 a.seq, .int .i64 a.code, .int .i64 a.index, .int .i64 a.session, .int .u32 a.pass, .slice sa a.calls.length sc], rS ta tc 8 (b.calls.map callRow), rS sa sc 8 (a.calls.map callRow)]) → QR .normal ac1 wz) : (regAt Try.f9 9).wp Try.prog QR ac0 wb := by
  refine wp_region_st mixedP ⟨[0, 1, 0, 1, 2, 3, 4, 4, 5, 6], by kernel_rfl⟩ [[], [0], [], [2], [0, 1, 2, 3], [0, 1, 2, 3, 4], [0, 1, 2, 3, 4, 5], [0, 1, 2, 3, 4, 5], [0, 1, 2, 3, 4, 5, 6], [0, 1, 2, 3, 4, 5, 6, 7, 8]] (by kernel_rfl) (by kernel_rfl) 164 hz (by kernel_rfl) (fun (xx : Unit) jx => nth [.pointer (some ⟨b4, 0, none⟩), .int .i64 a.seq, .agg #[.int .i64 a.seq, .int .i64 a.code, .int .i64 a.index, .int .i64 a.session, .int .u32 a.pass, .slice sa a.calls.length sc], .string (payloadV a), .tuple #[.string ((withV a.seq (payloadV a)).1), .int .i64 ((withV a.seq (payloadV a)).2)], .tuple #[.string ((withV a.seq (payloadV a)).1), .int .i64 ((withV a.seq (payloadV a)).2)], .string ((withV a.seq (payloadV a)).1), .int .i64 ((withV a.seq (payloadV a)).2), .string ((withV a.seq (payloadV a)).1), .int .i64 ((withV a.seq (payloadV a)).2)] jx) (fun (LL : Nat → Bool) (xx : Unit) ww => Hp [] wa ww [rB b13 64 [.int .i64 ((decodeV ((encodeV a).1)).1.seq), .int .i64 ((decodeV ((encodeV a).1)).1.code), .int .i64 ((decodeV ((encodeV a).1)).1.index), .int .i64 ((decodeV ((encodeV a).1)).1.session), .int .u32 ((decodeV ((encodeV a).1)).1.pass), .slice a8_1 (((decodeV ((encodeV a).1)).1).calls.length) c8_1], rS a8_1 c8_1 8 ((decodeV ((encodeV a).1)).1.calls.map callRow), rB b7 50 [.int .i64 m.index, .int .i64 m.chg.index, .int .i64 m.chg.call.id, .int .i64 m.chg.call.kind, .int .i64 m.chg.call.src, .int .i64 m.chg.call.dst, .int .i64 m.chg.call.car, .int .i64 m.chg.call.state, .int .i64 m.chg.call.owner, .int .i64 m.chg.call.born, .int .i64 m.chg.car, .int .i64 m.chg.mode], rB b6 50 [.int .i64 n.index, .int .i64 n.chg.index, .int .i64 n.chg.call.id, .int .i64 n.chg.call.kind, .int .i64 n.chg.call.src, .int .i64 n.chg.call.dst, .int .i64 n.chg.call.car, .int .i64 n.chg.call.state, .int .i64 n.chg.call.owner, .int .i64 n.chg.call.born, .int .i64 n.chg.car, .int .i64 n.chg.mode], rB b5 64 [.int .i64 b.seq, .int .i64 b.code, .int .i64 b.index, .int .i64 b.session, .int .u32 b.pass, .slice ta b.calls.length tc], rB b4 64 [.int .i64 a.seq, .int .i64 a.code, .int .i64 a.index, .int .i64 a.session, .int .u32 a.pass, .slice sa a.calls.length sc], rS ta tc 8 (b.calls.map callRow), rS sa sc 8 (a.calls.map callRow)]) () H.out.drew ?_ (steps_al ?_) ?_ ?_
  · exact fun _ _ _ _ _ h => h
  · refine al_cons ?_ (al_cons ?_ (al_cons ?_ (al_cons ?_ (al_cons ?_ (al_cons ?_ (al_cons ?_ (al_cons ?_ (al_cons ?_ (al_cons ?_ (al_nil))))))))))
    · intro LL xx ac wc sg hst hwant QQ hgo
      have se4 : ac.eval (.tmp 4) = _ := ((sg.free 4 (by kernel_rfl)).trans so4)
      have sg4 := gt_of se4
      exact op_val hwant hgo hst _ (by simp only [execOp, nth]; go_simp <;> omega) rfl
    · intro LL xx ac wc sg hst hwant QQ hgo
      have H := Lib.hid hst
      refine hpA_load1 tyint H rfl (sg.slot 0 (sg.anc 0 rfl)) hwant (by (repeat (first | exact List.Mem.head _ | apply List.Mem.tail))) (by rfl) ?_
      exact hgo _ () _ (fun _ _ => rfl) rfl hst
    · intro LL xx ac wc sg hst hwant QQ hgo
      have H := Lib.hid hst
      refine hpA_load tynote_Answer H rfl ((sg.free 4 (by kernel_rfl)).trans so4) hwant (by (repeat (first | exact List.Mem.head _ | apply List.Mem.tail))) (by rfl) rfl ?_
      exact hgo _ () _ (fun _ _ => rfl) rfl hst
    · intro LL xx ac wc sg hst hwant QQ hgo
      have se59 : ac.eval (.tmp 59) = _ := (sg.slot 2 (sg.anc 2 rfl))
      have sg59 := gt_of se59
      (try simp only [nth] at se59 sg59)
      have H := Lib.hid hst
      refine op_call hwant hgo 32 _ (by simp only [execOp]; go_simp) (payloadC a sa sc wc (hp_held H (by (repeat (first | exact List.Mem.head _ | apply List.Mem.tail)))) hpa) ?_
      rintro er wd ⟨rfl, hof⟩
      exact ⟨_, (), rfl, fun _ _ => rfl, rfl, Hp.quiet hst hof⟩
    · intro LL xx ac wc sg hst hwant QQ hgo
      have se58 : ac.eval (.tmp 58) = _ := (sg.slot 1 (sg.anc 1 rfl))
      have sg58 := gt_of se58
      have se60 : ac.eval (.tmp 60) = _ := (sg.slot 3 (sg.anc 3 rfl))
      have sg60 := gt_of se60
      (try simp only [nth] at se58 sg58 se60 sg60)
      refine op_call hwant hgo 37 #[.int .i64 a.seq, .string (payloadV a)] (by simp only [execOp]; go_simp) (withC a.seq (payloadV a) wc (pay_size (by omega))) ?_
      rintro er wd ⟨rfl, hof⟩
      exact ⟨_, (), rfl, fun _ _ => rfl, rfl, Hp.quiet hst hof⟩
    · intro LL xx ac wc sg hst hwant QQ hgo
      exact op_val hwant hgo hst _ (exec_move rfl (sg.slot 4 (sg.anc 4 rfl))) rfl
    · intro LL xx ac wc sg hst hwant QQ hgo
      have se56 : ac.eval (.tmp 56) = _ := (sg.slot 5 (sg.anc 5 rfl))
      have sg56 := gt_of se56
      (try simp only [nth] at se56 sg56)
      exact op_val hwant hgo hst _ (by simp only [execOp, nth]; go_simp <;> omega) rfl
    · intro LL xx ac wc sg hst hwant QQ hgo
      have se56 : ac.eval (.tmp 56) = _ := (sg.slot 5 (sg.anc 5 rfl))
      have sg56 := gt_of se56
      (try simp only [nth] at se56 sg56)
      exact op_val hwant hgo hst _ (by simp only [execOp, nth]; go_simp <;> omega) rfl
    · intro LL xx ac wc sg hst hwant QQ hgo
      exact op_val hwant hgo hst _ (exec_assign rfl (sg.slot 6 (sg.anc 6 rfl))) rfl
    · intro LL xx ac wc sg hst hwant QQ hgo
      exact op_val hwant hgo hst _ (exec_assign rfl (sg.slot 7 (sg.anc 7 rfl))) rfl
  · exact skips [] (by kernel_rfl) (fun _ h => by cases h)
  · intro xx ac1 wz hfr hsl hst
    exact hfin ac1 wz (hfr.size.trans hz) hfr.defers (fr_keep hfr [15, 16, 56, 57, 58, 59, 60, 61, 62, 63] (by kernel_rfl)) (hsl 8 (by decide)) (hsl 9 (by decide)) (Lib.hid hst)
set_option maxHeartbeats 8000000 in
set_option maxRecDepth 20000 in
theorem back_w_r15 (a : AnsV) (sa : Option Addr) (sc : Nat) (b : AnsV) (ta : Option Addr) (tc : Nat) (n : NoteV) (m : NoteV) (hpa : 0 ≤ a.pass ∧ a.pass ≤ 4294967295) (hpb : 0 ≤ b.pass ∧ b.pass ≤ 4294967295) (b4 : Nat) (b5 : Nat) (b6 : Nat) (b7 : Nat) (z1ld : ¬ (64 < (a.calls.length : Int))) (z1rd : ¬ (64 < (b.calls.length : Int))) (oa : ansOk a = true) (hd2 : (((decodeV ((encodeV a).1)).2) != 0) = false) (heq : (eqA ((decodeV ((encodeV a).1)).1) a) = true) (hw2 : (((withV a.seq (payloadV a)).2) != 0) = false) (hw1 : (((withV a.seq (payloadV a)).1).toList == (((encodeV a).1)).toList) = true) (ht2 : (((toldV ((encodeV a).1)).2) == 0) = false) (hdl : (decodeV ((encodeV a).1)).1.calls.length ≤ 1000000) (hs5 : 5 ≤ (encodeV a).1.size) (a8_1 : Option Addr) (c8_1 : Nat) (b13 : Nat) (y5 : (((encodeV b).2) == 0) = true) (ob : ansOk b = true) (hsm : ((((encodeV a).1).toList == ((encodeV b).1).toList) == (eqA a b)) = true) (hpy : (((payloadV a).toList == (payloadV b).toList) == ((((encodeV a).1).extract 5 ((encodeV a).1).size).toList == (((encodeV b).1).extract 5 ((encodeV b).1).size).toList)) = true) (hs6 : 5 ≤ (encodeV b).1.size) (b17 : Nat) {wa wb : World} (H : Hid (Hp [] wa wb [rB b17 50 [.int .i64 (((toldV ((encodeV a).1)).1).index), .int .i64 ((((toldV ((encodeV a).1)).1).chg).index), .int .i64 (((((toldV ((encodeV a).1)).1).chg).call).id), .int .i64 (((((toldV ((encodeV a).1)).1).chg).call).kind), .int .i64 (((((toldV ((encodeV a).1)).1).chg).call).src), .int .i64 (((((toldV ((encodeV a).1)).1).chg).call).dst), .int .i64 (((((toldV ((encodeV a).1)).1).chg).call).car), .int .i64 (((((toldV ((encodeV a).1)).1).chg).call).state), .int .i64 (((((toldV ((encodeV a).1)).1).chg).call).owner), .int .i64 (((((toldV ((encodeV a).1)).1).chg).call).born), .int .i64 ((((toldV ((encodeV a).1)).1).chg).car), .int .i64 ((((toldV ((encodeV a).1)).1).chg).mode)], rB b13 64 [.int .i64 ((decodeV ((encodeV a).1)).1.seq), .int .i64 ((decodeV ((encodeV a).1)).1.code), .int .i64 ((decodeV ((encodeV a).1)).1.index), .int .i64 ((decodeV ((encodeV a).1)).1.session), .int .u32 ((decodeV ((encodeV a).1)).1.pass), .slice a8_1 (((decodeV ((encodeV a).1)).1).calls.length) c8_1], rS a8_1 c8_1 8 ((decodeV ((encodeV a).1)).1.calls.map callRow), rB b7 50 [.int .i64 m.index, .int .i64 m.chg.index, .int .i64 m.chg.call.id, .int .i64 m.chg.call.kind, .int .i64 m.chg.call.src, .int .i64 m.chg.call.dst, .int .i64 m.chg.call.car, .int .i64 m.chg.call.state, .int .i64 m.chg.call.owner, .int .i64 m.chg.call.born, .int .i64 m.chg.car, .int .i64 m.chg.mode], rB b6 50 [.int .i64 n.index, .int .i64 n.chg.index, .int .i64 n.chg.call.id, .int .i64 n.chg.call.kind, .int .i64 n.chg.call.src, .int .i64 n.chg.call.dst, .int .i64 n.chg.call.car, .int .i64 n.chg.call.state, .int .i64 n.chg.call.owner, .int .i64 n.chg.call.born, .int .i64 n.chg.car, .int .i64 n.chg.mode], rB b5 64 [.int .i64 b.seq, .int .i64 b.code, .int .i64 b.index, .int .i64 b.session, .int .u32 b.pass, .slice ta b.calls.length tc], rB b4 64 [.int .i64 a.seq, .int .i64 a.code, .int .i64 a.index, .int .i64 a.session, .int .u32 a.pass, .slice sa a.calls.length sc], rS ta tc 8 (b.calls.map callRow), rS sa sc 8 (a.calls.map callRow)])) (ac0 : Act) (hz : ac0.tmps.size = 164) (so4 : ac0.eval (.tmp 4) = .pointer (some ⟨b4, 0, none⟩)) (so5 : ac0.eval (.tmp 5) = .pointer (some ⟨b5, 0, none⟩)) (so9 : ac0.eval (.tmp 9) = .string ((encodeV a).1)) (so11 : ac0.eval (.tmp 11) = .string ((encodeV b).1)) (so12 : ac0.eval (.tmp 12) = .int .i64 ((encodeV b).2)) {QR : Exit → Act → World → Prop} (hfin : ∀ (ac1 : Act) (wz : World), ac1.tmps.size = 164 → ac1.defers = ac0.defers → (∀ t, ([101, 102, 103, 104, 105, 106, 107, 108, 109, 110, 111, 112, 113, 114, 115] : List Nat).contains t = false → ac1.eval (.tmp t) = ac0.eval (.tmp t)) → ac1.eval (.tmp 115) = .bool false →  Hid (Hp [] wa wz [rB b17 50 [.int .i64 (((toldV ((encodeV a).1)).1).index), .int .i64 ((((toldV ((encodeV a).1)).1).chg).index), .int .i64 (((((toldV ((encodeV a).1)).1).chg).call).id), .int .i64 (((((toldV ((encodeV a).1)).1).chg).call).kind), .int .i64 (((((toldV ((encodeV a).1)).1).chg).call).src), .int .i64 (((((toldV ((encodeV a).1)).1).chg).call).dst), .int .i64 (((((toldV ((encodeV a).1)).1).chg).call).car), .int .i64 (((((toldV ((encodeV a).1)).1).chg).call).state), .int .i64 (((((toldV ((encodeV a).1)).1).chg).call).owner), .int .i64 (((((toldV ((encodeV a).1)).1).chg).call).born), .int .i64 ((((toldV ((encodeV a).1)).1).chg).car), .int .i64 ((((toldV ((encodeV a).1)).1).chg).mode)], rB b13 64 [.int .i64 ((decodeV ((encodeV a).1)).1.seq), .int .i64 ((decodeV ((encodeV a).1)).1.code), .int .i64 ((decodeV ((encodeV a).1)).1.index), .int .i64 ((decodeV ((encodeV a).1)).1.session), .int .u32 ((decodeV ((encodeV a).1)).1.pass), .slice a8_1 (((decodeV ((encodeV a).1)).1).calls.length) c8_1], rS a8_1 c8_1 8 ((decodeV ((encodeV a).1)).1.calls.map callRow), rB b7 50 [.int .i64 m.index, .int .i64 m.chg.index, .int .i64 m.chg.call.id, .int .i64 m.chg.call.kind, .int .i64 m.chg.call.src, .int .i64 m.chg.call.dst, .int .i64 m.chg.call.car, .int .i64 m.chg.call.state, .int .i64 m.chg.call.owner, .int .i64 m.chg.call.born, .int .i64 m.chg.car, .int .i64 m.chg.mode], rB b6 50 [.int .i64 n.index, .int .i64 n.chg.index, .int .i64 n.chg.call.id, .int .i64 n.chg.call.kind, .int .i64 n.chg.call.src, .int .i64 n.chg.call.dst, .int .i64 n.chg.call.car, .int .i64 n.chg.call.state, .int .i64 n.chg.call.owner, .int .i64 n.chg.call.born, .int .i64 n.chg.car, .int .i64 n.chg.mode], rB b5 64 [.int .i64 b.seq, .int .i64 b.code, .int .i64 b.index, .int .i64 b.session, .int .u32 b.pass, .slice ta b.calls.length tc], rB b4 64 [.int .i64 a.seq, .int .i64 a.code, .int .i64 a.index, .int .i64 a.session, .int .u32 a.pass, .slice sa a.calls.length sc], rS ta tc 8 (b.calls.map callRow), rS sa sc 8 (a.calls.map callRow)]) → QR .normal ac1 wz) : (regAt Try.f9 15).wp Try.prog QR ac0 wb := by
  refine wp_region_st mixedP ⟨[0, 1, 2, 3, 4, 3, 5, 6, 3, 4, 3, 4, 5, 7, 8], by kernel_rfl⟩ [[], [0], [0, 1], [0, 1, 2], [0, 1, 2, 3], [0, 1, 2], [0, 1, 2, 3, 4, 5], [0, 1, 2, 3, 4, 5, 6], [0, 1, 2], [0, 1, 2, 8], [0, 1, 2], [0, 1, 2, 10], [0, 1, 2, 8, 9, 10, 11], [0, 1, 2, 3, 4, 5, 6, 7, 8, 9, 10, 11, 12], [0, 1, 2, 3, 4, 5, 6, 7, 8, 9, 10, 11, 12, 13]] (by kernel_rfl) (by kernel_rfl) 164 hz (by kernel_rfl) (fun (xx : Unit) jx => nth [.int .i64 ((encodeV b).2), .bool true, .bool true, .agg #[.int .i64 a.seq, .int .i64 a.code, .int .i64 a.index, .int .i64 a.session, .int .u32 a.pass, .slice sa a.calls.length sc], .string (payloadV a), .agg #[.int .i64 b.seq, .int .i64 b.code, .int .i64 b.index, .int .i64 b.session, .int .u32 b.pass, .slice ta b.calls.length tc], .string (payloadV b), .bool ((payloadV a).toList == (payloadV b).toList), .string ((encodeV a).1), .string (((encodeV a).1).extract 5 ((encodeV a).1).size), .string ((encodeV b).1), .string (((encodeV b).1).extract 5 ((encodeV b).1).size), .bool ((((encodeV a).1).extract 5 ((encodeV a).1).size).toList == (((encodeV b).1).extract 5 ((encodeV b).1).size).toList), .bool false, .bool false] jx) (fun (LL : Nat → Bool) (xx : Unit) ww => Hp [] wa ww [rB b17 50 [.int .i64 (((toldV ((encodeV a).1)).1).index), .int .i64 ((((toldV ((encodeV a).1)).1).chg).index), .int .i64 (((((toldV ((encodeV a).1)).1).chg).call).id), .int .i64 (((((toldV ((encodeV a).1)).1).chg).call).kind), .int .i64 (((((toldV ((encodeV a).1)).1).chg).call).src), .int .i64 (((((toldV ((encodeV a).1)).1).chg).call).dst), .int .i64 (((((toldV ((encodeV a).1)).1).chg).call).car), .int .i64 (((((toldV ((encodeV a).1)).1).chg).call).state), .int .i64 (((((toldV ((encodeV a).1)).1).chg).call).owner), .int .i64 (((((toldV ((encodeV a).1)).1).chg).call).born), .int .i64 ((((toldV ((encodeV a).1)).1).chg).car), .int .i64 ((((toldV ((encodeV a).1)).1).chg).mode)], rB b13 64 [.int .i64 ((decodeV ((encodeV a).1)).1.seq), .int .i64 ((decodeV ((encodeV a).1)).1.code), .int .i64 ((decodeV ((encodeV a).1)).1.index), .int .i64 ((decodeV ((encodeV a).1)).1.session), .int .u32 ((decodeV ((encodeV a).1)).1.pass), .slice a8_1 (((decodeV ((encodeV a).1)).1).calls.length) c8_1], rS a8_1 c8_1 8 ((decodeV ((encodeV a).1)).1.calls.map callRow), rB b7 50 [.int .i64 m.index, .int .i64 m.chg.index, .int .i64 m.chg.call.id, .int .i64 m.chg.call.kind, .int .i64 m.chg.call.src, .int .i64 m.chg.call.dst, .int .i64 m.chg.call.car, .int .i64 m.chg.call.state, .int .i64 m.chg.call.owner, .int .i64 m.chg.call.born, .int .i64 m.chg.car, .int .i64 m.chg.mode], rB b6 50 [.int .i64 n.index, .int .i64 n.chg.index, .int .i64 n.chg.call.id, .int .i64 n.chg.call.kind, .int .i64 n.chg.call.src, .int .i64 n.chg.call.dst, .int .i64 n.chg.call.car, .int .i64 n.chg.call.state, .int .i64 n.chg.call.owner, .int .i64 n.chg.call.born, .int .i64 n.chg.car, .int .i64 n.chg.mode], rB b5 64 [.int .i64 b.seq, .int .i64 b.code, .int .i64 b.index, .int .i64 b.session, .int .u32 b.pass, .slice ta b.calls.length tc], rB b4 64 [.int .i64 a.seq, .int .i64 a.code, .int .i64 a.index, .int .i64 a.session, .int .u32 a.pass, .slice sa a.calls.length sc], rS ta tc 8 (b.calls.map callRow), rS sa sc 8 (a.calls.map callRow)]) () H.out.drew ?_ (steps_al ?_) ?_ ?_
  · exact fun _ _ _ _ _ h => h
  · refine al_cons ?_ (al_cons ?_ (al_cons ?_ (al_cons ?_ (al_cons ?_ (al_cons ?_ (al_cons ?_ (al_cons ?_ (al_cons ?_ (al_cons ?_ (al_cons ?_ (al_cons ?_ (al_cons ?_ (al_cons ?_ (al_cons ?_ (al_nil)))))))))))))))
    · intro LL xx ac wc sg hst hwant QQ hgo
      exact op_val hwant hgo hst _ (exec_move rfl ((sg.free 12 (by kernel_rfl)).trans so12)) rfl
    · intro LL xx ac wc sg hst hwant QQ hgo
      have se101 : ac.eval (.tmp 101) = _ := (sg.slot 0 (sg.anc 0 rfl))
      have sg101 := gt_of se101
      (try simp only [nth] at se101 sg101)
      exact op_val hwant hgo hst _ (by simp only [execOp, nth]; go_simp <;> omega) rfl
    · intro LL xx ac wc sg hst hwant QQ hgo
      exact op_val hwant hgo hst _ (exec_move rfl (sg.slot 1 (sg.anc 1 rfl))) rfl
    · intro LL xx ac wc sg hst hwant QQ hgo
      have H := Lib.hid hst
      refine hpA_load tynote_Answer H rfl ((sg.free 4 (by kernel_rfl)).trans so4) hwant (by (repeat (first | exact List.Mem.head _ | apply List.Mem.tail))) (by rfl) rfl ?_
      exact hgo _ () _ (fun _ _ => rfl) rfl hst
    · intro LL xx ac wc sg hst hwant QQ hgo
      have se104 : ac.eval (.tmp 104) = _ := (sg.slot 3 (sg.anc 3 rfl))
      have sg104 := gt_of se104
      (try simp only [nth] at se104 sg104)
      have H := Lib.hid hst
      refine op_call hwant hgo 32 _ (by simp only [execOp]; go_simp) (payloadC a sa sc wc (hp_held H (by (repeat (first | exact List.Mem.head _ | apply List.Mem.tail)))) hpa) ?_
      rintro er wd ⟨rfl, hof⟩
      exact ⟨_, (), rfl, fun _ _ => rfl, rfl, Hp.quiet hst hof⟩
    · intro LL xx ac wc sg hst hwant QQ hgo
      have H := Lib.hid hst
      refine hpA_load tynote_Answer H rfl ((sg.free 5 (by kernel_rfl)).trans so5) hwant (by (repeat (first | exact List.Mem.head _ | apply List.Mem.tail))) (by rfl) rfl ?_
      exact hgo _ () _ (fun _ _ => rfl) rfl hst
    · intro LL xx ac wc sg hst hwant QQ hgo
      have se106 : ac.eval (.tmp 106) = _ := (sg.slot 5 (sg.anc 5 rfl))
      have sg106 := gt_of se106
      (try simp only [nth] at se106 sg106)
      have H := Lib.hid hst
      refine op_call hwant hgo 32 _ (by simp only [execOp]; go_simp) (payloadC b ta tc wc (hp_held H (by (repeat (first | exact List.Mem.head _ | apply List.Mem.tail)))) hpb) ?_
      rintro er wd ⟨rfl, hof⟩
      exact ⟨_, (), rfl, fun _ _ => rfl, rfl, Hp.quiet hst hof⟩
    · intro LL xx ac wc sg hst hwant QQ hgo
      have se105 : ac.eval (.tmp 105) = _ := (sg.slot 4 (sg.anc 4 rfl))
      have sg105 := gt_of se105
      have se107 : ac.eval (.tmp 107) = _ := (sg.slot 6 (sg.anc 6 rfl))
      have sg107 := gt_of se107
      (try simp only [nth] at se105 sg105 se107 sg107)
      exact op_val hwant hgo hst _ (by simp only [execOp, nth]; go_simp <;> omega) rfl
    · intro LL xx ac wc sg hst hwant QQ hgo
      exact op_val hwant hgo hst _ (exec_move rfl ((sg.free 9 (by kernel_rfl)).trans so9)) rfl
    · intro LL xx ac wc sg hst hwant QQ hgo
      have se109 : ac.eval (.tmp 109) = _ := (sg.slot 8 (sg.anc 8 rfl))
      have sg109 := gt_of se109
      (try simp only [nth] at se109 sg109)
      exact op_val hwant hgo hst _ (by simp only [execOp, nth]; go_simp <;> omega) rfl
    · intro LL xx ac wc sg hst hwant QQ hgo
      exact op_val hwant hgo hst _ (exec_move rfl ((sg.free 11 (by kernel_rfl)).trans so11)) rfl
    · intro LL xx ac wc sg hst hwant QQ hgo
      have se111 : ac.eval (.tmp 111) = _ := (sg.slot 10 (sg.anc 10 rfl))
      have sg111 := gt_of se111
      (try simp only [nth] at se111 sg111)
      exact op_val hwant hgo hst _ (by simp only [execOp, nth]; go_simp <;> omega) rfl
    · intro LL xx ac wc sg hst hwant QQ hgo
      have se110 : ac.eval (.tmp 110) = _ := (sg.slot 9 (sg.anc 9 rfl))
      have sg110 := gt_of se110
      have se112 : ac.eval (.tmp 112) = _ := (sg.slot 11 (sg.anc 11 rfl))
      have sg112 := gt_of se112
      (try simp only [nth] at se110 sg110 se112 sg112)
      exact op_val hwant hgo hst _ (by simp only [execOp, nth]; go_simp <;> omega) rfl
    · intro LL xx ac wc sg hst hwant QQ hgo
      exact op_val hwant hgo hst (.bool false) (exec_bne (c := true) rfl (sg.slot 7 (sg.anc 7 rfl)) (sg.slot 12 (sg.anc 12 rfl)) Try.underlying4 hpy) rfl
    · intro LL xx ac wc sg hst hwant QQ hgo
      exact op_val hwant hgo hst (.bool false) (exec_pick (B := true) (U := .bool false) (V := undef) rfl (sg.slot 2 (sg.anc 2 rfl)) (fun _ => (sg.slot 13 (sg.anc 13 rfl))) (fun h => by cases h)) rfl
  · refine skips [3, 4, 5, 6, 7, 8, 9, 10, 11, 12, 13] (by kernel_rfl) ?_
    refine List.forall_mem_cons.2 ⟨?_, List.forall_mem_cons.2 ⟨?_, List.forall_mem_cons.2 ⟨?_, List.forall_mem_cons.2 ⟨?_, List.forall_mem_cons.2 ⟨?_, List.forall_mem_cons.2 ⟨?_, List.forall_mem_cons.2 ⟨?_, List.forall_mem_cons.2 ⟨?_, List.forall_mem_cons.2 ⟨?_, List.forall_mem_cons.2 ⟨?_, List.forall_mem_cons.2 ⟨?_, fun _ h => by cases h⟩⟩⟩⟩⟩⟩⟩⟩⟩⟩⟩
    · intro oo hop LL xx ac sg hwant
      cases Option.some.inj hop
      exact absurd ((want_t rfl rfl (sg.slot 2 (sg.anc 2 rfl))).symm.trans hwant) (by decide)
    · intro oo hop LL xx ac sg hwant
      cases Option.some.inj hop
      exact absurd ((want_t rfl rfl (sg.slot 2 (sg.anc 2 rfl))).symm.trans hwant) (by decide)
    · intro oo hop LL xx ac sg hwant
      cases Option.some.inj hop
      exact absurd ((want_t rfl rfl (sg.slot 2 (sg.anc 2 rfl))).symm.trans hwant) (by decide)
    · intro oo hop LL xx ac sg hwant
      cases Option.some.inj hop
      exact absurd ((want_t rfl rfl (sg.slot 2 (sg.anc 2 rfl))).symm.trans hwant) (by decide)
    · intro oo hop LL xx ac sg hwant
      cases Option.some.inj hop
      exact absurd ((want_t rfl rfl (sg.slot 2 (sg.anc 2 rfl))).symm.trans hwant) (by decide)
    · intro oo hop LL xx ac sg hwant
      cases Option.some.inj hop
      exact absurd ((want_t rfl rfl (sg.slot 2 (sg.anc 2 rfl))).symm.trans hwant) (by decide)
    · intro oo hop LL xx ac sg hwant
      cases Option.some.inj hop
      exact absurd ((want_t rfl rfl (sg.slot 2 (sg.anc 2 rfl))).symm.trans hwant) (by decide)
    · intro oo hop LL xx ac sg hwant
      cases Option.some.inj hop
      exact absurd ((want_t rfl rfl (sg.slot 2 (sg.anc 2 rfl))).symm.trans hwant) (by decide)
    · intro oo hop LL xx ac sg hwant
      cases Option.some.inj hop
      exact absurd ((want_t rfl rfl (sg.slot 2 (sg.anc 2 rfl))).symm.trans hwant) (by decide)
    · intro oo hop LL xx ac sg hwant
      cases Option.some.inj hop
      exact absurd ((want_t rfl rfl (sg.slot 2 (sg.anc 2 rfl))).symm.trans hwant) (by decide)
    · intro oo hop LL xx ac sg hwant
      cases Option.some.inj hop
      exact absurd ((want_t rfl rfl (sg.slot 2 (sg.anc 2 rfl))).symm.trans hwant) (by decide)
  · intro xx ac1 wz hfr hsl hst
    exact hfin ac1 wz (hfr.size.trans hz) hfr.defers (fr_keep hfr [101, 102, 103, 104, 105, 106, 107, 108, 109, 110, 111, 112, 113, 114, 115] (by kernel_rfl)) (hsl 14 (by decide)) (Lib.hid hst)
set_option maxHeartbeats 8000000 in
set_option maxRecDepth 20000 in
theorem back_w_r15x1 (a : AnsV) (sa : Option Addr) (sc : Nat) (b : AnsV) (ta : Option Addr) (tc : Nat) (n : NoteV) (m : NoteV) (hpa : 0 ≤ a.pass ∧ a.pass ≤ 4294967295) (hpb : 0 ≤ b.pass ∧ b.pass ≤ 4294967295) (b4 : Nat) (b5 : Nat) (b6 : Nat) (b7 : Nat) (z1ld : ¬ (64 < (a.calls.length : Int))) (z1rd : ¬ (64 < (b.calls.length : Int))) (oa : ansOk a = true) (hd2 : (((decodeV ((encodeV a).1)).2) != 0) = false) (heq : (eqA ((decodeV ((encodeV a).1)).1) a) = true) (hw2 : (((withV a.seq (payloadV a)).2) != 0) = false) (hw1 : (((withV a.seq (payloadV a)).1).toList == (((encodeV a).1)).toList) = true) (ht2 : (((toldV ((encodeV a).1)).2) == 0) = false) (hdl : (decodeV ((encodeV a).1)).1.calls.length ≤ 1000000) (hs5 : 5 ≤ (encodeV a).1.size) (a8_1 : Option Addr) (c8_1 : Nat) (b13 : Nat) (y5 : (((encodeV b).2) == 0) = false) (b17 : Nat) {wa wb : World} (H : Hid (Hp [] wa wb [rB b17 50 [.int .i64 (((toldV ((encodeV a).1)).1).index), .int .i64 ((((toldV ((encodeV a).1)).1).chg).index), .int .i64 (((((toldV ((encodeV a).1)).1).chg).call).id), .int .i64 (((((toldV ((encodeV a).1)).1).chg).call).kind), .int .i64 (((((toldV ((encodeV a).1)).1).chg).call).src), .int .i64 (((((toldV ((encodeV a).1)).1).chg).call).dst), .int .i64 (((((toldV ((encodeV a).1)).1).chg).call).car), .int .i64 (((((toldV ((encodeV a).1)).1).chg).call).state), .int .i64 (((((toldV ((encodeV a).1)).1).chg).call).owner), .int .i64 (((((toldV ((encodeV a).1)).1).chg).call).born), .int .i64 ((((toldV ((encodeV a).1)).1).chg).car), .int .i64 ((((toldV ((encodeV a).1)).1).chg).mode)], rB b13 64 [.int .i64 ((decodeV ((encodeV a).1)).1.seq), .int .i64 ((decodeV ((encodeV a).1)).1.code), .int .i64 ((decodeV ((encodeV a).1)).1.index), .int .i64 ((decodeV ((encodeV a).1)).1.session), .int .u32 ((decodeV ((encodeV a).1)).1.pass), .slice a8_1 (((decodeV ((encodeV a).1)).1).calls.length) c8_1], rS a8_1 c8_1 8 ((decodeV ((encodeV a).1)).1.calls.map callRow), rB b7 50 [.int .i64 m.index, .int .i64 m.chg.index, .int .i64 m.chg.call.id, .int .i64 m.chg.call.kind, .int .i64 m.chg.call.src, .int .i64 m.chg.call.dst, .int .i64 m.chg.call.car, .int .i64 m.chg.call.state, .int .i64 m.chg.call.owner, .int .i64 m.chg.call.born, .int .i64 m.chg.car, .int .i64 m.chg.mode], rB b6 50 [.int .i64 n.index, .int .i64 n.chg.index, .int .i64 n.chg.call.id, .int .i64 n.chg.call.kind, .int .i64 n.chg.call.src, .int .i64 n.chg.call.dst, .int .i64 n.chg.call.car, .int .i64 n.chg.call.state, .int .i64 n.chg.call.owner, .int .i64 n.chg.call.born, .int .i64 n.chg.car, .int .i64 n.chg.mode], rB b5 64 [.int .i64 b.seq, .int .i64 b.code, .int .i64 b.index, .int .i64 b.session, .int .u32 b.pass, .slice ta b.calls.length tc], rB b4 64 [.int .i64 a.seq, .int .i64 a.code, .int .i64 a.index, .int .i64 a.session, .int .u32 a.pass, .slice sa a.calls.length sc], rS ta tc 8 (b.calls.map callRow), rS sa sc 8 (a.calls.map callRow)])) (ac0 : Act) (hz : ac0.tmps.size = 164) (so12 : ac0.eval (.tmp 12) = .int .i64 ((encodeV b).2)) {QR : Exit → Act → World → Prop} (hfin : ∀ (ac1 : Act) (wz : World), ac1.tmps.size = 164 → ac1.defers = ac0.defers → (∀ t, ([101, 102, 103, 104, 105, 106, 107, 108, 109, 110, 111, 112, 113, 114, 115] : List Nat).contains t = false → ac1.eval (.tmp t) = ac0.eval (.tmp t)) → ac1.eval (.tmp 115) = .bool false →  Hid (Hp [] wa wz [rB b17 50 [.int .i64 (((toldV ((encodeV a).1)).1).index), .int .i64 ((((toldV ((encodeV a).1)).1).chg).index), .int .i64 (((((toldV ((encodeV a).1)).1).chg).call).id), .int .i64 (((((toldV ((encodeV a).1)).1).chg).call).kind), .int .i64 (((((toldV ((encodeV a).1)).1).chg).call).src), .int .i64 (((((toldV ((encodeV a).1)).1).chg).call).dst), .int .i64 (((((toldV ((encodeV a).1)).1).chg).call).car), .int .i64 (((((toldV ((encodeV a).1)).1).chg).call).state), .int .i64 (((((toldV ((encodeV a).1)).1).chg).call).owner), .int .i64 (((((toldV ((encodeV a).1)).1).chg).call).born), .int .i64 ((((toldV ((encodeV a).1)).1).chg).car), .int .i64 ((((toldV ((encodeV a).1)).1).chg).mode)], rB b13 64 [.int .i64 ((decodeV ((encodeV a).1)).1.seq), .int .i64 ((decodeV ((encodeV a).1)).1.code), .int .i64 ((decodeV ((encodeV a).1)).1.index), .int .i64 ((decodeV ((encodeV a).1)).1.session), .int .u32 ((decodeV ((encodeV a).1)).1.pass), .slice a8_1 (((decodeV ((encodeV a).1)).1).calls.length) c8_1], rS a8_1 c8_1 8 ((decodeV ((encodeV a).1)).1.calls.map callRow), rB b7 50 [.int .i64 m.index, .int .i64 m.chg.index, .int .i64 m.chg.call.id, .int .i64 m.chg.call.kind, .int .i64 m.chg.call.src, .int .i64 m.chg.call.dst, .int .i64 m.chg.call.car, .int .i64 m.chg.call.state, .int .i64 m.chg.call.owner, .int .i64 m.chg.call.born, .int .i64 m.chg.car, .int .i64 m.chg.mode], rB b6 50 [.int .i64 n.index, .int .i64 n.chg.index, .int .i64 n.chg.call.id, .int .i64 n.chg.call.kind, .int .i64 n.chg.call.src, .int .i64 n.chg.call.dst, .int .i64 n.chg.call.car, .int .i64 n.chg.call.state, .int .i64 n.chg.call.owner, .int .i64 n.chg.call.born, .int .i64 n.chg.car, .int .i64 n.chg.mode], rB b5 64 [.int .i64 b.seq, .int .i64 b.code, .int .i64 b.index, .int .i64 b.session, .int .u32 b.pass, .slice ta b.calls.length tc], rB b4 64 [.int .i64 a.seq, .int .i64 a.code, .int .i64 a.index, .int .i64 a.session, .int .u32 a.pass, .slice sa a.calls.length sc], rS ta tc 8 (b.calls.map callRow), rS sa sc 8 (a.calls.map callRow)]) → QR .normal ac1 wz) : (regAt Try.f9 15).wp Try.prog QR ac0 wb := by
  refine wp_region_st mixedP ⟨[0, 1, 2, 3, 4, 3, 5, 6, 3, 4, 3, 4, 5, 7, 8], by kernel_rfl⟩ [[], [0], [0, 1], [0, 1, 2], [0, 1, 2, 3], [0, 1, 2], [0, 1, 2, 3, 4, 5], [0, 1, 2, 3, 4, 5, 6], [0, 1, 2], [0, 1, 2, 8], [0, 1, 2], [0, 1, 2, 10], [0, 1, 2, 8, 9, 10, 11], [0, 1, 2, 3, 4, 5, 6, 7, 8, 9, 10, 11, 12], [0, 1, 2, 3, 4, 5, 6, 7, 8, 9, 10, 11, 12, 13]] (by kernel_rfl) (by kernel_rfl) 164 hz (by kernel_rfl) (fun (xx : Unit) jx => nth [.int .i64 ((encodeV b).2), .bool false, .bool false, undef, undef, undef, undef, undef, undef, undef, undef, undef, undef, undef, .bool false] jx) (fun (LL : Nat → Bool) (xx : Unit) ww => Hp [] wa ww [rB b17 50 [.int .i64 (((toldV ((encodeV a).1)).1).index), .int .i64 ((((toldV ((encodeV a).1)).1).chg).index), .int .i64 (((((toldV ((encodeV a).1)).1).chg).call).id), .int .i64 (((((toldV ((encodeV a).1)).1).chg).call).kind), .int .i64 (((((toldV ((encodeV a).1)).1).chg).call).src), .int .i64 (((((toldV ((encodeV a).1)).1).chg).call).dst), .int .i64 (((((toldV ((encodeV a).1)).1).chg).call).car), .int .i64 (((((toldV ((encodeV a).1)).1).chg).call).state), .int .i64 (((((toldV ((encodeV a).1)).1).chg).call).owner), .int .i64 (((((toldV ((encodeV a).1)).1).chg).call).born), .int .i64 ((((toldV ((encodeV a).1)).1).chg).car), .int .i64 ((((toldV ((encodeV a).1)).1).chg).mode)], rB b13 64 [.int .i64 ((decodeV ((encodeV a).1)).1.seq), .int .i64 ((decodeV ((encodeV a).1)).1.code), .int .i64 ((decodeV ((encodeV a).1)).1.index), .int .i64 ((decodeV ((encodeV a).1)).1.session), .int .u32 ((decodeV ((encodeV a).1)).1.pass), .slice a8_1 (((decodeV ((encodeV a).1)).1).calls.length) c8_1], rS a8_1 c8_1 8 ((decodeV ((encodeV a).1)).1.calls.map callRow), rB b7 50 [.int .i64 m.index, .int .i64 m.chg.index, .int .i64 m.chg.call.id, .int .i64 m.chg.call.kind, .int .i64 m.chg.call.src, .int .i64 m.chg.call.dst, .int .i64 m.chg.call.car, .int .i64 m.chg.call.state, .int .i64 m.chg.call.owner, .int .i64 m.chg.call.born, .int .i64 m.chg.car, .int .i64 m.chg.mode], rB b6 50 [.int .i64 n.index, .int .i64 n.chg.index, .int .i64 n.chg.call.id, .int .i64 n.chg.call.kind, .int .i64 n.chg.call.src, .int .i64 n.chg.call.dst, .int .i64 n.chg.call.car, .int .i64 n.chg.call.state, .int .i64 n.chg.call.owner, .int .i64 n.chg.call.born, .int .i64 n.chg.car, .int .i64 n.chg.mode], rB b5 64 [.int .i64 b.seq, .int .i64 b.code, .int .i64 b.index, .int .i64 b.session, .int .u32 b.pass, .slice ta b.calls.length tc], rB b4 64 [.int .i64 a.seq, .int .i64 a.code, .int .i64 a.index, .int .i64 a.session, .int .u32 a.pass, .slice sa a.calls.length sc], rS ta tc 8 (b.calls.map callRow), rS sa sc 8 (a.calls.map callRow)]) () H.out.drew ?_ (steps_al ?_) ?_ ?_
  · exact fun _ _ _ _ _ h => h
  · refine al_cons ?_ (al_cons ?_ (al_cons ?_ (al_cons ?_ (al_cons ?_ (al_cons ?_ (al_cons ?_ (al_cons ?_ (al_cons ?_ (al_cons ?_ (al_cons ?_ (al_cons ?_ (al_cons ?_ (al_cons ?_ (al_cons ?_ (al_nil)))))))))))))))
    · intro LL xx ac wc sg hst hwant QQ hgo
      exact op_val hwant hgo hst _ (exec_move rfl ((sg.free 12 (by kernel_rfl)).trans so12)) rfl
    · intro LL xx ac wc sg hst hwant QQ hgo
      have se101 : ac.eval (.tmp 101) = _ := (sg.slot 0 (sg.anc 0 rfl))
      have sg101 := gt_of se101
      (try simp only [nth] at se101 sg101)
      exact op_val hwant hgo hst _ (by simp only [execOp, nth]; go_simp <;> omega) rfl
    · intro LL xx ac wc sg hst hwant QQ hgo
      exact op_val hwant hgo hst _ (exec_move rfl (sg.slot 1 (sg.anc 1 rfl))) rfl
    · intro LL xx ac wc sg hst hwant QQ hgo
      exact absurd ((want_t rfl rfl (sg.slot 2 (sg.anc 2 rfl))).symm.trans hwant) (by simp)
    · intro LL xx ac wc sg hst hwant QQ hgo
      exact absurd ((want_t rfl rfl (sg.slot 2 (sg.anc 2 rfl))).symm.trans hwant) (by simp)
    · intro LL xx ac wc sg hst hwant QQ hgo
      exact absurd ((want_t rfl rfl (sg.slot 2 (sg.anc 2 rfl))).symm.trans hwant) (by simp)
    · intro LL xx ac wc sg hst hwant QQ hgo
      exact absurd ((want_t rfl rfl (sg.slot 2 (sg.anc 2 rfl))).symm.trans hwant) (by simp)
    · intro LL xx ac wc sg hst hwant QQ hgo
      exact absurd ((want_t rfl rfl (sg.slot 2 (sg.anc 2 rfl))).symm.trans hwant) (by simp)
    · intro LL xx ac wc sg hst hwant QQ hgo
      exact absurd ((want_t rfl rfl (sg.slot 2 (sg.anc 2 rfl))).symm.trans hwant) (by simp)
    · intro LL xx ac wc sg hst hwant QQ hgo
      exact absurd ((want_t rfl rfl (sg.slot 2 (sg.anc 2 rfl))).symm.trans hwant) (by simp)
    · intro LL xx ac wc sg hst hwant QQ hgo
      exact absurd ((want_t rfl rfl (sg.slot 2 (sg.anc 2 rfl))).symm.trans hwant) (by simp)
    · intro LL xx ac wc sg hst hwant QQ hgo
      exact absurd ((want_t rfl rfl (sg.slot 2 (sg.anc 2 rfl))).symm.trans hwant) (by simp)
    · intro LL xx ac wc sg hst hwant QQ hgo
      exact absurd ((want_t rfl rfl (sg.slot 2 (sg.anc 2 rfl))).symm.trans hwant) (by simp)
    · intro LL xx ac wc sg hst hwant QQ hgo
      exact absurd ((want_t rfl rfl (sg.slot 2 (sg.anc 2 rfl))).symm.trans hwant) (by simp)
    · intro LL xx ac wc sg hst hwant QQ hgo
      exact op_val hwant hgo hst (.bool false) (exec_pick (B := false) (U := undef) (V := .bool false) rfl (sg.slot 2 (sg.anc 2 rfl)) (fun h => by cases h) (fun _ => rfl)) rfl
  · refine skips [3, 4, 5, 6, 7, 8, 9, 10, 11, 12, 13] (by kernel_rfl) ?_
    refine List.forall_mem_cons.2 ⟨?_, List.forall_mem_cons.2 ⟨?_, List.forall_mem_cons.2 ⟨?_, List.forall_mem_cons.2 ⟨?_, List.forall_mem_cons.2 ⟨?_, List.forall_mem_cons.2 ⟨?_, List.forall_mem_cons.2 ⟨?_, List.forall_mem_cons.2 ⟨?_, List.forall_mem_cons.2 ⟨?_, List.forall_mem_cons.2 ⟨?_, List.forall_mem_cons.2 ⟨?_, fun _ h => by cases h⟩⟩⟩⟩⟩⟩⟩⟩⟩⟩⟩
    · intro oo hop LL xx ac sg hwant
      cases Option.some.inj hop
      exact ⟨rfl, fun _ h => h⟩
    · intro oo hop LL xx ac sg hwant
      cases Option.some.inj hop
      exact ⟨rfl, fun _ h => h⟩
    · intro oo hop LL xx ac sg hwant
      cases Option.some.inj hop
      exact ⟨rfl, fun _ h => h⟩
    · intro oo hop LL xx ac sg hwant
      cases Option.some.inj hop
      exact ⟨rfl, fun _ h => h⟩
    · intro oo hop LL xx ac sg hwant
      cases Option.some.inj hop
      exact ⟨rfl, fun _ h => h⟩
    · intro oo hop LL xx ac sg hwant
      cases Option.some.inj hop
      exact ⟨rfl, fun _ h => h⟩
    · intro oo hop LL xx ac sg hwant
      cases Option.some.inj hop
      exact ⟨rfl, fun _ h => h⟩
    · intro oo hop LL xx ac sg hwant
      cases Option.some.inj hop
      exact ⟨rfl, fun _ h => h⟩
    · intro oo hop LL xx ac sg hwant
      cases Option.some.inj hop
      exact ⟨rfl, fun _ h => h⟩
    · intro oo hop LL xx ac sg hwant
      cases Option.some.inj hop
      exact ⟨rfl, fun _ h => h⟩
    · intro oo hop LL xx ac sg hwant
      cases Option.some.inj hop
      exact ⟨rfl, fun _ h => h⟩
  · intro xx ac1 wz hfr hsl hst
    exact hfin ac1 wz (hfr.size.trans hz) hfr.defers (fr_keep hfr [101, 102, 103, 104, 105, 106, 107, 108, 109, 110, 111, 112, 113, 114, 115] (by kernel_rfl)) (hsl 14 (by decide)) (Lib.hid hst)
set_option maxHeartbeats 32000000 in
set_option maxRecDepth 20000 in
theorem back_w (a : AnsV) (sa : Option Addr) (sc : Nat) (b : AnsV) (ta : Option Addr) (tc : Nat) (n : NoteV) (m : NoteV) (w : World) (h1 : (rS sa sc 8 (a.calls.map callRow)).holds w) (h2 : (rS ta tc 8 (b.calls.map callRow)).holds w) (hpa : 0 ≤ a.pass ∧ a.pass ≤ 4294967295) (hpb : 0 ≤ b.pass ∧ b.pass ≤ 4294967295) : Calls Try.prog 9 #[.agg #[.int .i64 a.seq, .int .i64 a.code, .int .i64 a.index, .int .i64 a.session, .int .u32 a.pass, .slice sa a.calls.length sc], .agg #[.int .i64 b.seq, .int .i64 b.code, .int .i64 b.index, .int .i64 b.session, .int .u32 b.pass, .slice ta b.calls.length tc], .agg #[.int .i64 n.index, .int .i64 n.chg.index, .int .i64 n.chg.call.id, .int .i64 n.chg.call.kind, .int .i64 n.chg.call.src, .int .i64 n.chg.call.dst, .int .i64 n.chg.call.car, .int .i64 n.chg.call.state, .int .i64 n.chg.call.owner, .int .i64 n.chg.call.born, .int .i64 n.chg.car, .int .i64 n.chg.mode], .agg #[.int .i64 m.index, .int .i64 m.chg.index, .int .i64 m.chg.call.id, .int .i64 m.chg.call.kind, .int .i64 m.chg.call.src, .int .i64 m.chg.call.dst, .int .i64 m.chg.call.car, .int .i64 m.chg.call.state, .int .i64 m.chg.call.owner, .int .i64 m.chg.call.born, .int .i64 m.chg.car, .int .i64 m.chg.mode]] w fun e w' => e = .returned (.bool true) ∧ Off [] w w' := by
 have H := Lib.hid (Hp.start [] w)
 have H := hp_old H h1 (by decide)
 have H := hp_old H h2 (by decide)
 clear h1 h2
 refine wStart (args := [.agg #[.int .i64 a.seq, .int .i64 a.code, .int .i64 a.index, .int .i64 a.session, .int .u32 a.pass, .slice sa a.calls.length sc], .agg #[.int .i64 b.seq, .int .i64 b.code, .int .i64 b.index, .int .i64 b.session, .int .u32 b.pass, .slice ta b.calls.length tc], .agg #[.int .i64 n.index, .int .i64 n.chg.index, .int .i64 n.chg.call.id, .int .i64 n.chg.call.kind, .int .i64 n.chg.call.src, .int .i64 n.chg.call.dst, .int .i64 n.chg.call.car, .int .i64 n.chg.call.state, .int .i64 n.chg.call.owner, .int .i64 n.chg.call.born, .int .i64 n.chg.car, .int .i64 n.chg.mode], .agg #[.int .i64 m.index, .int .i64 m.chg.index, .int .i64 m.chg.call.id, .int .i64 m.chg.call.kind, .int .i64 m.chg.call.src, .int .i64 m.chg.call.dst, .int .i64 m.chg.call.car, .int .i64 m.chg.call.state, .int .i64 m.chg.call.owner, .int .i64 m.chg.call.born, .int .i64 m.chg.car, .int .i64 m.chg.mode]]) Try.func9 rfl rfl rfl H ?_
 clear H
 show Wk 164 _ _ [(0, .agg #[.int .i64 a.seq, .int .i64 a.code, .int .i64 a.index, .int .i64 a.session, .int .u32 a.pass, .slice sa a.calls.length sc]), (1, .agg #[.int .i64 b.seq, .int .i64 b.code, .int .i64 b.index, .int .i64 b.session, .int .u32 b.pass, .slice ta b.calls.length tc]), (2, .agg #[.int .i64 n.index, .int .i64 n.chg.index, .int .i64 n.chg.call.id, .int .i64 n.chg.call.kind, .int .i64 n.chg.call.src, .int .i64 n.chg.call.dst, .int .i64 n.chg.call.car, .int .i64 n.chg.call.state, .int .i64 n.chg.call.owner, .int .i64 n.chg.call.born, .int .i64 n.chg.car, .int .i64 n.chg.mode]), (3, .agg #[.int .i64 m.index, .int .i64 m.chg.index, .int .i64 m.chg.call.id, .int .i64 m.chg.call.kind, .int .i64 m.chg.call.src, .int .i64 m.chg.call.dst, .int .i64 m.chg.call.car, .int .i64 m.chg.call.state, .int .i64 m.chg.call.owner, .int .i64 m.chg.call.born, .int .i64 m.chg.car, .int .i64 m.chg.mode])] _ _
 refine wSeqK fun KK1 hK1 => ?_
 refine wReg ?_
 refine wBx rfl rfl rfl fun b4 => ?_
 refine wBx rfl rfl rfl fun b5 => ?_
 refine wBx rfl rfl rfl fun b6 => ?_
 refine wBx rfl rfl rfl fun b7 => ?_
 refine p_back_w rfl ?_
 refine wN ?_
 refine tN (wKK hK1 ?_)
 refine wSeqK fun KK2 hK2 => ?_
 refine wSeqK fun KK3 hK3 => ?_
 refine wReg ?_
 refine wQ (l := []) Try.func18 rfl (by kernel_rfl) (.bool true) (fun wc H => awake15 wc) rfl rfl rfl rfl ?_
 refine p_back_w rfl ?_
 refine wN ?_
 refine tN (wKK hK3 ?_)
 refine wCf rfl ?_
 refine wSk ?_
 refine tN (wKK hK2 ?_)
 refine wSeqK fun KK4 hK4 => ?_
 refine wSeqK fun KK5 hK5 => ?_
 intro aa ww nn dd hs H
 refine back_w_r3 a sa sc b ta tc n m hpa hpb b4 b5 b6 b7 H aa nn (hs 4 _ rfl) (hs 5 _ rfl) ?_
 intro ab wv nn2 dd2 kp o38 H2
 refine wIn nn2 (dd2.trans dd) (Sat.cons (Sat.cons (Sat.cons (Sat.cons (Sat.cons (Sat.cons (Sat.cons (Sat.cons (Sat.cons (Sat.cons (Sat.cons (sat_nil ab) ((kp 28 rfl).trans (hs 28 _ rfl))) ((kp 8 rfl).trans (hs 8 _ rfl))) ((kp 7 rfl).trans (hs 7 _ rfl))) ((kp 6 rfl).trans (hs 6 _ rfl))) ((kp 5 rfl).trans (hs 5 _ rfl))) ((kp 4 rfl).trans (hs 4 _ rfl))) ((kp 3 rfl).trans (hs 3 _ rfl))) ((kp 2 rfl).trans (hs 2 _ rfl))) ((kp 1 rfl).trans (hs 1 _ rfl))) ((kp 0 rfl).trans (hs 0 _ rfl))) o38) H2 ?_
 clear hs H kp H2 dd dd2 nn nn2 o38
 refine tN (wKK hK5 ?_)
 refine wCond (E := (decide (64 < (a.calls.length : Int))) || (decide (64 < (b.calls.length : Int)))) rfl (fun z1 => ?_) (fun z1 => ?_)
 · skip
   refine wSeqK fun KK6 hK6 => ?_
   refine wReg ?_
   refine p_back_w rfl ?_
   refine wN ?_
   refine tN (wKK hK6 ?_)
   refine wRet ?_
   refine tR ?_
   exact wR1 rfl rfl (fun ww H => ⟨rfl, H.out.off⟩)
 · skip
   have z1l : (decide (64 < (a.calls.length : Int))) = false := Reg.ol z1
   have z1ld : ¬ (64 < (a.calls.length : Int)) := of_decide_eq_false z1l
   have z1r : (decide (64 < (b.calls.length : Int))) = false := Reg.orr z1
   have z1rd : ¬ (64 < (b.calls.length : Int)) := of_decide_eq_false z1r
   refine wSk ?_
   refine tN (wKK hK4 ?_)
   refine wSeqK fun KK7 hK7 => ?_
   refine wReg ?_
   refine wLr rfl tynote_Answer 3 rfl [.int .i64 a.seq, .int .i64 a.code, .int .i64 a.index, .int .i64 a.session, .int .u32 a.pass, .slice sa a.calls.length sc] rfl rfl ?_
   refine wQ (l := [.agg #[.int .i64 a.seq, .int .i64 a.code, .int .i64 a.index, .int .i64 a.session, .int .u32 a.pass, .slice sa a.calls.length sc]]) Try.func30 rfl (by kernel_rfl) (.tuple #[.string ((encodeV a).1), .int .i64 ((encodeV a).2)]) (fun wc H => encodeC a sa sc wc (hp_held H (by (repeat (first | exact List.Mem.head _ | apply List.Mem.tail)))) hpa) rfl rfl rfl rfl ?_
   iterate 5 refine p_back_w rfl ?_
   refine wN ?_
   refine tN (wKK hK7 ?_)
   refine wSeqK fun KK8 hK8 => ?_
   refine wReg ?_
   refine wLr rfl tynote_Answer 2 rfl [.int .i64 b.seq, .int .i64 b.code, .int .i64 b.index, .int .i64 b.session, .int .u32 b.pass, .slice ta b.calls.length tc] rfl rfl ?_
   refine wQ (l := [.agg #[.int .i64 b.seq, .int .i64 b.code, .int .i64 b.index, .int .i64 b.session, .int .u32 b.pass, .slice ta b.calls.length tc]]) Try.func30 rfl (by kernel_rfl) (.tuple #[.string ((encodeV b).1), .int .i64 ((encodeV b).2)]) (fun wc H => encodeC b ta tc wc (hp_held H (by (repeat (first | exact List.Mem.head _ | apply List.Mem.tail)))) hpb) rfl rfl rfl rfl ?_
   iterate 5 refine p_back_w rfl ?_
   refine wN ?_
   refine tN (wKK hK8 ?_)
   refine wSeqK fun KK9 hK9 => ?_
   refine wSeqK fun KK10 hK10 => ?_
   refine wReg ?_
   iterate 2 refine p_back_w rfl ?_
   refine wN ?_
   refine tN (wKK hK10 ?_)
   have hjn1 : Wk 164 [] w [(0, .agg #[.int .i64 a.seq, .int .i64 a.code, .int .i64 a.index, .int .i64 a.session, .int .u32 a.pass, .slice sa a.calls.length sc]), (1, .agg #[.int .i64 b.seq, .int .i64 b.code, .int .i64 b.index, .int .i64 b.session, .int .u32 b.pass, .slice ta b.calls.length tc]), (2, .agg #[.int .i64 n.index, .int .i64 n.chg.index, .int .i64 n.chg.call.id, .int .i64 n.chg.call.kind, .int .i64 n.chg.call.src, .int .i64 n.chg.call.dst, .int .i64 n.chg.call.car, .int .i64 n.chg.call.state, .int .i64 n.chg.call.owner, .int .i64 n.chg.call.born, .int .i64 n.chg.car, .int .i64 n.chg.mode]), (3, .agg #[.int .i64 m.index, .int .i64 m.chg.index, .int .i64 m.chg.call.id, .int .i64 m.chg.call.kind, .int .i64 m.chg.call.src, .int .i64 m.chg.call.dst, .int .i64 m.chg.call.car, .int .i64 m.chg.call.state, .int .i64 m.chg.call.owner, .int .i64 m.chg.call.born, .int .i64 m.chg.car, .int .i64 m.chg.mode]), (4, .pointer (some ⟨b4, 0, none⟩)), (5, .pointer (some ⟨b5, 0, none⟩)), (6, .pointer (some ⟨b6, 0, none⟩)), (7, .pointer (some ⟨b7, 0, none⟩)), (8, .bool false), (9, .string ((encodeV a).1)), (10, .int .i64 ((encodeV a).2)), (11, .string ((encodeV b).1)), (12, .int .i64 ((encodeV b).2)), (28, .bool false), (38, .bool ((decide (64 < (a.calls.length : Int))) || (decide (64 < (b.calls.length : Int))))), (50, .bool (((encodeV a).2) == 0))] [rB b7 50 [.int .i64 m.index, .int .i64 m.chg.index, .int .i64 m.chg.call.id, .int .i64 m.chg.call.kind, .int .i64 m.chg.call.src, .int .i64 m.chg.call.dst, .int .i64 m.chg.call.car, .int .i64 m.chg.call.state, .int .i64 m.chg.call.owner, .int .i64 m.chg.call.born, .int .i64 m.chg.car, .int .i64 m.chg.mode], rB b6 50 [.int .i64 n.index, .int .i64 n.chg.index, .int .i64 n.chg.call.id, .int .i64 n.chg.call.kind, .int .i64 n.chg.call.src, .int .i64 n.chg.call.dst, .int .i64 n.chg.call.car, .int .i64 n.chg.call.state, .int .i64 n.chg.call.owner, .int .i64 n.chg.call.born, .int .i64 n.chg.car, .int .i64 n.chg.mode], rB b5 64 [.int .i64 b.seq, .int .i64 b.code, .int .i64 b.index, .int .i64 b.session, .int .u32 b.pass, .slice ta b.calls.length tc], rB b4 64 [.int .i64 a.seq, .int .i64 a.code, .int .i64 a.index, .int .i64 a.session, .int .u32 a.pass, .slice sa a.calls.length sc], rS ta tc 8 (b.calls.map callRow), rS sa sc 8 (a.calls.map callRow)] KK9 := by
    refine wKK hK9 ?_
    refine wSeqK fun KK11 hK11 => ?_
    refine wReg ?_
    refine wLr rfl tynote_Notice 1 rfl [.int .i64 n.index, .int .i64 n.chg.index, .int .i64 n.chg.call.id, .int .i64 n.chg.call.kind, .int .i64 n.chg.call.src, .int .i64 n.chg.call.dst, .int .i64 n.chg.call.car, .int .i64 n.chg.call.state, .int .i64 n.chg.call.owner, .int .i64 n.chg.call.born, .int .i64 n.chg.car, .int .i64 n.chg.mode] rfl rfl ?_
    refine wQ (l := [.agg #[.int .i64 n.index, .int .i64 n.chg.index, .int .i64 n.chg.call.id, .int .i64 n.chg.call.kind, .int .i64 n.chg.call.src, .int .i64 n.chg.call.dst, .int .i64 n.chg.call.car, .int .i64 n.chg.call.state, .int .i64 n.chg.call.owner, .int .i64 n.chg.call.born, .int .i64 n.chg.car, .int .i64 n.chg.mode]]) Try.func19 rfl (by kernel_rfl) (.tuple #[.string ((tellV n).1), .int .i64 ((tellV n).2)]) (fun wc H => tellC n wc) rfl rfl rfl rfl ?_
    iterate 5 refine p_back_w rfl ?_
    refine wN ?_
    refine tN (wKK hK11 ?_)
    refine wSeqK fun KK12 hK12 => ?_
    refine wReg ?_
    refine wLr rfl tynote_Notice 0 rfl [.int .i64 m.index, .int .i64 m.chg.index, .int .i64 m.chg.call.id, .int .i64 m.chg.call.kind, .int .i64 m.chg.call.src, .int .i64 m.chg.call.dst, .int .i64 m.chg.call.car, .int .i64 m.chg.call.state, .int .i64 m.chg.call.owner, .int .i64 m.chg.call.born, .int .i64 m.chg.car, .int .i64 m.chg.mode] rfl rfl ?_
    refine wQ (l := [.agg #[.int .i64 m.index, .int .i64 m.chg.index, .int .i64 m.chg.call.id, .int .i64 m.chg.call.kind, .int .i64 m.chg.call.src, .int .i64 m.chg.call.dst, .int .i64 m.chg.call.car, .int .i64 m.chg.call.state, .int .i64 m.chg.call.owner, .int .i64 m.chg.call.born, .int .i64 m.chg.car, .int .i64 m.chg.mode]]) Try.func19 rfl (by kernel_rfl) (.tuple #[.string ((tellV m).1), .int .i64 ((tellV m).2)]) (fun wc H => tellC m wc) rfl rfl rfl rfl ?_
    iterate 5 refine p_back_w rfl ?_
    refine wN ?_
    refine tN (wKK hK12 ?_)
    refine wSeqK fun KK13 hK13 => ?_
    refine wSeqK fun KK14 hK14 => ?_
    refine wReg ?_
    iterate 2 refine p_back_w rfl ?_
    refine wN ?_
    refine tN (wKK hK14 ?_)
    refine wCond (E := ((tellV n).2) != 0) rfl (fun z2 => ?_) (fun z2 => ?_)
    · skip
      have z2o : (((tellV n).2) == 0) = false := neq_t z2
      intro aa ww nn dd hs H
      have htn := tell_no (n := n) (by simpa using z2)
      have htl : (((tellV n).1).toList.isEmpty) = true := by rw [htn, ByteArray.toList_eq]; rfl
      refine wIn nn dd hs H ?_
      refine wSeqK fun KK15 hK15 => ?_
      refine wReg ?_
      refine p_back_w rfl ?_
      refine wE (.bool true) rfl rfl rfl (fun aa ww hs _ => by exact exec_seq (c := true) rfl (hs _ _ rfl) (rfl) (by first | exact htl | (rw [ByteArray.toList_eq]; exact htl) | (simpa [ByteArray.toList_eq] using htl))) ?_
      refine p_back_w rfl ?_
      refine wN ?_
      refine tN (wKK hK15 ?_)
      refine wRet ?_
      refine tR ?_
      exact wR1 rfl rfl (fun ww H => ⟨rfl, H.out.off⟩)
    · skip
      have z2o : (((tellV n).2) == 0) = true := neq_f z2
      intro aa ww nn dd hs H
      obtain ⟨ll, hl1, hl2⟩ := tell_okE z2
      have htb : toldV (tellV n).1 = (n, 0) := by rw [hl2]; exact told_back hl1
      have hdn : decodeV (tellV n).1 = (zeroA, 4) := by rw [hl2]; exact decode_note hl1
      have hk2 : (((toldV ((tellV n).1)).2) == 0) = true := by rw [htb]; rfl
      have hkn : (decide ((toldV ((tellV n).1)).1 = n)) = true := by rw [htb]; exact decide_eq_true rfl
      have hkd : (((decodeV ((tellV n).1)).2) == 4) = true := by rw [hdn]; rfl
      refine wIn nn dd hs H ?_
      refine wSk ?_
      refine tN (wKK hK13 ?_)
      refine wSeqK fun KK16 hK16 => ?_
      refine wReg ?_
      refine p_back_w rfl ?_
      refine wQ (l := [.string ((tellV n).1)]) Try.func22 rfl (by kernel_rfl) (.tuple #[.agg #[.int .i64 (((toldV ((tellV n).1)).1).index), .int .i64 ((((toldV ((tellV n).1)).1).chg).index), .int .i64 (((((toldV ((tellV n).1)).1).chg).call).id), .int .i64 (((((toldV ((tellV n).1)).1).chg).call).kind), .int .i64 (((((toldV ((tellV n).1)).1).chg).call).src), .int .i64 (((((toldV ((tellV n).1)).1).chg).call).dst), .int .i64 (((((toldV ((tellV n).1)).1).chg).call).car), .int .i64 (((((toldV ((tellV n).1)).1).chg).call).state), .int .i64 (((((toldV ((tellV n).1)).1).chg).call).owner), .int .i64 (((((toldV ((tellV n).1)).1).chg).call).born), .int .i64 ((((toldV ((tellV n).1)).1).chg).car), .int .i64 ((((toldV ((tellV n).1)).1).chg).mode)], .int .i64 ((toldV ((tellV n).1)).2)]) (fun wc H => toldC ((tellV n).1) wc) rfl rfl rfl rfl ?_
      iterate 3 refine p_back_w rfl ?_
      refine wAl rfl rfl tynote_Notice fun b23 => ?_
      refine wSr rfl tynote_Notice 0 rfl rfl rfl rfl [.int .i64 (((toldV ((tellV n).1)).1).index), .int .i64 ((((toldV ((tellV n).1)).1).chg).index), .int .i64 (((((toldV ((tellV n).1)).1).chg).call).id), .int .i64 (((((toldV ((tellV n).1)).1).chg).call).kind), .int .i64 (((((toldV ((tellV n).1)).1).chg).call).src), .int .i64 (((((toldV ((tellV n).1)).1).chg).call).dst), .int .i64 (((((toldV ((tellV n).1)).1).chg).call).car), .int .i64 (((((toldV ((tellV n).1)).1).chg).call).state), .int .i64 (((((toldV ((tellV n).1)).1).chg).call).owner), .int .i64 (((((toldV ((tellV n).1)).1).chg).call).born), .int .i64 ((((toldV ((tellV n).1)).1).chg).car), .int .i64 ((((toldV ((tellV n).1)).1).chg).mode)] (by first | rfl | (simp only [spl]; rfl)) ?_
      refine p_back_w rfl ?_
      refine wN ?_
      refine tN (wKK hK16 ?_)
      refine wSeqK fun KK17 hK17 => ?_
      refine wReg ?_
      refine p_back_w rfl ?_
      refine wC (l := [.string ((tellV n).1)]) Try.func33 rfl (by kernel_rfl) (fun wc H => decodeC ((tellV n).1) wc) rfl rfl rfl rfl ?_
      intro wc H
      rintro er wd ⟨a22_1, c22_1, rfl, hs1, hf1, hof⟩
      have H2 := hp_newS H hof hs1 hf1
      refine ⟨_, rfl, wkAt H2 ?_⟩
      clear H H2 hof
      iterate 3 refine p_back_w rfl ?_
      refine wAl rfl rfl tynote_Answer fun b25 => ?_
      refine wSr rfl tynote_Answer 0 rfl rfl rfl rfl [.int .i64 ((decodeV ((tellV n).1)).1.seq), .int .i64 ((decodeV ((tellV n).1)).1.code), .int .i64 ((decodeV ((tellV n).1)).1.index), .int .i64 ((decodeV ((tellV n).1)).1.session), .int .u32 ((decodeV ((tellV n).1)).1.pass), .slice a22_1 (((decodeV ((tellV n).1)).1).calls.length) c22_1] (by first | rfl | (simp only [spl]; rfl)) ?_
      refine p_back_w rfl ?_
      refine wN ?_
      refine tN (wKK hK17 ?_)
      refine wSeqK fun KK18 hK18 => ?_
      rcases Bool.eq_false_or_eq_true (((tellV m).2) != 0) with y3 | y3
      · skip
        have y3o : (((tellV m).2) == 0) = false := neq_t y3
        refine wReg ?_
        iterate 2 refine p_back_w rfl ?_
        refine wB 141 rfl hk2 ?_
        refine p_back_w rfl ?_
        refine wLr rfl tynote_Notice 2 rfl [.int .i64 (((toldV ((tellV n).1)).1).index), .int .i64 ((((toldV ((tellV n).1)).1).chg).index), .int .i64 (((((toldV ((tellV n).1)).1).chg).call).id), .int .i64 (((((toldV ((tellV n).1)).1).chg).call).kind), .int .i64 (((((toldV ((tellV n).1)).1).chg).call).src), .int .i64 (((((toldV ((tellV n).1)).1).chg).call).dst), .int .i64 (((((toldV ((tellV n).1)).1).chg).call).car), .int .i64 (((((toldV ((tellV n).1)).1).chg).call).state), .int .i64 (((((toldV ((tellV n).1)).1).chg).call).owner), .int .i64 (((((toldV ((tellV n).1)).1).chg).call).born), .int .i64 ((((toldV ((tellV n).1)).1).chg).car), .int .i64 ((((toldV ((tellV n).1)).1).chg).mode)] rfl rfl ?_
        refine wLr rfl tynote_Notice 4 rfl [.int .i64 n.index, .int .i64 n.chg.index, .int .i64 n.chg.call.id, .int .i64 n.chg.call.kind, .int .i64 n.chg.call.src, .int .i64 n.chg.call.dst, .int .i64 n.chg.call.car, .int .i64 n.chg.call.state, .int .i64 n.chg.call.owner, .int .i64 n.chg.call.born, .int .i64 n.chg.car, .int .i64 n.chg.mode] rfl rfl ?_
        refine wE (.bool ((decide (((toldV ((tellV n).1)).1) = n)))) rfl rfl rfl (fun aa wc hs H => exec_eql rfl (hs _ _ rfl) (hs _ _ rfl) (by kernel_rfl) (run_eq_note ((toldV ((tellV n).1)).1) n wc)) ?_
        refine wB 145 rfl hkn ?_
        iterate 4 refine p_back_w rfl ?_
        refine wB 149 rfl hkd ?_
        iterate 4 refine p_back_w rfl ?_
        refine wB 153 rfl y3 ?_
        iterate 11 refine p_back_w rfl ?_
        refine wN ?_
        refine tN (wKK hK18 ?_)
        refine wRet ?_
        exact wR1 rfl rfl (fun ww H => ⟨rfl, H.out.off⟩)
      · skip
        have y3o : (((tellV m).2) == 0) = true := neq_f y3
        intro aa ww nn dd hs H
        have hnm : ((((tellV n).1).toList == ((tellV m).1).toList) == (decide (n = m))) = true := tell_same z2 y3
        refine wIn nn dd hs H ?_
        refine wReg ?_
        iterate 2 refine p_back_w rfl ?_
        refine wB 141 rfl hk2 ?_
        refine p_back_w rfl ?_
        refine wLr rfl tynote_Notice 2 rfl [.int .i64 (((toldV ((tellV n).1)).1).index), .int .i64 ((((toldV ((tellV n).1)).1).chg).index), .int .i64 (((((toldV ((tellV n).1)).1).chg).call).id), .int .i64 (((((toldV ((tellV n).1)).1).chg).call).kind), .int .i64 (((((toldV ((tellV n).1)).1).chg).call).src), .int .i64 (((((toldV ((tellV n).1)).1).chg).call).dst), .int .i64 (((((toldV ((tellV n).1)).1).chg).call).car), .int .i64 (((((toldV ((tellV n).1)).1).chg).call).state), .int .i64 (((((toldV ((tellV n).1)).1).chg).call).owner), .int .i64 (((((toldV ((tellV n).1)).1).chg).call).born), .int .i64 ((((toldV ((tellV n).1)).1).chg).car), .int .i64 ((((toldV ((tellV n).1)).1).chg).mode)] rfl rfl ?_
        refine wLr rfl tynote_Notice 4 rfl [.int .i64 n.index, .int .i64 n.chg.index, .int .i64 n.chg.call.id, .int .i64 n.chg.call.kind, .int .i64 n.chg.call.src, .int .i64 n.chg.call.dst, .int .i64 n.chg.call.car, .int .i64 n.chg.call.state, .int .i64 n.chg.call.owner, .int .i64 n.chg.call.born, .int .i64 n.chg.car, .int .i64 n.chg.mode] rfl rfl ?_
        refine wE (.bool ((decide (((toldV ((tellV n).1)).1) = n)))) rfl rfl rfl (fun aa wc hs H => exec_eql rfl (hs _ _ rfl) (hs _ _ rfl) (by kernel_rfl) (run_eq_note ((toldV ((tellV n).1)).1) n wc)) ?_
        refine wB 145 rfl hkn ?_
        iterate 4 refine p_back_w rfl ?_
        refine wB 149 rfl hkd ?_
        iterate 4 refine p_back_w rfl ?_
        refine wB 153 rfl y3 ?_
        iterate 3 refine p_back_w rfl ?_
        refine wE (.bool (((tellV n).1).toList == ((tellV m).1).toList)) rfl rfl rfl (fun aa ww hs _ => by have e155 := hs 155 _ rfl; have g155 := gt_of e155; have e156 := hs 156 _ rfl; have g156 := gt_of e156; simp only [execOp]; go_simp <;> omega) ?_
        refine wLr rfl tynote_Notice 4 rfl [.int .i64 n.index, .int .i64 n.chg.index, .int .i64 n.chg.call.id, .int .i64 n.chg.call.kind, .int .i64 n.chg.call.src, .int .i64 n.chg.call.dst, .int .i64 n.chg.call.car, .int .i64 n.chg.call.state, .int .i64 n.chg.call.owner, .int .i64 n.chg.call.born, .int .i64 n.chg.car, .int .i64 n.chg.mode] rfl rfl ?_
        refine wLr rfl tynote_Notice 3 rfl [.int .i64 m.index, .int .i64 m.chg.index, .int .i64 m.chg.call.id, .int .i64 m.chg.call.kind, .int .i64 m.chg.call.src, .int .i64 m.chg.call.dst, .int .i64 m.chg.call.car, .int .i64 m.chg.call.state, .int .i64 m.chg.call.owner, .int .i64 m.chg.call.born, .int .i64 m.chg.car, .int .i64 m.chg.mode] rfl rfl ?_
        refine wE (.bool ((decide (n = m)))) rfl rfl rfl (fun aa wc hs H => exec_eql rfl (hs _ _ rfl) (hs _ _ rfl) (by kernel_rfl) (run_eq_note n m wc)) ?_
        refine wE (.bool true) rfl rfl rfl (fun aa ww hs _ => by exact exec_beq (c := true) rfl (hs _ _ rfl) (hs _ _ rfl) Try.underlying4 hnm) ?_
        iterate 3 refine p_back_w rfl ?_
        refine wN ?_
        refine tN (wKK hK18 ?_)
        refine wRet ?_
        exact wR1 rfl rfl (fun ww H => ⟨rfl, H.out.off⟩)
   refine wCond (E := ((encodeV a).2) == 0) rfl (fun z4 => ?_) (fun z4 => ?_)
   · skip
     have z4o : (((encodeV a).2) != 0) = false := eqq_t z4
     intro aa ww nn dd hs H
     have oa := enc_okE z4
     have hda := back_dec oa hpa
     have hwa := back_with oa hpa
     have hd2 : (((decodeV ((encodeV a).1)).2) != 0) = false := by rw [hda]; rfl
     have heq : (eqA ((decodeV ((encodeV a).1)).1) a) = true := by rw [hda]; exact (eqA_iff _ _).2 rfl
     have hw2 : (((withV a.seq (payloadV a)).2) != 0) = false := by rw [hwa]; rfl
     have hw1 : (((withV a.seq (payloadV a)).1).toList == (((encodeV a).1)).toList) = true := by rw [hwa]; simp
     have ht2 : (((toldV ((encodeV a).1)).2) == 0) = false := back_told oa
     have hdl : (decodeV ((encodeV a).1)).1.calls.length ≤ 1000000 := by rw [hda]; show a.calls.length ≤ _; omega
     have hs5 := enc_size5 oa
     refine wIn nn dd hs H ?_
     refine wSeqK fun KK19 hK19 => ?_
     refine wReg ?_
     refine p_back_w rfl ?_
     refine wC (l := [.string ((encodeV a).1)]) Try.func33 rfl (by kernel_rfl) (fun wc H => decodeC ((encodeV a).1) wc) rfl rfl rfl rfl ?_
     intro wc H
     rintro er wd ⟨a8_1, c8_1, rfl, hs1, hf1, hof⟩
     have H2 := hp_newS H hof hs1 hf1
     refine ⟨_, rfl, wkAt H2 ?_⟩
     clear H H2 hof
     iterate 3 refine p_back_w rfl ?_
     refine wAl rfl rfl tynote_Answer fun b13 => ?_
     refine wSr rfl tynote_Answer 0 rfl rfl rfl rfl [.int .i64 ((decodeV ((encodeV a).1)).1.seq), .int .i64 ((decodeV ((encodeV a).1)).1.code), .int .i64 ((decodeV ((encodeV a).1)).1.index), .int .i64 ((decodeV ((encodeV a).1)).1.session), .int .u32 ((decodeV ((encodeV a).1)).1.pass), .slice a8_1 (((decodeV ((encodeV a).1)).1).calls.length) c8_1] (by first | rfl | (simp only [spl]; rfl)) ?_
     refine p_back_w rfl ?_
     refine wN ?_
     refine tN (wKK hK19 ?_)
     refine wSeqK fun KK20 hK20 => ?_
     intro aa ww nn dd hs H
     refine back_w_r9 a sa sc b ta tc n m hpa hpb b4 b5 b6 b7 z1ld z1rd oa hd2 heq hw2 hw1 ht2 hdl hs5 a8_1 c8_1 b13 H aa nn (hs 4 _ rfl) ?_
     intro ab wv nn2 dd2 kp o15 o16 H2
     refine wIn nn2 (dd2.trans dd) (Sat.cons (Sat.cons (Sat.cons (Sat.cons (Sat.cons (Sat.cons (Sat.cons (Sat.cons (Sat.cons (Sat.cons (Sat.cons (Sat.cons (Sat.cons (Sat.cons (Sat.cons (Sat.cons (Sat.cons (Sat.cons (Sat.cons (Sat.cons (sat_nil ab) ((kp 50 rfl).trans (hs 50 _ rfl))) ((kp 38 rfl).trans (hs 38 _ rfl))) ((kp 28 rfl).trans (hs 28 _ rfl))) ((kp 14 rfl).trans (hs 14 _ rfl))) ((kp 13 rfl).trans (hs 13 _ rfl))) ((kp 12 rfl).trans (hs 12 _ rfl))) ((kp 11 rfl).trans (hs 11 _ rfl))) ((kp 10 rfl).trans (hs 10 _ rfl))) ((kp 9 rfl).trans (hs 9 _ rfl))) ((kp 8 rfl).trans (hs 8 _ rfl))) ((kp 7 rfl).trans (hs 7 _ rfl))) ((kp 6 rfl).trans (hs 6 _ rfl))) ((kp 5 rfl).trans (hs 5 _ rfl))) ((kp 4 rfl).trans (hs 4 _ rfl))) ((kp 3 rfl).trans (hs 3 _ rfl))) ((kp 2 rfl).trans (hs 2 _ rfl))) ((kp 1 rfl).trans (hs 1 _ rfl))) ((kp 0 rfl).trans (hs 0 _ rfl))) o16) o15) H2 ?_
     clear hs H kp H2 dd dd2 nn nn2 o15 o16
     refine tN (wKK hK20 ?_)
     refine wSeqK fun KK21 hK21 => ?_
     refine wSeqK fun KK22 hK22 => ?_
     rcases Bool.eq_false_or_eq_true (((encodeV b).2) == 0) with y5 | y5
     · skip
       have y5o : (((encodeV b).2) != 0) = false := eqq_t y5
       intro aa ww nn dd hs H
       have ob := enc_okE y5
       have hsm : ((((encodeV a).1).toList == ((encodeV b).1).toList) == (eqA a b)) = true := back_same oa hpa ob hpb
       have hpy : (((payloadV a).toList == (payloadV b).toList) == ((((encodeV a).1).extract 5 ((encodeV a).1).size).toList == (((encodeV b).1).extract 5 ((encodeV b).1).size).toList)) = true := back_pay oa ob
       have hs6 := enc_size5 ob
       refine wIn nn dd hs H ?_
       refine wReg ?_
       iterate 2 refine p_back_w rfl ?_
       refine wB 65 rfl hd2 ?_
       refine p_back_w rfl ?_
       refine wLr rfl tynote_Answer 0 rfl [.int .i64 ((decodeV ((encodeV a).1)).1.seq), .int .i64 ((decodeV ((encodeV a).1)).1.code), .int .i64 ((decodeV ((encodeV a).1)).1.index), .int .i64 ((decodeV ((encodeV a).1)).1.session), .int .u32 ((decodeV ((encodeV a).1)).1.pass), .slice a8_1 (((decodeV ((encodeV a).1)).1).calls.length) c8_1] rfl rfl ?_
       refine wLr rfl tynote_Answer 5 rfl [.int .i64 a.seq, .int .i64 a.code, .int .i64 a.index, .int .i64 a.session, .int .u32 a.pass, .slice sa a.calls.length sc] rfl rfl ?_
       refine wQ (l := [.agg #[.int .i64 ((decodeV ((encodeV a).1)).1.seq), .int .i64 ((decodeV ((encodeV a).1)).1.code), .int .i64 ((decodeV ((encodeV a).1)).1.index), .int .i64 ((decodeV ((encodeV a).1)).1.session), .int .u32 ((decodeV ((encodeV a).1)).1.pass), .slice a8_1 (((decodeV ((encodeV a).1)).1).calls.length) c8_1], .agg #[.int .i64 a.seq, .int .i64 a.code, .int .i64 a.index, .int .i64 a.session, .int .u32 a.pass, .slice sa a.calls.length sc]]) Try.func35 rfl (by kernel_rfl) (.bool true) (fun wc H => by have h := eqlC ((decodeV ((encodeV a).1)).1) a8_1 c8_1 a sa sc wc (hp_held H (by (repeat (first | exact List.Mem.head _ | apply List.Mem.tail)))) (hp_held H (by (repeat (first | exact List.Mem.head _ | apply List.Mem.tail)))) hdl (by show a.calls.length ≤ 1000000; omega); rw [heq] at h; exact h) rfl rfl rfl rfl ?_
       iterate 5 refine p_back_w rfl ?_
       refine wB 74 rfl hw2 ?_
       iterate 4 refine p_back_w rfl ?_
       refine wE (.bool false) rfl rfl rfl (fun aa ww hs _ => by exact exec_sne (c := true) rfl (hs _ _ rfl) (hs _ _ rfl) (by first | exact hw1 | (rw [ByteArray.toList_eq]; exact hw1) | (simpa [ByteArray.toList_eq] using hw1))) ?_
       iterate 4 refine p_back_w rfl ?_
       refine wB 83 rfl y5 ?_
       iterate 3 refine p_back_w rfl ?_
       refine wE (.bool (((encodeV a).1).toList == ((encodeV b).1).toList)) rfl rfl rfl (fun aa ww hs _ => by have e85 := hs 85 _ rfl; have g85 := gt_of e85; have e86 := hs 86 _ rfl; have g86 := gt_of e86; simp only [execOp]; go_simp <;> omega) ?_
       refine wLr rfl tynote_Answer 5 rfl [.int .i64 a.seq, .int .i64 a.code, .int .i64 a.index, .int .i64 a.session, .int .u32 a.pass, .slice sa a.calls.length sc] rfl rfl ?_
       refine wLr rfl tynote_Answer 4 rfl [.int .i64 b.seq, .int .i64 b.code, .int .i64 b.index, .int .i64 b.session, .int .u32 b.pass, .slice ta b.calls.length tc] rfl rfl ?_
       refine wQ (l := [.agg #[.int .i64 a.seq, .int .i64 a.code, .int .i64 a.index, .int .i64 a.session, .int .u32 a.pass, .slice sa a.calls.length sc], .agg #[.int .i64 b.seq, .int .i64 b.code, .int .i64 b.index, .int .i64 b.session, .int .u32 b.pass, .slice ta b.calls.length tc]]) Try.func35 rfl (by kernel_rfl) (.bool (eqA a b)) (fun wc H => eqlC a sa sc b ta tc wc (hp_held H (by (repeat (first | exact List.Mem.head _ | apply List.Mem.tail)))) (hp_held H (by (repeat (first | exact List.Mem.head _ | apply List.Mem.tail)))) (by show a.calls.length ≤ 1000000; omega) (by show b.calls.length ≤ 1000000; omega)) rfl rfl rfl rfl ?_
       refine wE (.bool false) rfl rfl rfl (fun aa ww hs _ => by exact exec_bne (c := true) rfl (hs _ _ rfl) (hs _ _ rfl) Try.underlying4 hsm) ?_
       iterate 2 refine p_back_w rfl ?_
       refine wN ?_
       refine tN (wKK hK22 ?_)
       refine wCf rfl ?_
       refine wSk ?_
       refine tN (wKK hK21 ?_)
       refine wSeqK fun KK23 hK23 => ?_
       refine wSeqK fun KK24 hK24 => ?_
       refine wReg ?_
       refine p_back_w rfl ?_
       refine wQ (l := [.string ((encodeV a).1)]) Try.func22 rfl (by kernel_rfl) (.tuple #[.agg #[.int .i64 (((toldV ((encodeV a).1)).1).index), .int .i64 ((((toldV ((encodeV a).1)).1).chg).index), .int .i64 (((((toldV ((encodeV a).1)).1).chg).call).id), .int .i64 (((((toldV ((encodeV a).1)).1).chg).call).kind), .int .i64 (((((toldV ((encodeV a).1)).1).chg).call).src), .int .i64 (((((toldV ((encodeV a).1)).1).chg).call).dst), .int .i64 (((((toldV ((encodeV a).1)).1).chg).call).car), .int .i64 (((((toldV ((encodeV a).1)).1).chg).call).state), .int .i64 (((((toldV ((encodeV a).1)).1).chg).call).owner), .int .i64 (((((toldV ((encodeV a).1)).1).chg).call).born), .int .i64 ((((toldV ((encodeV a).1)).1).chg).car), .int .i64 ((((toldV ((encodeV a).1)).1).chg).mode)], .int .i64 ((toldV ((encodeV a).1)).2)]) (fun wc H => toldC ((encodeV a).1) wc) rfl rfl rfl rfl ?_
       iterate 3 refine p_back_w rfl ?_
       refine wAl rfl rfl tynote_Notice fun b17 => ?_
       refine wSr rfl tynote_Notice 0 rfl rfl rfl rfl [.int .i64 (((toldV ((encodeV a).1)).1).index), .int .i64 ((((toldV ((encodeV a).1)).1).chg).index), .int .i64 (((((toldV ((encodeV a).1)).1).chg).call).id), .int .i64 (((((toldV ((encodeV a).1)).1).chg).call).kind), .int .i64 (((((toldV ((encodeV a).1)).1).chg).call).src), .int .i64 (((((toldV ((encodeV a).1)).1).chg).call).dst), .int .i64 (((((toldV ((encodeV a).1)).1).chg).call).car), .int .i64 (((((toldV ((encodeV a).1)).1).chg).call).state), .int .i64 (((((toldV ((encodeV a).1)).1).chg).call).owner), .int .i64 (((((toldV ((encodeV a).1)).1).chg).call).born), .int .i64 ((((toldV ((encodeV a).1)).1).chg).car), .int .i64 ((((toldV ((encodeV a).1)).1).chg).mode)] (by first | rfl | (simp only [spl]; rfl)) ?_
       refine p_back_w rfl ?_
       refine wN ?_
       refine tN (wKK hK24 ?_)
       refine wSeqK fun KK25 hK25 => ?_
       refine wReg ?_
       iterate 2 refine p_back_w rfl ?_
       refine wB 100 rfl ht2 ?_
       refine wN ?_
       refine tN (wKK hK25 ?_)
       refine wCf rfl ?_
       refine wSk ?_
       refine tN (wKK hK23 ?_)
       refine wSeqK fun KK26 hK26 => ?_
       intro aa ww nn dd hs H
       refine back_w_r15 a sa sc b ta tc n m hpa hpb b4 b5 b6 b7 z1ld z1rd oa hd2 heq hw2 hw1 ht2 hdl hs5 a8_1 c8_1 b13 y5 ob hsm hpy hs6 b17 H aa nn (hs 4 _ rfl) (hs 5 _ rfl) (hs 9 _ rfl) (hs 11 _ rfl) (hs 12 _ rfl) ?_
       intro ab wv nn2 dd2 kp o115 H2
       refine wIn nn2 (dd2.trans dd) (Sat.cons (Sat.cons (Sat.cons (Sat.cons (Sat.cons (Sat.cons (Sat.cons (Sat.cons (Sat.cons (Sat.cons (Sat.cons (Sat.cons (Sat.cons (Sat.cons (Sat.cons (Sat.cons (Sat.cons (Sat.cons (Sat.cons (Sat.cons (Sat.cons (Sat.cons (Sat.cons (Sat.cons (sat_nil ab) ((kp 100 rfl).trans (hs 100 _ rfl))) ((kp 93 rfl).trans (hs 93 _ rfl))) ((kp 50 rfl).trans (hs 50 _ rfl))) ((kp 38 rfl).trans (hs 38 _ rfl))) ((kp 28 rfl).trans (hs 28 _ rfl))) ((kp 18 rfl).trans (hs 18 _ rfl))) ((kp 16 rfl).trans (hs 16 _ rfl))) ((kp 15 rfl).trans (hs 15 _ rfl))) ((kp 14 rfl).trans (hs 14 _ rfl))) ((kp 13 rfl).trans (hs 13 _ rfl))) ((kp 12 rfl).trans (hs 12 _ rfl))) ((kp 11 rfl).trans (hs 11 _ rfl))) ((kp 10 rfl).trans (hs 10 _ rfl))) ((kp 9 rfl).trans (hs 9 _ rfl))) ((kp 8 rfl).trans (hs 8 _ rfl))) ((kp 7 rfl).trans (hs 7 _ rfl))) ((kp 6 rfl).trans (hs 6 _ rfl))) ((kp 5 rfl).trans (hs 5 _ rfl))) ((kp 4 rfl).trans (hs 4 _ rfl))) ((kp 3 rfl).trans (hs 3 _ rfl))) ((kp 2 rfl).trans (hs 2 _ rfl))) ((kp 1 rfl).trans (hs 1 _ rfl))) ((kp 0 rfl).trans (hs 0 _ rfl))) o115) H2 ?_
       clear hs H kp H2 dd dd2 nn nn2 o115
       refine tN (wKK hK26 ?_)
       refine wCf rfl ?_
       refine wSk ?_
       refine tN ?_
       intro aa ww nn dd hs H
       replace H := hp_front H 8 rfl
       replace H := hp_front H 8 rfl
       replace H := hp_front H 8 rfl
       replace H := hp_front H 8 rfl
       replace H := hp_front H 8 rfl
       replace H := hp_front H 8 rfl
       exact hjn1  aa ww nn dd (sat_sub ⟨rfl, rfl, rfl, rfl, rfl, rfl, rfl, rfl, rfl, rfl, rfl, rfl, rfl, rfl, rfl, rfl, trivial⟩ hs) (hp_take H 6)
     · skip
       have y5o : (((encodeV b).2) != 0) = true := eqq_f y5
       refine wReg ?_
       iterate 2 refine p_back_w rfl ?_
       refine wB 65 rfl hd2 ?_
       refine p_back_w rfl ?_
       refine wLr rfl tynote_Answer 0 rfl [.int .i64 ((decodeV ((encodeV a).1)).1.seq), .int .i64 ((decodeV ((encodeV a).1)).1.code), .int .i64 ((decodeV ((encodeV a).1)).1.index), .int .i64 ((decodeV ((encodeV a).1)).1.session), .int .u32 ((decodeV ((encodeV a).1)).1.pass), .slice a8_1 (((decodeV ((encodeV a).1)).1).calls.length) c8_1] rfl rfl ?_
       refine wLr rfl tynote_Answer 5 rfl [.int .i64 a.seq, .int .i64 a.code, .int .i64 a.index, .int .i64 a.session, .int .u32 a.pass, .slice sa a.calls.length sc] rfl rfl ?_
       refine wQ (l := [.agg #[.int .i64 ((decodeV ((encodeV a).1)).1.seq), .int .i64 ((decodeV ((encodeV a).1)).1.code), .int .i64 ((decodeV ((encodeV a).1)).1.index), .int .i64 ((decodeV ((encodeV a).1)).1.session), .int .u32 ((decodeV ((encodeV a).1)).1.pass), .slice a8_1 (((decodeV ((encodeV a).1)).1).calls.length) c8_1], .agg #[.int .i64 a.seq, .int .i64 a.code, .int .i64 a.index, .int .i64 a.session, .int .u32 a.pass, .slice sa a.calls.length sc]]) Try.func35 rfl (by kernel_rfl) (.bool true) (fun wc H => by have h := eqlC ((decodeV ((encodeV a).1)).1) a8_1 c8_1 a sa sc wc (hp_held H (by (repeat (first | exact List.Mem.head _ | apply List.Mem.tail)))) (hp_held H (by (repeat (first | exact List.Mem.head _ | apply List.Mem.tail)))) hdl (by show a.calls.length ≤ 1000000; omega); rw [heq] at h; exact h) rfl rfl rfl rfl ?_
       iterate 5 refine p_back_w rfl ?_
       refine wB 74 rfl hw2 ?_
       iterate 4 refine p_back_w rfl ?_
       refine wE (.bool false) rfl rfl rfl (fun aa ww hs _ => by exact exec_sne (c := true) rfl (hs _ _ rfl) (hs _ _ rfl) (by first | exact hw1 | (rw [ByteArray.toList_eq]; exact hw1) | (simpa [ByteArray.toList_eq] using hw1))) ?_
       iterate 4 refine p_back_w rfl ?_
       refine wB 83 rfl y5 ?_
       iterate 10 refine p_back_w rfl ?_
       refine wN ?_
       refine tN (wKK hK22 ?_)
       refine wCf rfl ?_
       refine wSk ?_
       refine tN (wKK hK21 ?_)
       refine wSeqK fun KK27 hK27 => ?_
       refine wSeqK fun KK28 hK28 => ?_
       refine wReg ?_
       refine p_back_w rfl ?_
       refine wQ (l := [.string ((encodeV a).1)]) Try.func22 rfl (by kernel_rfl) (.tuple #[.agg #[.int .i64 (((toldV ((encodeV a).1)).1).index), .int .i64 ((((toldV ((encodeV a).1)).1).chg).index), .int .i64 (((((toldV ((encodeV a).1)).1).chg).call).id), .int .i64 (((((toldV ((encodeV a).1)).1).chg).call).kind), .int .i64 (((((toldV ((encodeV a).1)).1).chg).call).src), .int .i64 (((((toldV ((encodeV a).1)).1).chg).call).dst), .int .i64 (((((toldV ((encodeV a).1)).1).chg).call).car), .int .i64 (((((toldV ((encodeV a).1)).1).chg).call).state), .int .i64 (((((toldV ((encodeV a).1)).1).chg).call).owner), .int .i64 (((((toldV ((encodeV a).1)).1).chg).call).born), .int .i64 ((((toldV ((encodeV a).1)).1).chg).car), .int .i64 ((((toldV ((encodeV a).1)).1).chg).mode)], .int .i64 ((toldV ((encodeV a).1)).2)]) (fun wc H => toldC ((encodeV a).1) wc) rfl rfl rfl rfl ?_
       iterate 3 refine p_back_w rfl ?_
       refine wAl rfl rfl tynote_Notice fun b17 => ?_
       refine wSr rfl tynote_Notice 0 rfl rfl rfl rfl [.int .i64 (((toldV ((encodeV a).1)).1).index), .int .i64 ((((toldV ((encodeV a).1)).1).chg).index), .int .i64 (((((toldV ((encodeV a).1)).1).chg).call).id), .int .i64 (((((toldV ((encodeV a).1)).1).chg).call).kind), .int .i64 (((((toldV ((encodeV a).1)).1).chg).call).src), .int .i64 (((((toldV ((encodeV a).1)).1).chg).call).dst), .int .i64 (((((toldV ((encodeV a).1)).1).chg).call).car), .int .i64 (((((toldV ((encodeV a).1)).1).chg).call).state), .int .i64 (((((toldV ((encodeV a).1)).1).chg).call).owner), .int .i64 (((((toldV ((encodeV a).1)).1).chg).call).born), .int .i64 ((((toldV ((encodeV a).1)).1).chg).car), .int .i64 ((((toldV ((encodeV a).1)).1).chg).mode)] (by first | rfl | (simp only [spl]; rfl)) ?_
       refine p_back_w rfl ?_
       refine wN ?_
       refine tN (wKK hK28 ?_)
       refine wSeqK fun KK29 hK29 => ?_
       refine wReg ?_
       iterate 2 refine p_back_w rfl ?_
       refine wB 100 rfl ht2 ?_
       refine wN ?_
       refine tN (wKK hK29 ?_)
       refine wCf rfl ?_
       refine wSk ?_
       refine tN (wKK hK27 ?_)
       refine wSeqK fun KK30 hK30 => ?_
       intro aa ww nn dd hs H
       refine back_w_r15x1 a sa sc b ta tc n m hpa hpb b4 b5 b6 b7 z1ld z1rd oa hd2 heq hw2 hw1 ht2 hdl hs5 a8_1 c8_1 b13 y5 b17 H aa nn (hs 12 _ rfl) ?_
       intro ab wv nn2 dd2 kp o115 H2
       refine wIn nn2 (dd2.trans dd) (Sat.cons (Sat.cons (Sat.cons (Sat.cons (Sat.cons (Sat.cons (Sat.cons (Sat.cons (Sat.cons (Sat.cons (Sat.cons (Sat.cons (Sat.cons (Sat.cons (Sat.cons (Sat.cons (Sat.cons (Sat.cons (Sat.cons (Sat.cons (Sat.cons (Sat.cons (Sat.cons (Sat.cons (sat_nil ab) ((kp 100 rfl).trans (hs 100 _ rfl))) ((kp 93 rfl).trans (hs 93 _ rfl))) ((kp 50 rfl).trans (hs 50 _ rfl))) ((kp 38 rfl).trans (hs 38 _ rfl))) ((kp 28 rfl).trans (hs 28 _ rfl))) ((kp 18 rfl).trans (hs 18 _ rfl))) ((kp 16 rfl).trans (hs 16 _ rfl))) ((kp 15 rfl).trans (hs 15 _ rfl))) ((kp 14 rfl).trans (hs 14 _ rfl))) ((kp 13 rfl).trans (hs 13 _ rfl))) ((kp 12 rfl).trans (hs 12 _ rfl))) ((kp 11 rfl).trans (hs 11 _ rfl))) ((kp 10 rfl).trans (hs 10 _ rfl))) ((kp 9 rfl).trans (hs 9 _ rfl))) ((kp 8 rfl).trans (hs 8 _ rfl))) ((kp 7 rfl).trans (hs 7 _ rfl))) ((kp 6 rfl).trans (hs 6 _ rfl))) ((kp 5 rfl).trans (hs 5 _ rfl))) ((kp 4 rfl).trans (hs 4 _ rfl))) ((kp 3 rfl).trans (hs 3 _ rfl))) ((kp 2 rfl).trans (hs 2 _ rfl))) ((kp 1 rfl).trans (hs 1 _ rfl))) ((kp 0 rfl).trans (hs 0 _ rfl))) o115) H2 ?_
       clear hs H kp H2 dd dd2 nn nn2 o115
       refine tN (wKK hK30 ?_)
       refine wCf rfl ?_
       refine wSk ?_
       refine tN ?_
       intro aa ww nn dd hs H
       replace H := hp_front H 8 rfl
       replace H := hp_front H 8 rfl
       replace H := hp_front H 8 rfl
       replace H := hp_front H 8 rfl
       replace H := hp_front H 8 rfl
       replace H := hp_front H 8 rfl
       exact hjn1  aa ww nn dd (sat_sub ⟨rfl, rfl, rfl, rfl, rfl, rfl, rfl, rfl, rfl, rfl, rfl, rfl, rfl, rfl, rfl, rfl, trivial⟩ hs) (hp_take H 6)
   · skip
     have z4o : (((encodeV a).2) != 0) = true := eqq_f z4
     refine wSk ?_
     refine tN ?_
     intro aa ww nn dd hs H
     replace H := hp_front H 5 rfl
     replace H := hp_front H 5 rfl
     replace H := hp_front H 5 rfl
     replace H := hp_front H 5 rfl
     replace H := hp_front H 5 rfl
     replace H := hp_front H 5 rfl
     exact hjn1  aa ww nn dd (sat_sub ⟨rfl, rfl, rfl, rfl, rfl, rfl, rfl, rfl, rfl, rfl, rfl, rfl, rfl, rfl, rfl, rfl, trivial⟩ hs) (hp_take H 6)
end Go.Proofs.Ytloemjhhedkhiaa.Nt
