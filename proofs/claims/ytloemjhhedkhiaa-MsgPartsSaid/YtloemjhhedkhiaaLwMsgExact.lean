/- Every request and all bytes: the walk. -/
import Derived.Test.YtloemjhhedkhiaaProg
import Derived.Below
import Derived.WalkKit
import Derived.KernelRfl
import Derived.RowKit3
import Derived.Deep.LoopGhost
import Derived.Deep.QuietTactic
import Derived.BigQuiet
import Derived.WideLaws
import Derived.Deep.DeepCutAuto
import Derived.Deep.CutBlock
import Derived.Lib.Hide
import Derived.Laws.BitsLemmas
import Derived.Laws.Bits64
import Derived.Laws.BitsAllLaws
import Derived.IntWalk
import Derived.Outline
import Derived.WalkSpells
import Derived.Test.YtloemjhhedkhiaaMem
import Derived.Test.YtloemjhhedkhiaaRg5
import Derived.Test.YtloemjhhedkhiaaArr
namespace Go.Proofs.Ytloemjhhedkhiaa.Ms
open Go.RowKit Go.Proofs.Ytloemjhhedkhiaa.Mem Go.Proofs.Ytloemjhhedkhiaa.Pk Go.Proofs.Ytloemjhhedkhiaa.Ca Go.Proofs.Ytloemjhhedkhiaa.Reg Go.Proofs.Ytloemjhhedkhiaa.Wk
set_option linter.unusedVariables false
set_option linter.unusedSimpArgs false

instance : DecidableEq ReqV := fun a b => decidable_of_iff (sameReq a b = true) (same_iff a b)
set_option maxRecDepth 20000 in
set_option maxHeartbeats 16000000 in
theorem run_eq_req (X Y : ReqV) (w : World) : (Op.equalIn 10000 29 (.agg #[.int .i64 X.kind, .int .i64 X.seq, .int .i64 X.who, .int .i64 X.role, .int .u32 X.token, .int .u64 X.key, .int .i64 X.call.id, .int .i64 X.call.kind, .int .i64 X.call.src, .int .i64 X.call.dst, .int .i64 X.call.car, .int .i64 X.call.state, .int .i64 X.call.owner, .int .i64 X.call.born, .int .i64 X.id, .int .i64 X.car, .int .i64 X.mode, .int .i64 X.filter.kind, .int .i64 X.filter.n]) (.agg #[.int .i64 Y.kind, .int .i64 Y.seq, .int .i64 Y.who, .int .i64 Y.role, .int .u32 Y.token, .int .u64 Y.key, .int .i64 Y.call.id, .int .i64 Y.call.kind, .int .i64 Y.call.src, .int .i64 Y.call.dst, .int .i64 Y.call.car, .int .i64 Y.call.state, .int .i64 Y.call.owner, .int .i64 Y.call.born, .int .i64 Y.id, .int .i64 Y.car, .int .i64 Y.mode, .int .i64 Y.filter.kind, .int .i64 Y.filter.n])).run Try.prog w = .ok (decide (X = Y)) w := by
  have u_i64 := Try.underlying3
  have u_u32 := Try.underlying22
  have u_u64 := Try.underlying23
  have us0 := Try.underlying25
  have us1 := Try.underlying27
  rw [show (10000 : Nat) = 9999 + 1 from rfl]
  go_simp
  clear u_i64 u_u32 u_u64 us0 us1
  by_cases he : X = Y
  · subst he
    simp
  · have hf : decide (X = Y) = false := by simpa using he
    rw [hf]
    iterate 19 (refine if_chainR fun _ => ?_)
    exfalso
    refine he ?_
    obtain ⟨x1, x2, x3, x4, x5, x6, ⟨x7, x8, x9, x10, x11, x12, x13, x14⟩, x15, x16, x17, ⟨x18, x19⟩⟩ := X
    obtain ⟨y1, y2, y3, y4, y5, y6, ⟨y7, y8, y9, y10, y11, y12, y13, y14⟩, y15, y16, y17, ⟨y18, y19⟩⟩ := Y
    simp_all
set_option maxRecDepth 20000 in
set_option maxHeartbeats 16000000 in
theorem run_eq_arr (X : List Int) (w : World) : (Op.equalIn 10000 32 (.agg #[.int .i64 (X.getD 0 0), .int .i64 (X.getD 1 0), .int .i64 (X.getD 2 0), .int .i64 (X.getD 3 0), .int .i64 (X.getD 4 0), .int .i64 (X.getD 5 0), .int .i64 (X.getD 6 0), .int .i64 (X.getD 7 0), .int .i64 (X.getD 8 0), .int .i64 (X.getD 9 0), .int .i64 (X.getD 10 0), .int .i64 (X.getD 11 0), .int .i64 (X.getD 12 0), .int .i64 (X.getD 13 0), .int .i64 (X.getD 14 0), .int .i64 (X.getD 15 0)]) (.agg #[.int .i64 (X.getD 0 0), .int .i64 (X.getD 1 0), .int .i64 (X.getD 2 0), .int .i64 (X.getD 3 0), .int .i64 (X.getD 4 0), .int .i64 (X.getD 5 0), .int .i64 (X.getD 6 0), .int .i64 (X.getD 7 0), .int .i64 (X.getD 8 0), .int .i64 (X.getD 9 0), .int .i64 (X.getD 10 0), .int .i64 (X.getD 11 0), .int .i64 (X.getD 12 0), .int .i64 (X.getD 13 0), .int .i64 (X.getD 14 0), .int .i64 (X.getD 15 0)])).run Try.prog w = .ok true w := by
  have h := run_equalIn_ints (P := Try.prog) w 9998 32 3 16 .i64 Try.underlying32 Try.underlying3 (fun w => by go_simp) [X.getD 0 0, X.getD 1 0, X.getD 2 0, X.getD 3 0, X.getD 4 0, X.getD 5 0, X.getD 6 0, X.getD 7 0, X.getD 8 0, X.getD 9 0, X.getD 10 0, X.getD 11 0, X.getD 12 0, X.getD 13 0, X.getD 14 0, X.getD 15 0] [X.getD 0 0, X.getD 1 0, X.getD 2 0, X.getD 3 0, X.getD 4 0, X.getD 5 0, X.getD 6 0, X.getD 7 0, X.getD 8 0, X.getD 9 0, X.getD 10 0, X.getD 11 0, X.getD 12 0, X.getD 13 0, X.getD 14 0, X.getD 15 0] rfl rfl
  rw [decide_eq_true rfl] at h
  exact h
theorem enc_one {q : ReqV} (h : (encodeV q).2 ≠ 0) : encodeV q = (⟨#[]⟩, 1) := by
  have hw : (writeV q).2 = 0 ∨ (writeV q).2 = 1 := by
    unfold writeV
    split
    · exact .inr rfl
    · split
      · exact .inr rfl
      · split
        · exact .inl rfl
        · exact .inr rfl
  refine Prod.ext (encode_no h) ?_
  unfold encodeV at h ⊢
  split
  · rename_i h1
    rw [if_pos h1] at h
    rcases hw with e | e
    · exact absurd e h
    · exact e
  · rename_i h1
    rw [if_neg h1] at h
    split
    · rfl
    · rename_i h2
      rw [if_neg h2] at h
      split
      · rename_i h3
        rw [if_pos h3] at h
        exact absurd rfl h
      · rfl
theorem enc_noF {q : ReqV} (hq : okReq q) (h : formB q = false ∨ goodR (numsQ q) = false) : encodeV q = (⟨#[]⟩, 1) := enc_one fun h0 => by
  have h1 := (enc_ref hq).1.1 h0
  rcases h with e | e
  · rw [e] at h1; cases h1.1
  · rw [e] at h1; cases h1.2
theorem encR_is {q : ReqV} (hg : goodR (numsQ q) = true) : encR (numsQ q) = str (refB (numsQ q)) := by unfold encR; rw [hg]; rfl
theorem dec_yesD {s : ByteArray} (h : decOk s = true) : okReq (decodeV s).1 ∧ formB (decodeV s).1 = true ∧ decL s = numsQ (decodeV s).1 ∧ (decodeV s).2 = 0 := by
  obtain ⟨q, h1, h2, _, h4, h5⟩ := dec_yes h
  rw [h5]
  exact ⟨h1, h2, h4, rfl⟩
def tab_exact_w : Wk.Tab := []
theorem p_exact_w {ops : Array Oper} {rest : List Oper} {o : Oper} {w0 : World} {Q : Exit → Act → World → Prop} {S : List Nat} {R : List Res} {K K' : Wk.Env} {N : Nat} (h : Wk.stp tab_exact_w N ops K o = some K') (n : Wk.Wk N S w0 K' R (wpList Try.prog ops Q rest)) : Wk.Wk N S w0 K R (wpList Try.prog ops Q (o :: rest)) := Wk.wP (T := tab_exact_w) (by kernel_rfl) h n
set_option maxHeartbeats 32000000 in
set_option maxRecDepth 20000 in
theorem exact_w (q : ReqV) (s : ByteArray) (w : World) (hq : okReq q) : Calls Try.prog 3 #[.agg #[.int .i64 q.kind, .int .i64 q.seq, .int .i64 q.who, .int .i64 q.role, .int .u32 q.token, .int .u64 q.key, .int .i64 q.call.id, .int .i64 q.call.kind, .int .i64 q.call.src, .int .i64 q.call.dst, .int .i64 q.call.car, .int .i64 q.call.state, .int .i64 q.call.owner, .int .i64 q.call.born, .int .i64 q.id, .int .i64 q.car, .int .i64 q.mode, .int .i64 q.filter.kind, .int .i64 q.filter.n], .string s] w fun e w' => e = .returned (.bool true) ∧ Off [] w w' := by
 have H := Lib.hid (Hp.start [] w)
 refine wStart (args := [.agg #[.int .i64 q.kind, .int .i64 q.seq, .int .i64 q.who, .int .i64 q.role, .int .u32 q.token, .int .u64 q.key, .int .i64 q.call.id, .int .i64 q.call.kind, .int .i64 q.call.src, .int .i64 q.call.dst, .int .i64 q.call.car, .int .i64 q.call.state, .int .i64 q.call.owner, .int .i64 q.call.born, .int .i64 q.id, .int .i64 q.car, .int .i64 q.mode, .int .i64 q.filter.kind, .int .i64 q.filter.n], .string s]) Try.func3 rfl rfl rfl H ?_
 clear H
 show Wk 90 _ _ [(0, .agg #[.int .i64 q.kind, .int .i64 q.seq, .int .i64 q.who, .int .i64 q.role, .int .u32 q.token, .int .u64 q.key, .int .i64 q.call.id, .int .i64 q.call.kind, .int .i64 q.call.src, .int .i64 q.call.dst, .int .i64 q.call.car, .int .i64 q.call.state, .int .i64 q.call.owner, .int .i64 q.call.born, .int .i64 q.id, .int .i64 q.car, .int .i64 q.mode, .int .i64 q.filter.kind, .int .i64 q.filter.n]), (1, .string s)] _ _
 refine wSeqK fun KK1 hK1 => ?_
 refine wReg ?_
 refine wBx rfl rfl rfl fun b2 => ?_
 refine p_exact_w rfl ?_
 refine wN ?_
 refine tN (wKK hK1 ?_)
 refine wSeqK fun KK2 hK2 => ?_
 refine wSeqK fun KK3 hK3 => ?_
 refine wReg ?_
 refine wQ (l := []) Try.func11 rfl (by kernel_rfl) (.bool true) (fun wc H => awake14 wc) rfl rfl rfl rfl ?_
 refine p_exact_w rfl ?_
 refine wN ?_
 refine tN (wKK hK3 ?_)
 refine wCf rfl ?_
 refine wSk ?_
 refine tN (wKK hK2 ?_)
 refine wSeqK fun KK4 hK4 => ?_
 refine wSeqK fun KK5 hK5 => ?_
 refine wReg ?_
 refine p_exact_w rfl ?_
 refine wE (.int .i64 s.size) rfl rfl rfl (fun aa ww hs _ => by have e19 := hs 19 _ rfl; have g19 := gt_of e19; simp only [execOp]; go_simp <;> omega) ?_
 refine p_exact_w rfl ?_
 refine wN ?_
 refine tN (wKK hK5 ?_)
 refine wCond (E := decide (256 < (s.size : Int))) rfl (fun z1 => ?_) (fun z1 => ?_)
 · skip
   have z1d : 256 < (s.size : Int) := of_decide_eq_true z1
   refine wSeqK fun KK6 hK6 => ?_
   refine wReg ?_
   refine p_exact_w rfl ?_
   refine wN ?_
   refine tN (wKK hK6 ?_)
   refine wRet ?_
   refine tR ?_
   exact wR1 rfl rfl (fun ww H => ⟨rfl, H.out.off⟩)
 · skip
   have z1d : ¬ (256 < (s.size : Int)) := of_decide_eq_false z1
   refine wSk ?_
   refine tN (wKK hK4 ?_)
   refine wSeqK fun KK7 hK7 => ?_
   rcases Bool.eq_false_or_eq_true (formB q) with y2 | y2
   · skip
     rcases Bool.eq_false_or_eq_true (goodR (numsQ q)) with y3 | y3
     · skip
       refine wReg ?_
       refine wLr rfl tymsg_Request 0 rfl [.int .i64 q.kind, .int .i64 q.seq, .int .i64 q.who, .int .i64 q.role, .int .u32 q.token, .int .u64 q.key, .int .i64 q.call.id, .int .i64 q.call.kind, .int .i64 q.call.src, .int .i64 q.call.dst, .int .i64 q.call.car, .int .i64 q.call.state, .int .i64 q.call.owner, .int .i64 q.call.born, .int .i64 q.id, .int .i64 q.car, .int .i64 q.mode, .int .i64 q.filter.kind, .int .i64 q.filter.n] rfl rfl ?_
       refine wQ (l := [.agg #[.int .i64 q.kind, .int .i64 q.seq, .int .i64 q.who, .int .i64 q.role, .int .u32 q.token, .int .u64 q.key, .int .i64 q.call.id, .int .i64 q.call.kind, .int .i64 q.call.src, .int .i64 q.call.dst, .int .i64 q.call.car, .int .i64 q.call.state, .int .i64 q.call.owner, .int .i64 q.call.born, .int .i64 q.id, .int .i64 q.car, .int .i64 q.mode, .int .i64 q.filter.kind, .int .i64 q.filter.n]]) Try.func12 rfl (by kernel_rfl) (.tuple #[.agg #[.int .i64 ((numsQ q).getD 0 0), .int .i64 ((numsQ q).getD 1 0), .int .i64 ((numsQ q).getD 2 0), .int .i64 ((numsQ q).getD 3 0), .int .i64 ((numsQ q).getD 4 0), .int .i64 ((numsQ q).getD 5 0), .int .i64 ((numsQ q).getD 6 0), .int .i64 ((numsQ q).getD 7 0), .int .i64 ((numsQ q).getD 8 0), .int .i64 ((numsQ q).getD 9 0), .int .i64 ((numsQ q).getD 10 0), .int .i64 ((numsQ q).getD 11 0), .int .i64 ((numsQ q).getD 12 0), .int .i64 ((numsQ q).getD 13 0), .int .i64 ((numsQ q).getD 14 0), .int .i64 ((numsQ q).getD 15 0)], .bool true]) (fun wc H => by have h := formC q wc hq; rw [y2] at h; exact h) rfl rfl rfl rfl ?_
       iterate 3 refine p_exact_w rfl ?_
       refine wAl rfl rfl tyhoistwayref14_Request fun b5 => ?_
       refine wSr rfl tyhoistwayref14_Request 0 rfl rfl rfl rfl [.int .i64 ((numsQ q).getD 0 0), .int .i64 ((numsQ q).getD 1 0), .int .i64 ((numsQ q).getD 2 0), .int .i64 ((numsQ q).getD 3 0), .int .i64 ((numsQ q).getD 4 0), .int .i64 ((numsQ q).getD 5 0), .int .i64 ((numsQ q).getD 6 0), .int .i64 ((numsQ q).getD 7 0), .int .i64 ((numsQ q).getD 8 0), .int .i64 ((numsQ q).getD 9 0), .int .i64 ((numsQ q).getD 10 0), .int .i64 ((numsQ q).getD 11 0), .int .i64 ((numsQ q).getD 12 0), .int .i64 ((numsQ q).getD 13 0), .int .i64 ((numsQ q).getD 14 0), .int .i64 ((numsQ q).getD 15 0)] (by first | rfl | (simp only [spl]; rfl)) ?_
       refine p_exact_w rfl ?_
       refine wN ?_
       refine tN (wKK hK7 ?_)
       refine wSeqK fun KK8 hK8 => ?_
       refine wReg ?_
       refine wLr rfl tyhoistwayref14_Request 0 rfl [.int .i64 ((numsQ q).getD 0 0), .int .i64 ((numsQ q).getD 1 0), .int .i64 ((numsQ q).getD 2 0), .int .i64 ((numsQ q).getD 3 0), .int .i64 ((numsQ q).getD 4 0), .int .i64 ((numsQ q).getD 5 0), .int .i64 ((numsQ q).getD 6 0), .int .i64 ((numsQ q).getD 7 0), .int .i64 ((numsQ q).getD 8 0), .int .i64 ((numsQ q).getD 9 0), .int .i64 ((numsQ q).getD 10 0), .int .i64 ((numsQ q).getD 11 0), .int .i64 ((numsQ q).getD 12 0), .int .i64 ((numsQ q).getD 13 0), .int .i64 ((numsQ q).getD 14 0), .int .i64 ((numsQ q).getD 15 0)] rfl rfl ?_
       refine wQ (l := [.agg #[.int .i64 ((numsQ q).getD 0 0), .int .i64 ((numsQ q).getD 1 0), .int .i64 ((numsQ q).getD 2 0), .int .i64 ((numsQ q).getD 3 0), .int .i64 ((numsQ q).getD 4 0), .int .i64 ((numsQ q).getD 5 0), .int .i64 ((numsQ q).getD 6 0), .int .i64 ((numsQ q).getD 7 0), .int .i64 ((numsQ q).getD 8 0), .int .i64 ((numsQ q).getD 9 0), .int .i64 ((numsQ q).getD 10 0), .int .i64 ((numsQ q).getD 11 0), .int .i64 ((numsQ q).getD 12 0), .int .i64 ((numsQ q).getD 13 0), .int .i64 ((numsQ q).getD 14 0), .int .i64 ((numsQ q).getD 15 0)]]) Try.func13 rfl (by kernel_rfl) (.tuple #[.string (encR (numsQ q)), .bool true]) (fun wc H => by have h := refEncC (numsQ q) wc; rw [y3] at h; exact h) rfl rfl rfl rfl ?_
       iterate 5 refine p_exact_w rfl ?_
       refine wN ?_
       refine tN (wKK hK8 ?_)
       refine wSeqK fun KK9 hK9 => ?_
       intro aa ww nn dd hs H
       have hev := enc_refV hq y2 y3
       have her := encR_is y3
       have hf6 : (((encodeV q).2) != 0) = false := by rw [hev]; rfl
       have hf7 : (((encodeV q).1).toList == (encR (numsQ q)).toList) = true := by rw [hev, her]; simp
       refine wIn nn dd hs H ?_
       refine wReg ?_
       refine wLr rfl tymsg_Request 1 rfl [.int .i64 q.kind, .int .i64 q.seq, .int .i64 q.who, .int .i64 q.role, .int .u32 q.token, .int .u64 q.key, .int .i64 q.call.id, .int .i64 q.call.kind, .int .i64 q.call.src, .int .i64 q.call.dst, .int .i64 q.call.car, .int .i64 q.call.state, .int .i64 q.call.owner, .int .i64 q.call.born, .int .i64 q.id, .int .i64 q.car, .int .i64 q.mode, .int .i64 q.filter.kind, .int .i64 q.filter.n] rfl rfl ?_
       refine wQ (l := [.agg #[.int .i64 q.kind, .int .i64 q.seq, .int .i64 q.who, .int .i64 q.role, .int .u32 q.token, .int .u64 q.key, .int .i64 q.call.id, .int .i64 q.call.kind, .int .i64 q.call.src, .int .i64 q.call.dst, .int .i64 q.call.car, .int .i64 q.call.state, .int .i64 q.call.owner, .int .i64 q.call.born, .int .i64 q.id, .int .i64 q.car, .int .i64 q.mode, .int .i64 q.filter.kind, .int .i64 q.filter.n]]) Try.func14 rfl (by kernel_rfl) (.tuple #[.string ((encodeV q).1), .int .i64 ((encodeV q).2)]) (fun wc H => encodeC q (Lib.hid hq) wc) rfl rfl rfl rfl ?_
       iterate 5 refine p_exact_w rfl ?_
       refine wN ?_
       refine tN (wKK hK9 ?_)
       refine wSeqK fun KK10 hK10 => ?_
       refine wSeqK fun KK11 hK11 => ?_
       refine wReg ?_
       iterate 6 refine p_exact_w rfl ?_
       refine wN ?_
       refine tN (wKK hK11 ?_)
       refine wCf rfl ?_
       refine wSeqK fun KK12 hK12 => ?_
       refine wReg ?_
       iterate 2 refine p_exact_w rfl ?_
       refine wB 50 rfl hf6 ?_
       iterate 3 refine p_exact_w rfl ?_
       refine wE (.bool false) rfl rfl rfl (fun aa ww hs _ => by exact exec_sne (c := true) rfl (hs _ _ rfl) (hs _ _ rfl) (by first | exact hf7 | (rw [ByteArray.toList_eq]; exact hf7) | (simpa [ByteArray.toList_eq] using hf7))) ?_
       refine p_exact_w rfl ?_
       refine wN ?_
       refine tN (wKK hK12 ?_)
       refine wCf rfl ?_
       refine wSk ?_
       refine tN (wKK hK10 ?_)
       refine wSeqK fun KK13 hK13 => ?_
       rcases Bool.eq_false_or_eq_true (decOk s) with y4 | y4
       · skip
         intro aa ww nn dd hs H
         obtain ⟨hqd, hfd, hdl, hd0⟩ := dec_yesD y4
         have hg1 : (((decodeV s).2) == 0) = true := by rw [hd0]; rfl
         have hg2 : (formB ((decodeV s).1)) = true := hfd
         refine wIn nn dd hs H ?_
         refine wReg ?_
         refine p_exact_w rfl ?_
         refine wQ (l := [.string s]) Try.func15 rfl (by kernel_rfl) (.tuple #[.agg #[.int .i64 (((decodeV s).1).kind), .int .i64 (((decodeV s).1).seq), .int .i64 (((decodeV s).1).who), .int .i64 (((decodeV s).1).role), .int .u32 (((decodeV s).1).token), .int .u64 (((decodeV s).1).key), .int .i64 ((((decodeV s).1).call).id), .int .i64 ((((decodeV s).1).call).kind), .int .i64 ((((decodeV s).1).call).src), .int .i64 ((((decodeV s).1).call).dst), .int .i64 ((((decodeV s).1).call).car), .int .i64 ((((decodeV s).1).call).state), .int .i64 ((((decodeV s).1).call).owner), .int .i64 ((((decodeV s).1).call).born), .int .i64 (((decodeV s).1).id), .int .i64 (((decodeV s).1).car), .int .i64 (((decodeV s).1).mode), .int .i64 ((((decodeV s).1).filter).kind), .int .i64 ((((decodeV s).1).filter).n)], .int .i64 ((decodeV s).2)]) (fun wc H => decodeC s wc) rfl rfl rfl rfl ?_
         iterate 3 refine p_exact_w rfl ?_
         refine wAl rfl rfl tymsg_Request fun b11 => ?_
         refine wSr rfl tymsg_Request 0 rfl rfl rfl rfl [.int .i64 (((decodeV s).1).kind), .int .i64 (((decodeV s).1).seq), .int .i64 (((decodeV s).1).who), .int .i64 (((decodeV s).1).role), .int .u32 (((decodeV s).1).token), .int .u64 (((decodeV s).1).key), .int .i64 ((((decodeV s).1).call).id), .int .i64 ((((decodeV s).1).call).kind), .int .i64 ((((decodeV s).1).call).src), .int .i64 ((((decodeV s).1).call).dst), .int .i64 ((((decodeV s).1).call).car), .int .i64 ((((decodeV s).1).call).state), .int .i64 ((((decodeV s).1).call).owner), .int .i64 ((((decodeV s).1).call).born), .int .i64 (((decodeV s).1).id), .int .i64 (((decodeV s).1).car), .int .i64 (((decodeV s).1).mode), .int .i64 ((((decodeV s).1).filter).kind), .int .i64 ((((decodeV s).1).filter).n)] (by first | rfl | (simp only [spl]; rfl)) ?_
         refine p_exact_w rfl ?_
         refine wN ?_
         refine tN (wKK hK13 ?_)
         refine wSeqK fun KK14 hK14 => ?_
         refine wReg ?_
         refine p_exact_w rfl ?_
         refine wQ (l := [.string s]) Try.func16 rfl (by kernel_rfl) (.tuple #[.agg #[.int .i64 ((numsQ ((decodeV s).1)).getD 0 0), .int .i64 ((numsQ ((decodeV s).1)).getD 1 0), .int .i64 ((numsQ ((decodeV s).1)).getD 2 0), .int .i64 ((numsQ ((decodeV s).1)).getD 3 0), .int .i64 ((numsQ ((decodeV s).1)).getD 4 0), .int .i64 ((numsQ ((decodeV s).1)).getD 5 0), .int .i64 ((numsQ ((decodeV s).1)).getD 6 0), .int .i64 ((numsQ ((decodeV s).1)).getD 7 0), .int .i64 ((numsQ ((decodeV s).1)).getD 8 0), .int .i64 ((numsQ ((decodeV s).1)).getD 9 0), .int .i64 ((numsQ ((decodeV s).1)).getD 10 0), .int .i64 ((numsQ ((decodeV s).1)).getD 11 0), .int .i64 ((numsQ ((decodeV s).1)).getD 12 0), .int .i64 ((numsQ ((decodeV s).1)).getD 13 0), .int .i64 ((numsQ ((decodeV s).1)).getD 14 0), .int .i64 ((numsQ ((decodeV s).1)).getD 15 0)], .bool true]) (fun wc H => by have h := refDecC s wc; rw [y4, hdl] at h; exact h) rfl rfl rfl rfl ?_
         iterate 3 refine p_exact_w rfl ?_
         refine wAl rfl rfl tyhoistwayref14_Request fun b13 => ?_
         refine wSr rfl tyhoistwayref14_Request 0 rfl rfl rfl rfl [.int .i64 ((numsQ ((decodeV s).1)).getD 0 0), .int .i64 ((numsQ ((decodeV s).1)).getD 1 0), .int .i64 ((numsQ ((decodeV s).1)).getD 2 0), .int .i64 ((numsQ ((decodeV s).1)).getD 3 0), .int .i64 ((numsQ ((decodeV s).1)).getD 4 0), .int .i64 ((numsQ ((decodeV s).1)).getD 5 0), .int .i64 ((numsQ ((decodeV s).1)).getD 6 0), .int .i64 ((numsQ ((decodeV s).1)).getD 7 0), .int .i64 ((numsQ ((decodeV s).1)).getD 8 0), .int .i64 ((numsQ ((decodeV s).1)).getD 9 0), .int .i64 ((numsQ ((decodeV s).1)).getD 10 0), .int .i64 ((numsQ ((decodeV s).1)).getD 11 0), .int .i64 ((numsQ ((decodeV s).1)).getD 12 0), .int .i64 ((numsQ ((decodeV s).1)).getD 13 0), .int .i64 ((numsQ ((decodeV s).1)).getD 14 0), .int .i64 ((numsQ ((decodeV s).1)).getD 15 0)] (by first | rfl | (simp only [spl]; rfl)) ?_
         refine p_exact_w rfl ?_
         refine wN ?_
         refine tN (wKK hK14 ?_)
         refine wSeqK fun KK15 hK15 => ?_
         refine wSeqK fun KK16 hK16 => ?_
         refine wReg ?_
         iterate 2 refine p_exact_w rfl ?_
         refine wN ?_
         refine tN (wKK hK16 ?_)
         refine wCf rfl ?_
         refine wSk ?_
         refine tN (wKK hK15 ?_)
         refine wSeqK fun KK17 hK17 => ?_
         refine wReg ?_
         refine wLr rfl tymsg_Request 1 rfl [.int .i64 (((decodeV s).1).kind), .int .i64 (((decodeV s).1).seq), .int .i64 (((decodeV s).1).who), .int .i64 (((decodeV s).1).role), .int .u32 (((decodeV s).1).token), .int .u64 (((decodeV s).1).key), .int .i64 ((((decodeV s).1).call).id), .int .i64 ((((decodeV s).1).call).kind), .int .i64 ((((decodeV s).1).call).src), .int .i64 ((((decodeV s).1).call).dst), .int .i64 ((((decodeV s).1).call).car), .int .i64 ((((decodeV s).1).call).state), .int .i64 ((((decodeV s).1).call).owner), .int .i64 ((((decodeV s).1).call).born), .int .i64 (((decodeV s).1).id), .int .i64 (((decodeV s).1).car), .int .i64 (((decodeV s).1).mode), .int .i64 ((((decodeV s).1).filter).kind), .int .i64 ((((decodeV s).1).filter).n)] rfl rfl ?_
         refine wQ (l := [.agg #[.int .i64 (((decodeV s).1).kind), .int .i64 (((decodeV s).1).seq), .int .i64 (((decodeV s).1).who), .int .i64 (((decodeV s).1).role), .int .u32 (((decodeV s).1).token), .int .u64 (((decodeV s).1).key), .int .i64 ((((decodeV s).1).call).id), .int .i64 ((((decodeV s).1).call).kind), .int .i64 ((((decodeV s).1).call).src), .int .i64 ((((decodeV s).1).call).dst), .int .i64 ((((decodeV s).1).call).car), .int .i64 ((((decodeV s).1).call).state), .int .i64 ((((decodeV s).1).call).owner), .int .i64 ((((decodeV s).1).call).born), .int .i64 (((decodeV s).1).id), .int .i64 (((decodeV s).1).car), .int .i64 (((decodeV s).1).mode), .int .i64 ((((decodeV s).1).filter).kind), .int .i64 ((((decodeV s).1).filter).n)]]) Try.func12 rfl (by kernel_rfl) (.tuple #[.agg #[.int .i64 ((numsQ ((decodeV s).1)).getD 0 0), .int .i64 ((numsQ ((decodeV s).1)).getD 1 0), .int .i64 ((numsQ ((decodeV s).1)).getD 2 0), .int .i64 ((numsQ ((decodeV s).1)).getD 3 0), .int .i64 ((numsQ ((decodeV s).1)).getD 4 0), .int .i64 ((numsQ ((decodeV s).1)).getD 5 0), .int .i64 ((numsQ ((decodeV s).1)).getD 6 0), .int .i64 ((numsQ ((decodeV s).1)).getD 7 0), .int .i64 ((numsQ ((decodeV s).1)).getD 8 0), .int .i64 ((numsQ ((decodeV s).1)).getD 9 0), .int .i64 ((numsQ ((decodeV s).1)).getD 10 0), .int .i64 ((numsQ ((decodeV s).1)).getD 11 0), .int .i64 ((numsQ ((decodeV s).1)).getD 12 0), .int .i64 ((numsQ ((decodeV s).1)).getD 13 0), .int .i64 ((numsQ ((decodeV s).1)).getD 14 0), .int .i64 ((numsQ ((decodeV s).1)).getD 15 0)], .bool true]) (fun wc H => by have h := formC ((decodeV s).1) wc hqd; rw [hg2] at h; exact h) rfl rfl rfl rfl ?_
         iterate 3 refine p_exact_w rfl ?_
         refine wAl rfl rfl tyhoistwayref14_Request fun b15 => ?_
         refine wSr rfl tyhoistwayref14_Request 0 rfl rfl rfl rfl [.int .i64 ((numsQ ((decodeV s).1)).getD 0 0), .int .i64 ((numsQ ((decodeV s).1)).getD 1 0), .int .i64 ((numsQ ((decodeV s).1)).getD 2 0), .int .i64 ((numsQ ((decodeV s).1)).getD 3 0), .int .i64 ((numsQ ((decodeV s).1)).getD 4 0), .int .i64 ((numsQ ((decodeV s).1)).getD 5 0), .int .i64 ((numsQ ((decodeV s).1)).getD 6 0), .int .i64 ((numsQ ((decodeV s).1)).getD 7 0), .int .i64 ((numsQ ((decodeV s).1)).getD 8 0), .int .i64 ((numsQ ((decodeV s).1)).getD 9 0), .int .i64 ((numsQ ((decodeV s).1)).getD 10 0), .int .i64 ((numsQ ((decodeV s).1)).getD 11 0), .int .i64 ((numsQ ((decodeV s).1)).getD 12 0), .int .i64 ((numsQ ((decodeV s).1)).getD 13 0), .int .i64 ((numsQ ((decodeV s).1)).getD 14 0), .int .i64 ((numsQ ((decodeV s).1)).getD 15 0)] (by first | rfl | (simp only [spl]; rfl)) ?_
         refine p_exact_w rfl ?_
         refine wN ?_
         refine tN (wKK hK17 ?_)
         refine wSeqK fun KK18 hK18 => ?_
         refine wReg ?_
         iterate 2 refine p_exact_w rfl ?_
         refine wB 81 rfl hg1 ?_
         iterate 4 refine p_exact_w rfl ?_
         refine wLr rfl tyhoistwayref14_Request 0 rfl [.int .i64 ((numsQ ((decodeV s).1)).getD 0 0), .int .i64 ((numsQ ((decodeV s).1)).getD 1 0), .int .i64 ((numsQ ((decodeV s).1)).getD 2 0), .int .i64 ((numsQ ((decodeV s).1)).getD 3 0), .int .i64 ((numsQ ((decodeV s).1)).getD 4 0), .int .i64 ((numsQ ((decodeV s).1)).getD 5 0), .int .i64 ((numsQ ((decodeV s).1)).getD 6 0), .int .i64 ((numsQ ((decodeV s).1)).getD 7 0), .int .i64 ((numsQ ((decodeV s).1)).getD 8 0), .int .i64 ((numsQ ((decodeV s).1)).getD 9 0), .int .i64 ((numsQ ((decodeV s).1)).getD 10 0), .int .i64 ((numsQ ((decodeV s).1)).getD 11 0), .int .i64 ((numsQ ((decodeV s).1)).getD 12 0), .int .i64 ((numsQ ((decodeV s).1)).getD 13 0), .int .i64 ((numsQ ((decodeV s).1)).getD 14 0), .int .i64 ((numsQ ((decodeV s).1)).getD 15 0)] rfl rfl ?_
         refine wLr rfl tyhoistwayref14_Request 1 rfl [.int .i64 ((numsQ ((decodeV s).1)).getD 0 0), .int .i64 ((numsQ ((decodeV s).1)).getD 1 0), .int .i64 ((numsQ ((decodeV s).1)).getD 2 0), .int .i64 ((numsQ ((decodeV s).1)).getD 3 0), .int .i64 ((numsQ ((decodeV s).1)).getD 4 0), .int .i64 ((numsQ ((decodeV s).1)).getD 5 0), .int .i64 ((numsQ ((decodeV s).1)).getD 6 0), .int .i64 ((numsQ ((decodeV s).1)).getD 7 0), .int .i64 ((numsQ ((decodeV s).1)).getD 8 0), .int .i64 ((numsQ ((decodeV s).1)).getD 9 0), .int .i64 ((numsQ ((decodeV s).1)).getD 10 0), .int .i64 ((numsQ ((decodeV s).1)).getD 11 0), .int .i64 ((numsQ ((decodeV s).1)).getD 12 0), .int .i64 ((numsQ ((decodeV s).1)).getD 13 0), .int .i64 ((numsQ ((decodeV s).1)).getD 14 0), .int .i64 ((numsQ ((decodeV s).1)).getD 15 0)] rfl rfl ?_
         refine wE (.bool (true)) rfl rfl rfl (fun aa wc hs H => exec_eql rfl (hs _ _ rfl) (hs _ _ rfl) (by kernel_rfl) (run_eq_arr (numsQ ((decodeV s).1)) wc)) ?_
         iterate 2 refine p_exact_w rfl ?_
         refine wN ?_
         refine tN (wKK hK18 ?_)
         refine wRet ?_
         exact wR1 rfl rfl (fun ww H => ⟨rfl, H.out.off⟩)
       · skip
         intro aa ww nn dd hs H
         have hdn := dec_no y4
         have hg1 : (((decodeV s).2) == 4) = true := by rw [hdn]; rfl
         have hg2 : (decide ((decodeV s).1 = (⟨0, 0, 0, 0, 0, 0, (⟨0, 0, 0, 0, 0, 0, 0, 0⟩ : CallV), 0, 0, 0, (⟨0, 0⟩ : FilterV)⟩ : ReqV))) = true := by rw [hdn]; exact decide_eq_true rfl
         refine wIn nn dd hs H ?_
         refine wReg ?_
         refine p_exact_w rfl ?_
         refine wQ (l := [.string s]) Try.func15 rfl (by kernel_rfl) (.tuple #[.agg #[.int .i64 (((decodeV s).1).kind), .int .i64 (((decodeV s).1).seq), .int .i64 (((decodeV s).1).who), .int .i64 (((decodeV s).1).role), .int .u32 (((decodeV s).1).token), .int .u64 (((decodeV s).1).key), .int .i64 ((((decodeV s).1).call).id), .int .i64 ((((decodeV s).1).call).kind), .int .i64 ((((decodeV s).1).call).src), .int .i64 ((((decodeV s).1).call).dst), .int .i64 ((((decodeV s).1).call).car), .int .i64 ((((decodeV s).1).call).state), .int .i64 ((((decodeV s).1).call).owner), .int .i64 ((((decodeV s).1).call).born), .int .i64 (((decodeV s).1).id), .int .i64 (((decodeV s).1).car), .int .i64 (((decodeV s).1).mode), .int .i64 ((((decodeV s).1).filter).kind), .int .i64 ((((decodeV s).1).filter).n)], .int .i64 ((decodeV s).2)]) (fun wc H => decodeC s wc) rfl rfl rfl rfl ?_
         iterate 3 refine p_exact_w rfl ?_
         refine wAl rfl rfl tymsg_Request fun b11 => ?_
         refine wSr rfl tymsg_Request 0 rfl rfl rfl rfl [.int .i64 (((decodeV s).1).kind), .int .i64 (((decodeV s).1).seq), .int .i64 (((decodeV s).1).who), .int .i64 (((decodeV s).1).role), .int .u32 (((decodeV s).1).token), .int .u64 (((decodeV s).1).key), .int .i64 ((((decodeV s).1).call).id), .int .i64 ((((decodeV s).1).call).kind), .int .i64 ((((decodeV s).1).call).src), .int .i64 ((((decodeV s).1).call).dst), .int .i64 ((((decodeV s).1).call).car), .int .i64 ((((decodeV s).1).call).state), .int .i64 ((((decodeV s).1).call).owner), .int .i64 ((((decodeV s).1).call).born), .int .i64 (((decodeV s).1).id), .int .i64 (((decodeV s).1).car), .int .i64 (((decodeV s).1).mode), .int .i64 ((((decodeV s).1).filter).kind), .int .i64 ((((decodeV s).1).filter).n)] (by first | rfl | (simp only [spl]; rfl)) ?_
         refine p_exact_w rfl ?_
         refine wN ?_
         refine tN (wKK hK13 ?_)
         refine wSeqK fun KK19 hK19 => ?_
         refine wReg ?_
         refine p_exact_w rfl ?_
         refine wQ (l := [.string s]) Try.func16 rfl (by kernel_rfl) (.tuple #[.agg #[.int .i64 ((decL s).getD 0 0), .int .i64 ((decL s).getD 1 0), .int .i64 ((decL s).getD 2 0), .int .i64 ((decL s).getD 3 0), .int .i64 ((decL s).getD 4 0), .int .i64 ((decL s).getD 5 0), .int .i64 ((decL s).getD 6 0), .int .i64 ((decL s).getD 7 0), .int .i64 ((decL s).getD 8 0), .int .i64 ((decL s).getD 9 0), .int .i64 ((decL s).getD 10 0), .int .i64 ((decL s).getD 11 0), .int .i64 ((decL s).getD 12 0), .int .i64 ((decL s).getD 13 0), .int .i64 ((decL s).getD 14 0), .int .i64 ((decL s).getD 15 0)], .bool false]) (fun wc H => by have h := refDecC s wc; rw [y4] at h; exact h) rfl rfl rfl rfl ?_
         iterate 3 refine p_exact_w rfl ?_
         refine wAl rfl rfl tyhoistwayref14_Request fun b13 => ?_
         refine wSr rfl tyhoistwayref14_Request 0 rfl rfl rfl rfl [.int .i64 ((decL s).getD 0 0), .int .i64 ((decL s).getD 1 0), .int .i64 ((decL s).getD 2 0), .int .i64 ((decL s).getD 3 0), .int .i64 ((decL s).getD 4 0), .int .i64 ((decL s).getD 5 0), .int .i64 ((decL s).getD 6 0), .int .i64 ((decL s).getD 7 0), .int .i64 ((decL s).getD 8 0), .int .i64 ((decL s).getD 9 0), .int .i64 ((decL s).getD 10 0), .int .i64 ((decL s).getD 11 0), .int .i64 ((decL s).getD 12 0), .int .i64 ((decL s).getD 13 0), .int .i64 ((decL s).getD 14 0), .int .i64 ((decL s).getD 15 0)] (by first | rfl | (simp only [spl]; rfl)) ?_
         refine p_exact_w rfl ?_
         refine wN ?_
         refine tN (wKK hK19 ?_)
         refine wSeqK fun KK20 hK20 => ?_
         refine wSeqK fun KK21 hK21 => ?_
         refine wReg ?_
         iterate 2 refine p_exact_w rfl ?_
         refine wN ?_
         refine tN (wKK hK21 ?_)
         refine wCt rfl ?_
         refine wSeqK fun KK22 hK22 => ?_
         refine wReg ?_
         iterate 2 refine p_exact_w rfl ?_
         refine wB 69 rfl hg1 ?_
         refine p_exact_w rfl ?_
         refine wLr rfl tymsg_Request 1 rfl [.int .i64 (((decodeV s).1).kind), .int .i64 (((decodeV s).1).seq), .int .i64 (((decodeV s).1).who), .int .i64 (((decodeV s).1).role), .int .u32 (((decodeV s).1).token), .int .u64 (((decodeV s).1).key), .int .i64 ((((decodeV s).1).call).id), .int .i64 ((((decodeV s).1).call).kind), .int .i64 ((((decodeV s).1).call).src), .int .i64 ((((decodeV s).1).call).dst), .int .i64 ((((decodeV s).1).call).car), .int .i64 ((((decodeV s).1).call).state), .int .i64 ((((decodeV s).1).call).owner), .int .i64 ((((decodeV s).1).call).born), .int .i64 (((decodeV s).1).id), .int .i64 (((decodeV s).1).car), .int .i64 (((decodeV s).1).mode), .int .i64 ((((decodeV s).1).filter).kind), .int .i64 ((((decodeV s).1).filter).n)] rfl rfl ?_
         refine wE (.agg #[.int .i64 0, .int .i64 0, .int .i64 0, .int .i64 0, .int .u32 0, .int .u64 0, .int .i64 0, .int .i64 0, .int .i64 0, .int .i64 0, .int .i64 0, .int .i64 0, .int .i64 0, .int .i64 0, .int .i64 0, .int .i64 0, .int .i64 0, .int .i64 0, .int .i64 0]) rfl rfl rfl (fun aa ww hs _ => by simp only [execOp]; go_simp <;> omega) ?_
         refine wE (.bool ((decide (((decodeV s).1) = (⟨0, 0, 0, 0, 0, 0, (⟨0, 0, 0, 0, 0, 0, 0, 0⟩ : CallV), 0, 0, 0, (⟨0, 0⟩ : FilterV)⟩ : ReqV))))) rfl rfl rfl (fun aa wc hs H => exec_eql rfl (hs _ _ rfl) (hs _ _ rfl) (by kernel_rfl) (run_eq_req ((decodeV s).1) (⟨0, 0, 0, 0, 0, 0, (⟨0, 0, 0, 0, 0, 0, 0, 0⟩ : CallV), 0, 0, 0, (⟨0, 0⟩ : FilterV)⟩ : ReqV) wc)) ?_
         refine wB 73 rfl hg2 ?_
         iterate 2 refine p_exact_w rfl ?_
         refine wN ?_
         refine tN (wKK hK22 ?_)
         refine wRet ?_
         refine tR ?_
         exact wR1 rfl rfl (fun ww H => ⟨rfl, H.out.off⟩)
     · skip
       refine wReg ?_
       refine wLr rfl tymsg_Request 0 rfl [.int .i64 q.kind, .int .i64 q.seq, .int .i64 q.who, .int .i64 q.role, .int .u32 q.token, .int .u64 q.key, .int .i64 q.call.id, .int .i64 q.call.kind, .int .i64 q.call.src, .int .i64 q.call.dst, .int .i64 q.call.car, .int .i64 q.call.state, .int .i64 q.call.owner, .int .i64 q.call.born, .int .i64 q.id, .int .i64 q.car, .int .i64 q.mode, .int .i64 q.filter.kind, .int .i64 q.filter.n] rfl rfl ?_
       refine wQ (l := [.agg #[.int .i64 q.kind, .int .i64 q.seq, .int .i64 q.who, .int .i64 q.role, .int .u32 q.token, .int .u64 q.key, .int .i64 q.call.id, .int .i64 q.call.kind, .int .i64 q.call.src, .int .i64 q.call.dst, .int .i64 q.call.car, .int .i64 q.call.state, .int .i64 q.call.owner, .int .i64 q.call.born, .int .i64 q.id, .int .i64 q.car, .int .i64 q.mode, .int .i64 q.filter.kind, .int .i64 q.filter.n]]) Try.func12 rfl (by kernel_rfl) (.tuple #[.agg #[.int .i64 ((numsQ q).getD 0 0), .int .i64 ((numsQ q).getD 1 0), .int .i64 ((numsQ q).getD 2 0), .int .i64 ((numsQ q).getD 3 0), .int .i64 ((numsQ q).getD 4 0), .int .i64 ((numsQ q).getD 5 0), .int .i64 ((numsQ q).getD 6 0), .int .i64 ((numsQ q).getD 7 0), .int .i64 ((numsQ q).getD 8 0), .int .i64 ((numsQ q).getD 9 0), .int .i64 ((numsQ q).getD 10 0), .int .i64 ((numsQ q).getD 11 0), .int .i64 ((numsQ q).getD 12 0), .int .i64 ((numsQ q).getD 13 0), .int .i64 ((numsQ q).getD 14 0), .int .i64 ((numsQ q).getD 15 0)], .bool true]) (fun wc H => by have h := formC q wc hq; rw [y2] at h; exact h) rfl rfl rfl rfl ?_
       iterate 3 refine p_exact_w rfl ?_
       refine wAl rfl rfl tyhoistwayref14_Request fun b5 => ?_
       refine wSr rfl tyhoistwayref14_Request 0 rfl rfl rfl rfl [.int .i64 ((numsQ q).getD 0 0), .int .i64 ((numsQ q).getD 1 0), .int .i64 ((numsQ q).getD 2 0), .int .i64 ((numsQ q).getD 3 0), .int .i64 ((numsQ q).getD 4 0), .int .i64 ((numsQ q).getD 5 0), .int .i64 ((numsQ q).getD 6 0), .int .i64 ((numsQ q).getD 7 0), .int .i64 ((numsQ q).getD 8 0), .int .i64 ((numsQ q).getD 9 0), .int .i64 ((numsQ q).getD 10 0), .int .i64 ((numsQ q).getD 11 0), .int .i64 ((numsQ q).getD 12 0), .int .i64 ((numsQ q).getD 13 0), .int .i64 ((numsQ q).getD 14 0), .int .i64 ((numsQ q).getD 15 0)] (by first | rfl | (simp only [spl]; rfl)) ?_
       refine p_exact_w rfl ?_
       refine wN ?_
       refine tN (wKK hK7 ?_)
       refine wSeqK fun KK23 hK23 => ?_
       refine wReg ?_
       refine wLr rfl tyhoistwayref14_Request 0 rfl [.int .i64 ((numsQ q).getD 0 0), .int .i64 ((numsQ q).getD 1 0), .int .i64 ((numsQ q).getD 2 0), .int .i64 ((numsQ q).getD 3 0), .int .i64 ((numsQ q).getD 4 0), .int .i64 ((numsQ q).getD 5 0), .int .i64 ((numsQ q).getD 6 0), .int .i64 ((numsQ q).getD 7 0), .int .i64 ((numsQ q).getD 8 0), .int .i64 ((numsQ q).getD 9 0), .int .i64 ((numsQ q).getD 10 0), .int .i64 ((numsQ q).getD 11 0), .int .i64 ((numsQ q).getD 12 0), .int .i64 ((numsQ q).getD 13 0), .int .i64 ((numsQ q).getD 14 0), .int .i64 ((numsQ q).getD 15 0)] rfl rfl ?_
       refine wQ (l := [.agg #[.int .i64 ((numsQ q).getD 0 0), .int .i64 ((numsQ q).getD 1 0), .int .i64 ((numsQ q).getD 2 0), .int .i64 ((numsQ q).getD 3 0), .int .i64 ((numsQ q).getD 4 0), .int .i64 ((numsQ q).getD 5 0), .int .i64 ((numsQ q).getD 6 0), .int .i64 ((numsQ q).getD 7 0), .int .i64 ((numsQ q).getD 8 0), .int .i64 ((numsQ q).getD 9 0), .int .i64 ((numsQ q).getD 10 0), .int .i64 ((numsQ q).getD 11 0), .int .i64 ((numsQ q).getD 12 0), .int .i64 ((numsQ q).getD 13 0), .int .i64 ((numsQ q).getD 14 0), .int .i64 ((numsQ q).getD 15 0)]]) Try.func13 rfl (by kernel_rfl) (.tuple #[.string (encR (numsQ q)), .bool false]) (fun wc H => by have h := refEncC (numsQ q) wc; rw [y3] at h; exact h) rfl rfl rfl rfl ?_
       iterate 5 refine p_exact_w rfl ?_
       refine wN ?_
       refine tN (wKK hK23 ?_)
       refine wSeqK fun KK24 hK24 => ?_
       intro aa ww nn dd hs H
       have hev := enc_noF hq (.inr y3)
       have hf6 : (((encodeV q).2) != 1) = false := by rw [hev]; rfl
       have hf7 : (((encodeV q).1).toList.isEmpty) = true := by rw [hev, ByteArray.toList_eq]; rfl
       refine wIn nn dd hs H ?_
       refine wReg ?_
       refine wLr rfl tymsg_Request 1 rfl [.int .i64 q.kind, .int .i64 q.seq, .int .i64 q.who, .int .i64 q.role, .int .u32 q.token, .int .u64 q.key, .int .i64 q.call.id, .int .i64 q.call.kind, .int .i64 q.call.src, .int .i64 q.call.dst, .int .i64 q.call.car, .int .i64 q.call.state, .int .i64 q.call.owner, .int .i64 q.call.born, .int .i64 q.id, .int .i64 q.car, .int .i64 q.mode, .int .i64 q.filter.kind, .int .i64 q.filter.n] rfl rfl ?_
       refine wQ (l := [.agg #[.int .i64 q.kind, .int .i64 q.seq, .int .i64 q.who, .int .i64 q.role, .int .u32 q.token, .int .u64 q.key, .int .i64 q.call.id, .int .i64 q.call.kind, .int .i64 q.call.src, .int .i64 q.call.dst, .int .i64 q.call.car, .int .i64 q.call.state, .int .i64 q.call.owner, .int .i64 q.call.born, .int .i64 q.id, .int .i64 q.car, .int .i64 q.mode, .int .i64 q.filter.kind, .int .i64 q.filter.n]]) Try.func14 rfl (by kernel_rfl) (.tuple #[.string ((encodeV q).1), .int .i64 ((encodeV q).2)]) (fun wc H => encodeC q (Lib.hid hq) wc) rfl rfl rfl rfl ?_
       iterate 5 refine p_exact_w rfl ?_
       refine wN ?_
       refine tN (wKK hK24 ?_)
       refine wSeqK fun KK25 hK25 => ?_
       refine wSeqK fun KK26 hK26 => ?_
       refine wReg ?_
       iterate 6 refine p_exact_w rfl ?_
       refine wN ?_
       refine tN (wKK hK26 ?_)
       refine wCt rfl ?_
       refine wSeqK fun KK27 hK27 => ?_
       refine wReg ?_
       iterate 2 refine p_exact_w rfl ?_
       refine wB 44 rfl hf6 ?_
       iterate 2 refine p_exact_w rfl ?_
       refine wE (.bool false) rfl rfl rfl (fun aa ww hs _ => by exact exec_sne (c := true) rfl (hs _ _ rfl) (rfl) (by first | exact hf7 | (rw [ByteArray.toList_eq]; exact hf7) | (simpa [ByteArray.toList_eq] using hf7))) ?_
       refine p_exact_w rfl ?_
       refine wN ?_
       refine tN (wKK hK27 ?_)
       refine wCf rfl ?_
       refine wSk ?_
       refine tN (wKK hK25 ?_)
       refine wSeqK fun KK28 hK28 => ?_
       rcases Bool.eq_false_or_eq_true (decOk s) with y5 | y5
       · skip
         intro aa ww nn dd hs H
         obtain ⟨hqd, hfd, hdl, hd0⟩ := dec_yesD y5
         have hg1 : (((decodeV s).2) == 0) = true := by rw [hd0]; rfl
         have hg2 : (formB ((decodeV s).1)) = true := hfd
         refine wIn nn dd hs H ?_
         refine wReg ?_
         refine p_exact_w rfl ?_
         refine wQ (l := [.string s]) Try.func15 rfl (by kernel_rfl) (.tuple #[.agg #[.int .i64 (((decodeV s).1).kind), .int .i64 (((decodeV s).1).seq), .int .i64 (((decodeV s).1).who), .int .i64 (((decodeV s).1).role), .int .u32 (((decodeV s).1).token), .int .u64 (((decodeV s).1).key), .int .i64 ((((decodeV s).1).call).id), .int .i64 ((((decodeV s).1).call).kind), .int .i64 ((((decodeV s).1).call).src), .int .i64 ((((decodeV s).1).call).dst), .int .i64 ((((decodeV s).1).call).car), .int .i64 ((((decodeV s).1).call).state), .int .i64 ((((decodeV s).1).call).owner), .int .i64 ((((decodeV s).1).call).born), .int .i64 (((decodeV s).1).id), .int .i64 (((decodeV s).1).car), .int .i64 (((decodeV s).1).mode), .int .i64 ((((decodeV s).1).filter).kind), .int .i64 ((((decodeV s).1).filter).n)], .int .i64 ((decodeV s).2)]) (fun wc H => decodeC s wc) rfl rfl rfl rfl ?_
         iterate 3 refine p_exact_w rfl ?_
         refine wAl rfl rfl tymsg_Request fun b11 => ?_
         refine wSr rfl tymsg_Request 0 rfl rfl rfl rfl [.int .i64 (((decodeV s).1).kind), .int .i64 (((decodeV s).1).seq), .int .i64 (((decodeV s).1).who), .int .i64 (((decodeV s).1).role), .int .u32 (((decodeV s).1).token), .int .u64 (((decodeV s).1).key), .int .i64 ((((decodeV s).1).call).id), .int .i64 ((((decodeV s).1).call).kind), .int .i64 ((((decodeV s).1).call).src), .int .i64 ((((decodeV s).1).call).dst), .int .i64 ((((decodeV s).1).call).car), .int .i64 ((((decodeV s).1).call).state), .int .i64 ((((decodeV s).1).call).owner), .int .i64 ((((decodeV s).1).call).born), .int .i64 (((decodeV s).1).id), .int .i64 (((decodeV s).1).car), .int .i64 (((decodeV s).1).mode), .int .i64 ((((decodeV s).1).filter).kind), .int .i64 ((((decodeV s).1).filter).n)] (by first | rfl | (simp only [spl]; rfl)) ?_
         refine p_exact_w rfl ?_
         refine wN ?_
         refine tN (wKK hK28 ?_)
         refine wSeqK fun KK29 hK29 => ?_
         refine wReg ?_
         refine p_exact_w rfl ?_
         refine wQ (l := [.string s]) Try.func16 rfl (by kernel_rfl) (.tuple #[.agg #[.int .i64 ((numsQ ((decodeV s).1)).getD 0 0), .int .i64 ((numsQ ((decodeV s).1)).getD 1 0), .int .i64 ((numsQ ((decodeV s).1)).getD 2 0), .int .i64 ((numsQ ((decodeV s).1)).getD 3 0), .int .i64 ((numsQ ((decodeV s).1)).getD 4 0), .int .i64 ((numsQ ((decodeV s).1)).getD 5 0), .int .i64 ((numsQ ((decodeV s).1)).getD 6 0), .int .i64 ((numsQ ((decodeV s).1)).getD 7 0), .int .i64 ((numsQ ((decodeV s).1)).getD 8 0), .int .i64 ((numsQ ((decodeV s).1)).getD 9 0), .int .i64 ((numsQ ((decodeV s).1)).getD 10 0), .int .i64 ((numsQ ((decodeV s).1)).getD 11 0), .int .i64 ((numsQ ((decodeV s).1)).getD 12 0), .int .i64 ((numsQ ((decodeV s).1)).getD 13 0), .int .i64 ((numsQ ((decodeV s).1)).getD 14 0), .int .i64 ((numsQ ((decodeV s).1)).getD 15 0)], .bool true]) (fun wc H => by have h := refDecC s wc; rw [y5, hdl] at h; exact h) rfl rfl rfl rfl ?_
         iterate 3 refine p_exact_w rfl ?_
         refine wAl rfl rfl tyhoistwayref14_Request fun b13 => ?_
         refine wSr rfl tyhoistwayref14_Request 0 rfl rfl rfl rfl [.int .i64 ((numsQ ((decodeV s).1)).getD 0 0), .int .i64 ((numsQ ((decodeV s).1)).getD 1 0), .int .i64 ((numsQ ((decodeV s).1)).getD 2 0), .int .i64 ((numsQ ((decodeV s).1)).getD 3 0), .int .i64 ((numsQ ((decodeV s).1)).getD 4 0), .int .i64 ((numsQ ((decodeV s).1)).getD 5 0), .int .i64 ((numsQ ((decodeV s).1)).getD 6 0), .int .i64 ((numsQ ((decodeV s).1)).getD 7 0), .int .i64 ((numsQ ((decodeV s).1)).getD 8 0), .int .i64 ((numsQ ((decodeV s).1)).getD 9 0), .int .i64 ((numsQ ((decodeV s).1)).getD 10 0), .int .i64 ((numsQ ((decodeV s).1)).getD 11 0), .int .i64 ((numsQ ((decodeV s).1)).getD 12 0), .int .i64 ((numsQ ((decodeV s).1)).getD 13 0), .int .i64 ((numsQ ((decodeV s).1)).getD 14 0), .int .i64 ((numsQ ((decodeV s).1)).getD 15 0)] (by first | rfl | (simp only [spl]; rfl)) ?_
         refine p_exact_w rfl ?_
         refine wN ?_
         refine tN (wKK hK29 ?_)
         refine wSeqK fun KK30 hK30 => ?_
         refine wSeqK fun KK31 hK31 => ?_
         refine wReg ?_
         iterate 2 refine p_exact_w rfl ?_
         refine wN ?_
         refine tN (wKK hK31 ?_)
         refine wCf rfl ?_
         refine wSk ?_
         refine tN (wKK hK30 ?_)
         refine wSeqK fun KK32 hK32 => ?_
         refine wReg ?_
         refine wLr rfl tymsg_Request 1 rfl [.int .i64 (((decodeV s).1).kind), .int .i64 (((decodeV s).1).seq), .int .i64 (((decodeV s).1).who), .int .i64 (((decodeV s).1).role), .int .u32 (((decodeV s).1).token), .int .u64 (((decodeV s).1).key), .int .i64 ((((decodeV s).1).call).id), .int .i64 ((((decodeV s).1).call).kind), .int .i64 ((((decodeV s).1).call).src), .int .i64 ((((decodeV s).1).call).dst), .int .i64 ((((decodeV s).1).call).car), .int .i64 ((((decodeV s).1).call).state), .int .i64 ((((decodeV s).1).call).owner), .int .i64 ((((decodeV s).1).call).born), .int .i64 (((decodeV s).1).id), .int .i64 (((decodeV s).1).car), .int .i64 (((decodeV s).1).mode), .int .i64 ((((decodeV s).1).filter).kind), .int .i64 ((((decodeV s).1).filter).n)] rfl rfl ?_
         refine wQ (l := [.agg #[.int .i64 (((decodeV s).1).kind), .int .i64 (((decodeV s).1).seq), .int .i64 (((decodeV s).1).who), .int .i64 (((decodeV s).1).role), .int .u32 (((decodeV s).1).token), .int .u64 (((decodeV s).1).key), .int .i64 ((((decodeV s).1).call).id), .int .i64 ((((decodeV s).1).call).kind), .int .i64 ((((decodeV s).1).call).src), .int .i64 ((((decodeV s).1).call).dst), .int .i64 ((((decodeV s).1).call).car), .int .i64 ((((decodeV s).1).call).state), .int .i64 ((((decodeV s).1).call).owner), .int .i64 ((((decodeV s).1).call).born), .int .i64 (((decodeV s).1).id), .int .i64 (((decodeV s).1).car), .int .i64 (((decodeV s).1).mode), .int .i64 ((((decodeV s).1).filter).kind), .int .i64 ((((decodeV s).1).filter).n)]]) Try.func12 rfl (by kernel_rfl) (.tuple #[.agg #[.int .i64 ((numsQ ((decodeV s).1)).getD 0 0), .int .i64 ((numsQ ((decodeV s).1)).getD 1 0), .int .i64 ((numsQ ((decodeV s).1)).getD 2 0), .int .i64 ((numsQ ((decodeV s).1)).getD 3 0), .int .i64 ((numsQ ((decodeV s).1)).getD 4 0), .int .i64 ((numsQ ((decodeV s).1)).getD 5 0), .int .i64 ((numsQ ((decodeV s).1)).getD 6 0), .int .i64 ((numsQ ((decodeV s).1)).getD 7 0), .int .i64 ((numsQ ((decodeV s).1)).getD 8 0), .int .i64 ((numsQ ((decodeV s).1)).getD 9 0), .int .i64 ((numsQ ((decodeV s).1)).getD 10 0), .int .i64 ((numsQ ((decodeV s).1)).getD 11 0), .int .i64 ((numsQ ((decodeV s).1)).getD 12 0), .int .i64 ((numsQ ((decodeV s).1)).getD 13 0), .int .i64 ((numsQ ((decodeV s).1)).getD 14 0), .int .i64 ((numsQ ((decodeV s).1)).getD 15 0)], .bool true]) (fun wc H => by have h := formC ((decodeV s).1) wc hqd; rw [hg2] at h; exact h) rfl rfl rfl rfl ?_
         iterate 3 refine p_exact_w rfl ?_
         refine wAl rfl rfl tyhoistwayref14_Request fun b15 => ?_
         refine wSr rfl tyhoistwayref14_Request 0 rfl rfl rfl rfl [.int .i64 ((numsQ ((decodeV s).1)).getD 0 0), .int .i64 ((numsQ ((decodeV s).1)).getD 1 0), .int .i64 ((numsQ ((decodeV s).1)).getD 2 0), .int .i64 ((numsQ ((decodeV s).1)).getD 3 0), .int .i64 ((numsQ ((decodeV s).1)).getD 4 0), .int .i64 ((numsQ ((decodeV s).1)).getD 5 0), .int .i64 ((numsQ ((decodeV s).1)).getD 6 0), .int .i64 ((numsQ ((decodeV s).1)).getD 7 0), .int .i64 ((numsQ ((decodeV s).1)).getD 8 0), .int .i64 ((numsQ ((decodeV s).1)).getD 9 0), .int .i64 ((numsQ ((decodeV s).1)).getD 10 0), .int .i64 ((numsQ ((decodeV s).1)).getD 11 0), .int .i64 ((numsQ ((decodeV s).1)).getD 12 0), .int .i64 ((numsQ ((decodeV s).1)).getD 13 0), .int .i64 ((numsQ ((decodeV s).1)).getD 14 0), .int .i64 ((numsQ ((decodeV s).1)).getD 15 0)] (by first | rfl | (simp only [spl]; rfl)) ?_
         refine p_exact_w rfl ?_
         refine wN ?_
         refine tN (wKK hK32 ?_)
         refine wSeqK fun KK33 hK33 => ?_
         refine wReg ?_
         iterate 2 refine p_exact_w rfl ?_
         refine wB 81 rfl hg1 ?_
         iterate 4 refine p_exact_w rfl ?_
         refine wLr rfl tyhoistwayref14_Request 0 rfl [.int .i64 ((numsQ ((decodeV s).1)).getD 0 0), .int .i64 ((numsQ ((decodeV s).1)).getD 1 0), .int .i64 ((numsQ ((decodeV s).1)).getD 2 0), .int .i64 ((numsQ ((decodeV s).1)).getD 3 0), .int .i64 ((numsQ ((decodeV s).1)).getD 4 0), .int .i64 ((numsQ ((decodeV s).1)).getD 5 0), .int .i64 ((numsQ ((decodeV s).1)).getD 6 0), .int .i64 ((numsQ ((decodeV s).1)).getD 7 0), .int .i64 ((numsQ ((decodeV s).1)).getD 8 0), .int .i64 ((numsQ ((decodeV s).1)).getD 9 0), .int .i64 ((numsQ ((decodeV s).1)).getD 10 0), .int .i64 ((numsQ ((decodeV s).1)).getD 11 0), .int .i64 ((numsQ ((decodeV s).1)).getD 12 0), .int .i64 ((numsQ ((decodeV s).1)).getD 13 0), .int .i64 ((numsQ ((decodeV s).1)).getD 14 0), .int .i64 ((numsQ ((decodeV s).1)).getD 15 0)] rfl rfl ?_
         refine wLr rfl tyhoistwayref14_Request 1 rfl [.int .i64 ((numsQ ((decodeV s).1)).getD 0 0), .int .i64 ((numsQ ((decodeV s).1)).getD 1 0), .int .i64 ((numsQ ((decodeV s).1)).getD 2 0), .int .i64 ((numsQ ((decodeV s).1)).getD 3 0), .int .i64 ((numsQ ((decodeV s).1)).getD 4 0), .int .i64 ((numsQ ((decodeV s).1)).getD 5 0), .int .i64 ((numsQ ((decodeV s).1)).getD 6 0), .int .i64 ((numsQ ((decodeV s).1)).getD 7 0), .int .i64 ((numsQ ((decodeV s).1)).getD 8 0), .int .i64 ((numsQ ((decodeV s).1)).getD 9 0), .int .i64 ((numsQ ((decodeV s).1)).getD 10 0), .int .i64 ((numsQ ((decodeV s).1)).getD 11 0), .int .i64 ((numsQ ((decodeV s).1)).getD 12 0), .int .i64 ((numsQ ((decodeV s).1)).getD 13 0), .int .i64 ((numsQ ((decodeV s).1)).getD 14 0), .int .i64 ((numsQ ((decodeV s).1)).getD 15 0)] rfl rfl ?_
         refine wE (.bool (true)) rfl rfl rfl (fun aa wc hs H => exec_eql rfl (hs _ _ rfl) (hs _ _ rfl) (by kernel_rfl) (run_eq_arr (numsQ ((decodeV s).1)) wc)) ?_
         iterate 2 refine p_exact_w rfl ?_
         refine wN ?_
         refine tN (wKK hK33 ?_)
         refine wRet ?_
         exact wR1 rfl rfl (fun ww H => ⟨rfl, H.out.off⟩)
       · skip
         intro aa ww nn dd hs H
         have hdn := dec_no y5
         have hg1 : (((decodeV s).2) == 4) = true := by rw [hdn]; rfl
         have hg2 : (decide ((decodeV s).1 = (⟨0, 0, 0, 0, 0, 0, (⟨0, 0, 0, 0, 0, 0, 0, 0⟩ : CallV), 0, 0, 0, (⟨0, 0⟩ : FilterV)⟩ : ReqV))) = true := by rw [hdn]; exact decide_eq_true rfl
         refine wIn nn dd hs H ?_
         refine wReg ?_
         refine p_exact_w rfl ?_
         refine wQ (l := [.string s]) Try.func15 rfl (by kernel_rfl) (.tuple #[.agg #[.int .i64 (((decodeV s).1).kind), .int .i64 (((decodeV s).1).seq), .int .i64 (((decodeV s).1).who), .int .i64 (((decodeV s).1).role), .int .u32 (((decodeV s).1).token), .int .u64 (((decodeV s).1).key), .int .i64 ((((decodeV s).1).call).id), .int .i64 ((((decodeV s).1).call).kind), .int .i64 ((((decodeV s).1).call).src), .int .i64 ((((decodeV s).1).call).dst), .int .i64 ((((decodeV s).1).call).car), .int .i64 ((((decodeV s).1).call).state), .int .i64 ((((decodeV s).1).call).owner), .int .i64 ((((decodeV s).1).call).born), .int .i64 (((decodeV s).1).id), .int .i64 (((decodeV s).1).car), .int .i64 (((decodeV s).1).mode), .int .i64 ((((decodeV s).1).filter).kind), .int .i64 ((((decodeV s).1).filter).n)], .int .i64 ((decodeV s).2)]) (fun wc H => decodeC s wc) rfl rfl rfl rfl ?_
         iterate 3 refine p_exact_w rfl ?_
         refine wAl rfl rfl tymsg_Request fun b11 => ?_
         refine wSr rfl tymsg_Request 0 rfl rfl rfl rfl [.int .i64 (((decodeV s).1).kind), .int .i64 (((decodeV s).1).seq), .int .i64 (((decodeV s).1).who), .int .i64 (((decodeV s).1).role), .int .u32 (((decodeV s).1).token), .int .u64 (((decodeV s).1).key), .int .i64 ((((decodeV s).1).call).id), .int .i64 ((((decodeV s).1).call).kind), .int .i64 ((((decodeV s).1).call).src), .int .i64 ((((decodeV s).1).call).dst), .int .i64 ((((decodeV s).1).call).car), .int .i64 ((((decodeV s).1).call).state), .int .i64 ((((decodeV s).1).call).owner), .int .i64 ((((decodeV s).1).call).born), .int .i64 (((decodeV s).1).id), .int .i64 (((decodeV s).1).car), .int .i64 (((decodeV s).1).mode), .int .i64 ((((decodeV s).1).filter).kind), .int .i64 ((((decodeV s).1).filter).n)] (by first | rfl | (simp only [spl]; rfl)) ?_
         refine p_exact_w rfl ?_
         refine wN ?_
         refine tN (wKK hK28 ?_)
         refine wSeqK fun KK34 hK34 => ?_
         refine wReg ?_
         refine p_exact_w rfl ?_
         refine wQ (l := [.string s]) Try.func16 rfl (by kernel_rfl) (.tuple #[.agg #[.int .i64 ((decL s).getD 0 0), .int .i64 ((decL s).getD 1 0), .int .i64 ((decL s).getD 2 0), .int .i64 ((decL s).getD 3 0), .int .i64 ((decL s).getD 4 0), .int .i64 ((decL s).getD 5 0), .int .i64 ((decL s).getD 6 0), .int .i64 ((decL s).getD 7 0), .int .i64 ((decL s).getD 8 0), .int .i64 ((decL s).getD 9 0), .int .i64 ((decL s).getD 10 0), .int .i64 ((decL s).getD 11 0), .int .i64 ((decL s).getD 12 0), .int .i64 ((decL s).getD 13 0), .int .i64 ((decL s).getD 14 0), .int .i64 ((decL s).getD 15 0)], .bool false]) (fun wc H => by have h := refDecC s wc; rw [y5] at h; exact h) rfl rfl rfl rfl ?_
         iterate 3 refine p_exact_w rfl ?_
         refine wAl rfl rfl tyhoistwayref14_Request fun b13 => ?_
         refine wSr rfl tyhoistwayref14_Request 0 rfl rfl rfl rfl [.int .i64 ((decL s).getD 0 0), .int .i64 ((decL s).getD 1 0), .int .i64 ((decL s).getD 2 0), .int .i64 ((decL s).getD 3 0), .int .i64 ((decL s).getD 4 0), .int .i64 ((decL s).getD 5 0), .int .i64 ((decL s).getD 6 0), .int .i64 ((decL s).getD 7 0), .int .i64 ((decL s).getD 8 0), .int .i64 ((decL s).getD 9 0), .int .i64 ((decL s).getD 10 0), .int .i64 ((decL s).getD 11 0), .int .i64 ((decL s).getD 12 0), .int .i64 ((decL s).getD 13 0), .int .i64 ((decL s).getD 14 0), .int .i64 ((decL s).getD 15 0)] (by first | rfl | (simp only [spl]; rfl)) ?_
         refine p_exact_w rfl ?_
         refine wN ?_
         refine tN (wKK hK34 ?_)
         refine wSeqK fun KK35 hK35 => ?_
         refine wSeqK fun KK36 hK36 => ?_
         refine wReg ?_
         iterate 2 refine p_exact_w rfl ?_
         refine wN ?_
         refine tN (wKK hK36 ?_)
         refine wCt rfl ?_
         refine wSeqK fun KK37 hK37 => ?_
         refine wReg ?_
         iterate 2 refine p_exact_w rfl ?_
         refine wB 69 rfl hg1 ?_
         refine p_exact_w rfl ?_
         refine wLr rfl tymsg_Request 1 rfl [.int .i64 (((decodeV s).1).kind), .int .i64 (((decodeV s).1).seq), .int .i64 (((decodeV s).1).who), .int .i64 (((decodeV s).1).role), .int .u32 (((decodeV s).1).token), .int .u64 (((decodeV s).1).key), .int .i64 ((((decodeV s).1).call).id), .int .i64 ((((decodeV s).1).call).kind), .int .i64 ((((decodeV s).1).call).src), .int .i64 ((((decodeV s).1).call).dst), .int .i64 ((((decodeV s).1).call).car), .int .i64 ((((decodeV s).1).call).state), .int .i64 ((((decodeV s).1).call).owner), .int .i64 ((((decodeV s).1).call).born), .int .i64 (((decodeV s).1).id), .int .i64 (((decodeV s).1).car), .int .i64 (((decodeV s).1).mode), .int .i64 ((((decodeV s).1).filter).kind), .int .i64 ((((decodeV s).1).filter).n)] rfl rfl ?_
         refine wE (.agg #[.int .i64 0, .int .i64 0, .int .i64 0, .int .i64 0, .int .u32 0, .int .u64 0, .int .i64 0, .int .i64 0, .int .i64 0, .int .i64 0, .int .i64 0, .int .i64 0, .int .i64 0, .int .i64 0, .int .i64 0, .int .i64 0, .int .i64 0, .int .i64 0, .int .i64 0]) rfl rfl rfl (fun aa ww hs _ => by simp only [execOp]; go_simp <;> omega) ?_
         refine wE (.bool ((decide (((decodeV s).1) = (⟨0, 0, 0, 0, 0, 0, (⟨0, 0, 0, 0, 0, 0, 0, 0⟩ : CallV), 0, 0, 0, (⟨0, 0⟩ : FilterV)⟩ : ReqV))))) rfl rfl rfl (fun aa wc hs H => exec_eql rfl (hs _ _ rfl) (hs _ _ rfl) (by kernel_rfl) (run_eq_req ((decodeV s).1) (⟨0, 0, 0, 0, 0, 0, (⟨0, 0, 0, 0, 0, 0, 0, 0⟩ : CallV), 0, 0, 0, (⟨0, 0⟩ : FilterV)⟩ : ReqV) wc)) ?_
         refine wB 73 rfl hg2 ?_
         iterate 2 refine p_exact_w rfl ?_
         refine wN ?_
         refine tN (wKK hK37 ?_)
         refine wRet ?_
         refine tR ?_
         exact wR1 rfl rfl (fun ww H => ⟨rfl, H.out.off⟩)
   · skip
     rcases Bool.eq_false_or_eq_true (goodR (numsQ q)) with y6 | y6
     · skip
       refine wReg ?_
       refine wLr rfl tymsg_Request 0 rfl [.int .i64 q.kind, .int .i64 q.seq, .int .i64 q.who, .int .i64 q.role, .int .u32 q.token, .int .u64 q.key, .int .i64 q.call.id, .int .i64 q.call.kind, .int .i64 q.call.src, .int .i64 q.call.dst, .int .i64 q.call.car, .int .i64 q.call.state, .int .i64 q.call.owner, .int .i64 q.call.born, .int .i64 q.id, .int .i64 q.car, .int .i64 q.mode, .int .i64 q.filter.kind, .int .i64 q.filter.n] rfl rfl ?_
       refine wQ (l := [.agg #[.int .i64 q.kind, .int .i64 q.seq, .int .i64 q.who, .int .i64 q.role, .int .u32 q.token, .int .u64 q.key, .int .i64 q.call.id, .int .i64 q.call.kind, .int .i64 q.call.src, .int .i64 q.call.dst, .int .i64 q.call.car, .int .i64 q.call.state, .int .i64 q.call.owner, .int .i64 q.call.born, .int .i64 q.id, .int .i64 q.car, .int .i64 q.mode, .int .i64 q.filter.kind, .int .i64 q.filter.n]]) Try.func12 rfl (by kernel_rfl) (.tuple #[.agg #[.int .i64 ((numsQ q).getD 0 0), .int .i64 ((numsQ q).getD 1 0), .int .i64 ((numsQ q).getD 2 0), .int .i64 ((numsQ q).getD 3 0), .int .i64 ((numsQ q).getD 4 0), .int .i64 ((numsQ q).getD 5 0), .int .i64 ((numsQ q).getD 6 0), .int .i64 ((numsQ q).getD 7 0), .int .i64 ((numsQ q).getD 8 0), .int .i64 ((numsQ q).getD 9 0), .int .i64 ((numsQ q).getD 10 0), .int .i64 ((numsQ q).getD 11 0), .int .i64 ((numsQ q).getD 12 0), .int .i64 ((numsQ q).getD 13 0), .int .i64 ((numsQ q).getD 14 0), .int .i64 ((numsQ q).getD 15 0)], .bool false]) (fun wc H => by have h := formC q wc hq; rw [y2] at h; exact h) rfl rfl rfl rfl ?_
       iterate 3 refine p_exact_w rfl ?_
       refine wAl rfl rfl tyhoistwayref14_Request fun b5 => ?_
       refine wSr rfl tyhoistwayref14_Request 0 rfl rfl rfl rfl [.int .i64 ((numsQ q).getD 0 0), .int .i64 ((numsQ q).getD 1 0), .int .i64 ((numsQ q).getD 2 0), .int .i64 ((numsQ q).getD 3 0), .int .i64 ((numsQ q).getD 4 0), .int .i64 ((numsQ q).getD 5 0), .int .i64 ((numsQ q).getD 6 0), .int .i64 ((numsQ q).getD 7 0), .int .i64 ((numsQ q).getD 8 0), .int .i64 ((numsQ q).getD 9 0), .int .i64 ((numsQ q).getD 10 0), .int .i64 ((numsQ q).getD 11 0), .int .i64 ((numsQ q).getD 12 0), .int .i64 ((numsQ q).getD 13 0), .int .i64 ((numsQ q).getD 14 0), .int .i64 ((numsQ q).getD 15 0)] (by first | rfl | (simp only [spl]; rfl)) ?_
       refine p_exact_w rfl ?_
       refine wN ?_
       refine tN (wKK hK7 ?_)
       refine wSeqK fun KK38 hK38 => ?_
       refine wReg ?_
       refine wLr rfl tyhoistwayref14_Request 0 rfl [.int .i64 ((numsQ q).getD 0 0), .int .i64 ((numsQ q).getD 1 0), .int .i64 ((numsQ q).getD 2 0), .int .i64 ((numsQ q).getD 3 0), .int .i64 ((numsQ q).getD 4 0), .int .i64 ((numsQ q).getD 5 0), .int .i64 ((numsQ q).getD 6 0), .int .i64 ((numsQ q).getD 7 0), .int .i64 ((numsQ q).getD 8 0), .int .i64 ((numsQ q).getD 9 0), .int .i64 ((numsQ q).getD 10 0), .int .i64 ((numsQ q).getD 11 0), .int .i64 ((numsQ q).getD 12 0), .int .i64 ((numsQ q).getD 13 0), .int .i64 ((numsQ q).getD 14 0), .int .i64 ((numsQ q).getD 15 0)] rfl rfl ?_
       refine wQ (l := [.agg #[.int .i64 ((numsQ q).getD 0 0), .int .i64 ((numsQ q).getD 1 0), .int .i64 ((numsQ q).getD 2 0), .int .i64 ((numsQ q).getD 3 0), .int .i64 ((numsQ q).getD 4 0), .int .i64 ((numsQ q).getD 5 0), .int .i64 ((numsQ q).getD 6 0), .int .i64 ((numsQ q).getD 7 0), .int .i64 ((numsQ q).getD 8 0), .int .i64 ((numsQ q).getD 9 0), .int .i64 ((numsQ q).getD 10 0), .int .i64 ((numsQ q).getD 11 0), .int .i64 ((numsQ q).getD 12 0), .int .i64 ((numsQ q).getD 13 0), .int .i64 ((numsQ q).getD 14 0), .int .i64 ((numsQ q).getD 15 0)]]) Try.func13 rfl (by kernel_rfl) (.tuple #[.string (encR (numsQ q)), .bool true]) (fun wc H => by have h := refEncC (numsQ q) wc; rw [y6] at h; exact h) rfl rfl rfl rfl ?_
       iterate 5 refine p_exact_w rfl ?_
       refine wN ?_
       refine tN (wKK hK38 ?_)
       refine wSeqK fun KK39 hK39 => ?_
       intro aa ww nn dd hs H
       have hev := enc_noF hq (.inl y2)
       have hf6 : (((encodeV q).2) != 1) = false := by rw [hev]; rfl
       have hf7 : (((encodeV q).1).toList.isEmpty) = true := by rw [hev, ByteArray.toList_eq]; rfl
       refine wIn nn dd hs H ?_
       refine wReg ?_
       refine wLr rfl tymsg_Request 1 rfl [.int .i64 q.kind, .int .i64 q.seq, .int .i64 q.who, .int .i64 q.role, .int .u32 q.token, .int .u64 q.key, .int .i64 q.call.id, .int .i64 q.call.kind, .int .i64 q.call.src, .int .i64 q.call.dst, .int .i64 q.call.car, .int .i64 q.call.state, .int .i64 q.call.owner, .int .i64 q.call.born, .int .i64 q.id, .int .i64 q.car, .int .i64 q.mode, .int .i64 q.filter.kind, .int .i64 q.filter.n] rfl rfl ?_
       refine wQ (l := [.agg #[.int .i64 q.kind, .int .i64 q.seq, .int .i64 q.who, .int .i64 q.role, .int .u32 q.token, .int .u64 q.key, .int .i64 q.call.id, .int .i64 q.call.kind, .int .i64 q.call.src, .int .i64 q.call.dst, .int .i64 q.call.car, .int .i64 q.call.state, .int .i64 q.call.owner, .int .i64 q.call.born, .int .i64 q.id, .int .i64 q.car, .int .i64 q.mode, .int .i64 q.filter.kind, .int .i64 q.filter.n]]) Try.func14 rfl (by kernel_rfl) (.tuple #[.string ((encodeV q).1), .int .i64 ((encodeV q).2)]) (fun wc H => encodeC q (Lib.hid hq) wc) rfl rfl rfl rfl ?_
       iterate 5 refine p_exact_w rfl ?_
       refine wN ?_
       refine tN (wKK hK39 ?_)
       refine wSeqK fun KK40 hK40 => ?_
       refine wSeqK fun KK41 hK41 => ?_
       refine wReg ?_
       iterate 6 refine p_exact_w rfl ?_
       refine wN ?_
       refine tN (wKK hK41 ?_)
       refine wCt rfl ?_
       refine wSeqK fun KK42 hK42 => ?_
       refine wReg ?_
       iterate 2 refine p_exact_w rfl ?_
       refine wB 44 rfl hf6 ?_
       iterate 2 refine p_exact_w rfl ?_
       refine wE (.bool false) rfl rfl rfl (fun aa ww hs _ => by exact exec_sne (c := true) rfl (hs _ _ rfl) (rfl) (by first | exact hf7 | (rw [ByteArray.toList_eq]; exact hf7) | (simpa [ByteArray.toList_eq] using hf7))) ?_
       refine p_exact_w rfl ?_
       refine wN ?_
       refine tN (wKK hK42 ?_)
       refine wCf rfl ?_
       refine wSk ?_
       refine tN (wKK hK40 ?_)
       refine wSeqK fun KK43 hK43 => ?_
       rcases Bool.eq_false_or_eq_true (decOk s) with y7 | y7
       · skip
         intro aa ww nn dd hs H
         obtain ⟨hqd, hfd, hdl, hd0⟩ := dec_yesD y7
         have hg1 : (((decodeV s).2) == 0) = true := by rw [hd0]; rfl
         have hg2 : (formB ((decodeV s).1)) = true := hfd
         refine wIn nn dd hs H ?_
         refine wReg ?_
         refine p_exact_w rfl ?_
         refine wQ (l := [.string s]) Try.func15 rfl (by kernel_rfl) (.tuple #[.agg #[.int .i64 (((decodeV s).1).kind), .int .i64 (((decodeV s).1).seq), .int .i64 (((decodeV s).1).who), .int .i64 (((decodeV s).1).role), .int .u32 (((decodeV s).1).token), .int .u64 (((decodeV s).1).key), .int .i64 ((((decodeV s).1).call).id), .int .i64 ((((decodeV s).1).call).kind), .int .i64 ((((decodeV s).1).call).src), .int .i64 ((((decodeV s).1).call).dst), .int .i64 ((((decodeV s).1).call).car), .int .i64 ((((decodeV s).1).call).state), .int .i64 ((((decodeV s).1).call).owner), .int .i64 ((((decodeV s).1).call).born), .int .i64 (((decodeV s).1).id), .int .i64 (((decodeV s).1).car), .int .i64 (((decodeV s).1).mode), .int .i64 ((((decodeV s).1).filter).kind), .int .i64 ((((decodeV s).1).filter).n)], .int .i64 ((decodeV s).2)]) (fun wc H => decodeC s wc) rfl rfl rfl rfl ?_
         iterate 3 refine p_exact_w rfl ?_
         refine wAl rfl rfl tymsg_Request fun b11 => ?_
         refine wSr rfl tymsg_Request 0 rfl rfl rfl rfl [.int .i64 (((decodeV s).1).kind), .int .i64 (((decodeV s).1).seq), .int .i64 (((decodeV s).1).who), .int .i64 (((decodeV s).1).role), .int .u32 (((decodeV s).1).token), .int .u64 (((decodeV s).1).key), .int .i64 ((((decodeV s).1).call).id), .int .i64 ((((decodeV s).1).call).kind), .int .i64 ((((decodeV s).1).call).src), .int .i64 ((((decodeV s).1).call).dst), .int .i64 ((((decodeV s).1).call).car), .int .i64 ((((decodeV s).1).call).state), .int .i64 ((((decodeV s).1).call).owner), .int .i64 ((((decodeV s).1).call).born), .int .i64 (((decodeV s).1).id), .int .i64 (((decodeV s).1).car), .int .i64 (((decodeV s).1).mode), .int .i64 ((((decodeV s).1).filter).kind), .int .i64 ((((decodeV s).1).filter).n)] (by first | rfl | (simp only [spl]; rfl)) ?_
         refine p_exact_w rfl ?_
         refine wN ?_
         refine tN (wKK hK43 ?_)
         refine wSeqK fun KK44 hK44 => ?_
         refine wReg ?_
         refine p_exact_w rfl ?_
         refine wQ (l := [.string s]) Try.func16 rfl (by kernel_rfl) (.tuple #[.agg #[.int .i64 ((numsQ ((decodeV s).1)).getD 0 0), .int .i64 ((numsQ ((decodeV s).1)).getD 1 0), .int .i64 ((numsQ ((decodeV s).1)).getD 2 0), .int .i64 ((numsQ ((decodeV s).1)).getD 3 0), .int .i64 ((numsQ ((decodeV s).1)).getD 4 0), .int .i64 ((numsQ ((decodeV s).1)).getD 5 0), .int .i64 ((numsQ ((decodeV s).1)).getD 6 0), .int .i64 ((numsQ ((decodeV s).1)).getD 7 0), .int .i64 ((numsQ ((decodeV s).1)).getD 8 0), .int .i64 ((numsQ ((decodeV s).1)).getD 9 0), .int .i64 ((numsQ ((decodeV s).1)).getD 10 0), .int .i64 ((numsQ ((decodeV s).1)).getD 11 0), .int .i64 ((numsQ ((decodeV s).1)).getD 12 0), .int .i64 ((numsQ ((decodeV s).1)).getD 13 0), .int .i64 ((numsQ ((decodeV s).1)).getD 14 0), .int .i64 ((numsQ ((decodeV s).1)).getD 15 0)], .bool true]) (fun wc H => by have h := refDecC s wc; rw [y7, hdl] at h; exact h) rfl rfl rfl rfl ?_
         iterate 3 refine p_exact_w rfl ?_
         refine wAl rfl rfl tyhoistwayref14_Request fun b13 => ?_
         refine wSr rfl tyhoistwayref14_Request 0 rfl rfl rfl rfl [.int .i64 ((numsQ ((decodeV s).1)).getD 0 0), .int .i64 ((numsQ ((decodeV s).1)).getD 1 0), .int .i64 ((numsQ ((decodeV s).1)).getD 2 0), .int .i64 ((numsQ ((decodeV s).1)).getD 3 0), .int .i64 ((numsQ ((decodeV s).1)).getD 4 0), .int .i64 ((numsQ ((decodeV s).1)).getD 5 0), .int .i64 ((numsQ ((decodeV s).1)).getD 6 0), .int .i64 ((numsQ ((decodeV s).1)).getD 7 0), .int .i64 ((numsQ ((decodeV s).1)).getD 8 0), .int .i64 ((numsQ ((decodeV s).1)).getD 9 0), .int .i64 ((numsQ ((decodeV s).1)).getD 10 0), .int .i64 ((numsQ ((decodeV s).1)).getD 11 0), .int .i64 ((numsQ ((decodeV s).1)).getD 12 0), .int .i64 ((numsQ ((decodeV s).1)).getD 13 0), .int .i64 ((numsQ ((decodeV s).1)).getD 14 0), .int .i64 ((numsQ ((decodeV s).1)).getD 15 0)] (by first | rfl | (simp only [spl]; rfl)) ?_
         refine p_exact_w rfl ?_
         refine wN ?_
         refine tN (wKK hK44 ?_)
         refine wSeqK fun KK45 hK45 => ?_
         refine wSeqK fun KK46 hK46 => ?_
         refine wReg ?_
         iterate 2 refine p_exact_w rfl ?_
         refine wN ?_
         refine tN (wKK hK46 ?_)
         refine wCf rfl ?_
         refine wSk ?_
         refine tN (wKK hK45 ?_)
         refine wSeqK fun KK47 hK47 => ?_
         refine wReg ?_
         refine wLr rfl tymsg_Request 1 rfl [.int .i64 (((decodeV s).1).kind), .int .i64 (((decodeV s).1).seq), .int .i64 (((decodeV s).1).who), .int .i64 (((decodeV s).1).role), .int .u32 (((decodeV s).1).token), .int .u64 (((decodeV s).1).key), .int .i64 ((((decodeV s).1).call).id), .int .i64 ((((decodeV s).1).call).kind), .int .i64 ((((decodeV s).1).call).src), .int .i64 ((((decodeV s).1).call).dst), .int .i64 ((((decodeV s).1).call).car), .int .i64 ((((decodeV s).1).call).state), .int .i64 ((((decodeV s).1).call).owner), .int .i64 ((((decodeV s).1).call).born), .int .i64 (((decodeV s).1).id), .int .i64 (((decodeV s).1).car), .int .i64 (((decodeV s).1).mode), .int .i64 ((((decodeV s).1).filter).kind), .int .i64 ((((decodeV s).1).filter).n)] rfl rfl ?_
         refine wQ (l := [.agg #[.int .i64 (((decodeV s).1).kind), .int .i64 (((decodeV s).1).seq), .int .i64 (((decodeV s).1).who), .int .i64 (((decodeV s).1).role), .int .u32 (((decodeV s).1).token), .int .u64 (((decodeV s).1).key), .int .i64 ((((decodeV s).1).call).id), .int .i64 ((((decodeV s).1).call).kind), .int .i64 ((((decodeV s).1).call).src), .int .i64 ((((decodeV s).1).call).dst), .int .i64 ((((decodeV s).1).call).car), .int .i64 ((((decodeV s).1).call).state), .int .i64 ((((decodeV s).1).call).owner), .int .i64 ((((decodeV s).1).call).born), .int .i64 (((decodeV s).1).id), .int .i64 (((decodeV s).1).car), .int .i64 (((decodeV s).1).mode), .int .i64 ((((decodeV s).1).filter).kind), .int .i64 ((((decodeV s).1).filter).n)]]) Try.func12 rfl (by kernel_rfl) (.tuple #[.agg #[.int .i64 ((numsQ ((decodeV s).1)).getD 0 0), .int .i64 ((numsQ ((decodeV s).1)).getD 1 0), .int .i64 ((numsQ ((decodeV s).1)).getD 2 0), .int .i64 ((numsQ ((decodeV s).1)).getD 3 0), .int .i64 ((numsQ ((decodeV s).1)).getD 4 0), .int .i64 ((numsQ ((decodeV s).1)).getD 5 0), .int .i64 ((numsQ ((decodeV s).1)).getD 6 0), .int .i64 ((numsQ ((decodeV s).1)).getD 7 0), .int .i64 ((numsQ ((decodeV s).1)).getD 8 0), .int .i64 ((numsQ ((decodeV s).1)).getD 9 0), .int .i64 ((numsQ ((decodeV s).1)).getD 10 0), .int .i64 ((numsQ ((decodeV s).1)).getD 11 0), .int .i64 ((numsQ ((decodeV s).1)).getD 12 0), .int .i64 ((numsQ ((decodeV s).1)).getD 13 0), .int .i64 ((numsQ ((decodeV s).1)).getD 14 0), .int .i64 ((numsQ ((decodeV s).1)).getD 15 0)], .bool true]) (fun wc H => by have h := formC ((decodeV s).1) wc hqd; rw [hg2] at h; exact h) rfl rfl rfl rfl ?_
         iterate 3 refine p_exact_w rfl ?_
         refine wAl rfl rfl tyhoistwayref14_Request fun b15 => ?_
         refine wSr rfl tyhoistwayref14_Request 0 rfl rfl rfl rfl [.int .i64 ((numsQ ((decodeV s).1)).getD 0 0), .int .i64 ((numsQ ((decodeV s).1)).getD 1 0), .int .i64 ((numsQ ((decodeV s).1)).getD 2 0), .int .i64 ((numsQ ((decodeV s).1)).getD 3 0), .int .i64 ((numsQ ((decodeV s).1)).getD 4 0), .int .i64 ((numsQ ((decodeV s).1)).getD 5 0), .int .i64 ((numsQ ((decodeV s).1)).getD 6 0), .int .i64 ((numsQ ((decodeV s).1)).getD 7 0), .int .i64 ((numsQ ((decodeV s).1)).getD 8 0), .int .i64 ((numsQ ((decodeV s).1)).getD 9 0), .int .i64 ((numsQ ((decodeV s).1)).getD 10 0), .int .i64 ((numsQ ((decodeV s).1)).getD 11 0), .int .i64 ((numsQ ((decodeV s).1)).getD 12 0), .int .i64 ((numsQ ((decodeV s).1)).getD 13 0), .int .i64 ((numsQ ((decodeV s).1)).getD 14 0), .int .i64 ((numsQ ((decodeV s).1)).getD 15 0)] (by first | rfl | (simp only [spl]; rfl)) ?_
         refine p_exact_w rfl ?_
         refine wN ?_
         refine tN (wKK hK47 ?_)
         refine wSeqK fun KK48 hK48 => ?_
         refine wReg ?_
         iterate 2 refine p_exact_w rfl ?_
         refine wB 81 rfl hg1 ?_
         iterate 4 refine p_exact_w rfl ?_
         refine wLr rfl tyhoistwayref14_Request 0 rfl [.int .i64 ((numsQ ((decodeV s).1)).getD 0 0), .int .i64 ((numsQ ((decodeV s).1)).getD 1 0), .int .i64 ((numsQ ((decodeV s).1)).getD 2 0), .int .i64 ((numsQ ((decodeV s).1)).getD 3 0), .int .i64 ((numsQ ((decodeV s).1)).getD 4 0), .int .i64 ((numsQ ((decodeV s).1)).getD 5 0), .int .i64 ((numsQ ((decodeV s).1)).getD 6 0), .int .i64 ((numsQ ((decodeV s).1)).getD 7 0), .int .i64 ((numsQ ((decodeV s).1)).getD 8 0), .int .i64 ((numsQ ((decodeV s).1)).getD 9 0), .int .i64 ((numsQ ((decodeV s).1)).getD 10 0), .int .i64 ((numsQ ((decodeV s).1)).getD 11 0), .int .i64 ((numsQ ((decodeV s).1)).getD 12 0), .int .i64 ((numsQ ((decodeV s).1)).getD 13 0), .int .i64 ((numsQ ((decodeV s).1)).getD 14 0), .int .i64 ((numsQ ((decodeV s).1)).getD 15 0)] rfl rfl ?_
         refine wLr rfl tyhoistwayref14_Request 1 rfl [.int .i64 ((numsQ ((decodeV s).1)).getD 0 0), .int .i64 ((numsQ ((decodeV s).1)).getD 1 0), .int .i64 ((numsQ ((decodeV s).1)).getD 2 0), .int .i64 ((numsQ ((decodeV s).1)).getD 3 0), .int .i64 ((numsQ ((decodeV s).1)).getD 4 0), .int .i64 ((numsQ ((decodeV s).1)).getD 5 0), .int .i64 ((numsQ ((decodeV s).1)).getD 6 0), .int .i64 ((numsQ ((decodeV s).1)).getD 7 0), .int .i64 ((numsQ ((decodeV s).1)).getD 8 0), .int .i64 ((numsQ ((decodeV s).1)).getD 9 0), .int .i64 ((numsQ ((decodeV s).1)).getD 10 0), .int .i64 ((numsQ ((decodeV s).1)).getD 11 0), .int .i64 ((numsQ ((decodeV s).1)).getD 12 0), .int .i64 ((numsQ ((decodeV s).1)).getD 13 0), .int .i64 ((numsQ ((decodeV s).1)).getD 14 0), .int .i64 ((numsQ ((decodeV s).1)).getD 15 0)] rfl rfl ?_
         refine wE (.bool (true)) rfl rfl rfl (fun aa wc hs H => exec_eql rfl (hs _ _ rfl) (hs _ _ rfl) (by kernel_rfl) (run_eq_arr (numsQ ((decodeV s).1)) wc)) ?_
         iterate 2 refine p_exact_w rfl ?_
         refine wN ?_
         refine tN (wKK hK48 ?_)
         refine wRet ?_
         exact wR1 rfl rfl (fun ww H => ⟨rfl, H.out.off⟩)
       · skip
         intro aa ww nn dd hs H
         have hdn := dec_no y7
         have hg1 : (((decodeV s).2) == 4) = true := by rw [hdn]; rfl
         have hg2 : (decide ((decodeV s).1 = (⟨0, 0, 0, 0, 0, 0, (⟨0, 0, 0, 0, 0, 0, 0, 0⟩ : CallV), 0, 0, 0, (⟨0, 0⟩ : FilterV)⟩ : ReqV))) = true := by rw [hdn]; exact decide_eq_true rfl
         refine wIn nn dd hs H ?_
         refine wReg ?_
         refine p_exact_w rfl ?_
         refine wQ (l := [.string s]) Try.func15 rfl (by kernel_rfl) (.tuple #[.agg #[.int .i64 (((decodeV s).1).kind), .int .i64 (((decodeV s).1).seq), .int .i64 (((decodeV s).1).who), .int .i64 (((decodeV s).1).role), .int .u32 (((decodeV s).1).token), .int .u64 (((decodeV s).1).key), .int .i64 ((((decodeV s).1).call).id), .int .i64 ((((decodeV s).1).call).kind), .int .i64 ((((decodeV s).1).call).src), .int .i64 ((((decodeV s).1).call).dst), .int .i64 ((((decodeV s).1).call).car), .int .i64 ((((decodeV s).1).call).state), .int .i64 ((((decodeV s).1).call).owner), .int .i64 ((((decodeV s).1).call).born), .int .i64 (((decodeV s).1).id), .int .i64 (((decodeV s).1).car), .int .i64 (((decodeV s).1).mode), .int .i64 ((((decodeV s).1).filter).kind), .int .i64 ((((decodeV s).1).filter).n)], .int .i64 ((decodeV s).2)]) (fun wc H => decodeC s wc) rfl rfl rfl rfl ?_
         iterate 3 refine p_exact_w rfl ?_
         refine wAl rfl rfl tymsg_Request fun b11 => ?_
         refine wSr rfl tymsg_Request 0 rfl rfl rfl rfl [.int .i64 (((decodeV s).1).kind), .int .i64 (((decodeV s).1).seq), .int .i64 (((decodeV s).1).who), .int .i64 (((decodeV s).1).role), .int .u32 (((decodeV s).1).token), .int .u64 (((decodeV s).1).key), .int .i64 ((((decodeV s).1).call).id), .int .i64 ((((decodeV s).1).call).kind), .int .i64 ((((decodeV s).1).call).src), .int .i64 ((((decodeV s).1).call).dst), .int .i64 ((((decodeV s).1).call).car), .int .i64 ((((decodeV s).1).call).state), .int .i64 ((((decodeV s).1).call).owner), .int .i64 ((((decodeV s).1).call).born), .int .i64 (((decodeV s).1).id), .int .i64 (((decodeV s).1).car), .int .i64 (((decodeV s).1).mode), .int .i64 ((((decodeV s).1).filter).kind), .int .i64 ((((decodeV s).1).filter).n)] (by first | rfl | (simp only [spl]; rfl)) ?_
         refine p_exact_w rfl ?_
         refine wN ?_
         refine tN (wKK hK43 ?_)
         refine wSeqK fun KK49 hK49 => ?_
         refine wReg ?_
         refine p_exact_w rfl ?_
         refine wQ (l := [.string s]) Try.func16 rfl (by kernel_rfl) (.tuple #[.agg #[.int .i64 ((decL s).getD 0 0), .int .i64 ((decL s).getD 1 0), .int .i64 ((decL s).getD 2 0), .int .i64 ((decL s).getD 3 0), .int .i64 ((decL s).getD 4 0), .int .i64 ((decL s).getD 5 0), .int .i64 ((decL s).getD 6 0), .int .i64 ((decL s).getD 7 0), .int .i64 ((decL s).getD 8 0), .int .i64 ((decL s).getD 9 0), .int .i64 ((decL s).getD 10 0), .int .i64 ((decL s).getD 11 0), .int .i64 ((decL s).getD 12 0), .int .i64 ((decL s).getD 13 0), .int .i64 ((decL s).getD 14 0), .int .i64 ((decL s).getD 15 0)], .bool false]) (fun wc H => by have h := refDecC s wc; rw [y7] at h; exact h) rfl rfl rfl rfl ?_
         iterate 3 refine p_exact_w rfl ?_
         refine wAl rfl rfl tyhoistwayref14_Request fun b13 => ?_
         refine wSr rfl tyhoistwayref14_Request 0 rfl rfl rfl rfl [.int .i64 ((decL s).getD 0 0), .int .i64 ((decL s).getD 1 0), .int .i64 ((decL s).getD 2 0), .int .i64 ((decL s).getD 3 0), .int .i64 ((decL s).getD 4 0), .int .i64 ((decL s).getD 5 0), .int .i64 ((decL s).getD 6 0), .int .i64 ((decL s).getD 7 0), .int .i64 ((decL s).getD 8 0), .int .i64 ((decL s).getD 9 0), .int .i64 ((decL s).getD 10 0), .int .i64 ((decL s).getD 11 0), .int .i64 ((decL s).getD 12 0), .int .i64 ((decL s).getD 13 0), .int .i64 ((decL s).getD 14 0), .int .i64 ((decL s).getD 15 0)] (by first | rfl | (simp only [spl]; rfl)) ?_
         refine p_exact_w rfl ?_
         refine wN ?_
         refine tN (wKK hK49 ?_)
         refine wSeqK fun KK50 hK50 => ?_
         refine wSeqK fun KK51 hK51 => ?_
         refine wReg ?_
         iterate 2 refine p_exact_w rfl ?_
         refine wN ?_
         refine tN (wKK hK51 ?_)
         refine wCt rfl ?_
         refine wSeqK fun KK52 hK52 => ?_
         refine wReg ?_
         iterate 2 refine p_exact_w rfl ?_
         refine wB 69 rfl hg1 ?_
         refine p_exact_w rfl ?_
         refine wLr rfl tymsg_Request 1 rfl [.int .i64 (((decodeV s).1).kind), .int .i64 (((decodeV s).1).seq), .int .i64 (((decodeV s).1).who), .int .i64 (((decodeV s).1).role), .int .u32 (((decodeV s).1).token), .int .u64 (((decodeV s).1).key), .int .i64 ((((decodeV s).1).call).id), .int .i64 ((((decodeV s).1).call).kind), .int .i64 ((((decodeV s).1).call).src), .int .i64 ((((decodeV s).1).call).dst), .int .i64 ((((decodeV s).1).call).car), .int .i64 ((((decodeV s).1).call).state), .int .i64 ((((decodeV s).1).call).owner), .int .i64 ((((decodeV s).1).call).born), .int .i64 (((decodeV s).1).id), .int .i64 (((decodeV s).1).car), .int .i64 (((decodeV s).1).mode), .int .i64 ((((decodeV s).1).filter).kind), .int .i64 ((((decodeV s).1).filter).n)] rfl rfl ?_
         refine wE (.agg #[.int .i64 0, .int .i64 0, .int .i64 0, .int .i64 0, .int .u32 0, .int .u64 0, .int .i64 0, .int .i64 0, .int .i64 0, .int .i64 0, .int .i64 0, .int .i64 0, .int .i64 0, .int .i64 0, .int .i64 0, .int .i64 0, .int .i64 0, .int .i64 0, .int .i64 0]) rfl rfl rfl (fun aa ww hs _ => by simp only [execOp]; go_simp <;> omega) ?_
         refine wE (.bool ((decide (((decodeV s).1) = (⟨0, 0, 0, 0, 0, 0, (⟨0, 0, 0, 0, 0, 0, 0, 0⟩ : CallV), 0, 0, 0, (⟨0, 0⟩ : FilterV)⟩ : ReqV))))) rfl rfl rfl (fun aa wc hs H => exec_eql rfl (hs _ _ rfl) (hs _ _ rfl) (by kernel_rfl) (run_eq_req ((decodeV s).1) (⟨0, 0, 0, 0, 0, 0, (⟨0, 0, 0, 0, 0, 0, 0, 0⟩ : CallV), 0, 0, 0, (⟨0, 0⟩ : FilterV)⟩ : ReqV) wc)) ?_
         refine wB 73 rfl hg2 ?_
         iterate 2 refine p_exact_w rfl ?_
         refine wN ?_
         refine tN (wKK hK52 ?_)
         refine wRet ?_
         refine tR ?_
         exact wR1 rfl rfl (fun ww H => ⟨rfl, H.out.off⟩)
     · skip
       refine wReg ?_
       refine wLr rfl tymsg_Request 0 rfl [.int .i64 q.kind, .int .i64 q.seq, .int .i64 q.who, .int .i64 q.role, .int .u32 q.token, .int .u64 q.key, .int .i64 q.call.id, .int .i64 q.call.kind, .int .i64 q.call.src, .int .i64 q.call.dst, .int .i64 q.call.car, .int .i64 q.call.state, .int .i64 q.call.owner, .int .i64 q.call.born, .int .i64 q.id, .int .i64 q.car, .int .i64 q.mode, .int .i64 q.filter.kind, .int .i64 q.filter.n] rfl rfl ?_
       refine wQ (l := [.agg #[.int .i64 q.kind, .int .i64 q.seq, .int .i64 q.who, .int .i64 q.role, .int .u32 q.token, .int .u64 q.key, .int .i64 q.call.id, .int .i64 q.call.kind, .int .i64 q.call.src, .int .i64 q.call.dst, .int .i64 q.call.car, .int .i64 q.call.state, .int .i64 q.call.owner, .int .i64 q.call.born, .int .i64 q.id, .int .i64 q.car, .int .i64 q.mode, .int .i64 q.filter.kind, .int .i64 q.filter.n]]) Try.func12 rfl (by kernel_rfl) (.tuple #[.agg #[.int .i64 ((numsQ q).getD 0 0), .int .i64 ((numsQ q).getD 1 0), .int .i64 ((numsQ q).getD 2 0), .int .i64 ((numsQ q).getD 3 0), .int .i64 ((numsQ q).getD 4 0), .int .i64 ((numsQ q).getD 5 0), .int .i64 ((numsQ q).getD 6 0), .int .i64 ((numsQ q).getD 7 0), .int .i64 ((numsQ q).getD 8 0), .int .i64 ((numsQ q).getD 9 0), .int .i64 ((numsQ q).getD 10 0), .int .i64 ((numsQ q).getD 11 0), .int .i64 ((numsQ q).getD 12 0), .int .i64 ((numsQ q).getD 13 0), .int .i64 ((numsQ q).getD 14 0), .int .i64 ((numsQ q).getD 15 0)], .bool false]) (fun wc H => by have h := formC q wc hq; rw [y2] at h; exact h) rfl rfl rfl rfl ?_
       iterate 3 refine p_exact_w rfl ?_
       refine wAl rfl rfl tyhoistwayref14_Request fun b5 => ?_
       refine wSr rfl tyhoistwayref14_Request 0 rfl rfl rfl rfl [.int .i64 ((numsQ q).getD 0 0), .int .i64 ((numsQ q).getD 1 0), .int .i64 ((numsQ q).getD 2 0), .int .i64 ((numsQ q).getD 3 0), .int .i64 ((numsQ q).getD 4 0), .int .i64 ((numsQ q).getD 5 0), .int .i64 ((numsQ q).getD 6 0), .int .i64 ((numsQ q).getD 7 0), .int .i64 ((numsQ q).getD 8 0), .int .i64 ((numsQ q).getD 9 0), .int .i64 ((numsQ q).getD 10 0), .int .i64 ((numsQ q).getD 11 0), .int .i64 ((numsQ q).getD 12 0), .int .i64 ((numsQ q).getD 13 0), .int .i64 ((numsQ q).getD 14 0), .int .i64 ((numsQ q).getD 15 0)] (by first | rfl | (simp only [spl]; rfl)) ?_
       refine p_exact_w rfl ?_
       refine wN ?_
       refine tN (wKK hK7 ?_)
       refine wSeqK fun KK53 hK53 => ?_
       refine wReg ?_
       refine wLr rfl tyhoistwayref14_Request 0 rfl [.int .i64 ((numsQ q).getD 0 0), .int .i64 ((numsQ q).getD 1 0), .int .i64 ((numsQ q).getD 2 0), .int .i64 ((numsQ q).getD 3 0), .int .i64 ((numsQ q).getD 4 0), .int .i64 ((numsQ q).getD 5 0), .int .i64 ((numsQ q).getD 6 0), .int .i64 ((numsQ q).getD 7 0), .int .i64 ((numsQ q).getD 8 0), .int .i64 ((numsQ q).getD 9 0), .int .i64 ((numsQ q).getD 10 0), .int .i64 ((numsQ q).getD 11 0), .int .i64 ((numsQ q).getD 12 0), .int .i64 ((numsQ q).getD 13 0), .int .i64 ((numsQ q).getD 14 0), .int .i64 ((numsQ q).getD 15 0)] rfl rfl ?_
       refine wQ (l := [.agg #[.int .i64 ((numsQ q).getD 0 0), .int .i64 ((numsQ q).getD 1 0), .int .i64 ((numsQ q).getD 2 0), .int .i64 ((numsQ q).getD 3 0), .int .i64 ((numsQ q).getD 4 0), .int .i64 ((numsQ q).getD 5 0), .int .i64 ((numsQ q).getD 6 0), .int .i64 ((numsQ q).getD 7 0), .int .i64 ((numsQ q).getD 8 0), .int .i64 ((numsQ q).getD 9 0), .int .i64 ((numsQ q).getD 10 0), .int .i64 ((numsQ q).getD 11 0), .int .i64 ((numsQ q).getD 12 0), .int .i64 ((numsQ q).getD 13 0), .int .i64 ((numsQ q).getD 14 0), .int .i64 ((numsQ q).getD 15 0)]]) Try.func13 rfl (by kernel_rfl) (.tuple #[.string (encR (numsQ q)), .bool false]) (fun wc H => by have h := refEncC (numsQ q) wc; rw [y6] at h; exact h) rfl rfl rfl rfl ?_
       iterate 5 refine p_exact_w rfl ?_
       refine wN ?_
       refine tN (wKK hK53 ?_)
       refine wSeqK fun KK54 hK54 => ?_
       intro aa ww nn dd hs H
       have hev := enc_noF hq (.inl y2)
       have hf6 : (((encodeV q).2) != 1) = false := by rw [hev]; rfl
       have hf7 : (((encodeV q).1).toList.isEmpty) = true := by rw [hev, ByteArray.toList_eq]; rfl
       refine wIn nn dd hs H ?_
       refine wReg ?_
       refine wLr rfl tymsg_Request 1 rfl [.int .i64 q.kind, .int .i64 q.seq, .int .i64 q.who, .int .i64 q.role, .int .u32 q.token, .int .u64 q.key, .int .i64 q.call.id, .int .i64 q.call.kind, .int .i64 q.call.src, .int .i64 q.call.dst, .int .i64 q.call.car, .int .i64 q.call.state, .int .i64 q.call.owner, .int .i64 q.call.born, .int .i64 q.id, .int .i64 q.car, .int .i64 q.mode, .int .i64 q.filter.kind, .int .i64 q.filter.n] rfl rfl ?_
       refine wQ (l := [.agg #[.int .i64 q.kind, .int .i64 q.seq, .int .i64 q.who, .int .i64 q.role, .int .u32 q.token, .int .u64 q.key, .int .i64 q.call.id, .int .i64 q.call.kind, .int .i64 q.call.src, .int .i64 q.call.dst, .int .i64 q.call.car, .int .i64 q.call.state, .int .i64 q.call.owner, .int .i64 q.call.born, .int .i64 q.id, .int .i64 q.car, .int .i64 q.mode, .int .i64 q.filter.kind, .int .i64 q.filter.n]]) Try.func14 rfl (by kernel_rfl) (.tuple #[.string ((encodeV q).1), .int .i64 ((encodeV q).2)]) (fun wc H => encodeC q (Lib.hid hq) wc) rfl rfl rfl rfl ?_
       iterate 5 refine p_exact_w rfl ?_
       refine wN ?_
       refine tN (wKK hK54 ?_)
       refine wSeqK fun KK55 hK55 => ?_
       refine wSeqK fun KK56 hK56 => ?_
       refine wReg ?_
       iterate 6 refine p_exact_w rfl ?_
       refine wN ?_
       refine tN (wKK hK56 ?_)
       refine wCt rfl ?_
       refine wSeqK fun KK57 hK57 => ?_
       refine wReg ?_
       iterate 2 refine p_exact_w rfl ?_
       refine wB 44 rfl hf6 ?_
       iterate 2 refine p_exact_w rfl ?_
       refine wE (.bool false) rfl rfl rfl (fun aa ww hs _ => by exact exec_sne (c := true) rfl (hs _ _ rfl) (rfl) (by first | exact hf7 | (rw [ByteArray.toList_eq]; exact hf7) | (simpa [ByteArray.toList_eq] using hf7))) ?_
       refine p_exact_w rfl ?_
       refine wN ?_
       refine tN (wKK hK57 ?_)
       refine wCf rfl ?_
       refine wSk ?_
       refine tN (wKK hK55 ?_)
       refine wSeqK fun KK58 hK58 => ?_
       rcases Bool.eq_false_or_eq_true (decOk s) with y8 | y8
       · skip
         intro aa ww nn dd hs H
         obtain ⟨hqd, hfd, hdl, hd0⟩ := dec_yesD y8
         have hg1 : (((decodeV s).2) == 0) = true := by rw [hd0]; rfl
         have hg2 : (formB ((decodeV s).1)) = true := hfd
         refine wIn nn dd hs H ?_
         refine wReg ?_
         refine p_exact_w rfl ?_
         refine wQ (l := [.string s]) Try.func15 rfl (by kernel_rfl) (.tuple #[.agg #[.int .i64 (((decodeV s).1).kind), .int .i64 (((decodeV s).1).seq), .int .i64 (((decodeV s).1).who), .int .i64 (((decodeV s).1).role), .int .u32 (((decodeV s).1).token), .int .u64 (((decodeV s).1).key), .int .i64 ((((decodeV s).1).call).id), .int .i64 ((((decodeV s).1).call).kind), .int .i64 ((((decodeV s).1).call).src), .int .i64 ((((decodeV s).1).call).dst), .int .i64 ((((decodeV s).1).call).car), .int .i64 ((((decodeV s).1).call).state), .int .i64 ((((decodeV s).1).call).owner), .int .i64 ((((decodeV s).1).call).born), .int .i64 (((decodeV s).1).id), .int .i64 (((decodeV s).1).car), .int .i64 (((decodeV s).1).mode), .int .i64 ((((decodeV s).1).filter).kind), .int .i64 ((((decodeV s).1).filter).n)], .int .i64 ((decodeV s).2)]) (fun wc H => decodeC s wc) rfl rfl rfl rfl ?_
         iterate 3 refine p_exact_w rfl ?_
         refine wAl rfl rfl tymsg_Request fun b11 => ?_
         refine wSr rfl tymsg_Request 0 rfl rfl rfl rfl [.int .i64 (((decodeV s).1).kind), .int .i64 (((decodeV s).1).seq), .int .i64 (((decodeV s).1).who), .int .i64 (((decodeV s).1).role), .int .u32 (((decodeV s).1).token), .int .u64 (((decodeV s).1).key), .int .i64 ((((decodeV s).1).call).id), .int .i64 ((((decodeV s).1).call).kind), .int .i64 ((((decodeV s).1).call).src), .int .i64 ((((decodeV s).1).call).dst), .int .i64 ((((decodeV s).1).call).car), .int .i64 ((((decodeV s).1).call).state), .int .i64 ((((decodeV s).1).call).owner), .int .i64 ((((decodeV s).1).call).born), .int .i64 (((decodeV s).1).id), .int .i64 (((decodeV s).1).car), .int .i64 (((decodeV s).1).mode), .int .i64 ((((decodeV s).1).filter).kind), .int .i64 ((((decodeV s).1).filter).n)] (by first | rfl | (simp only [spl]; rfl)) ?_
         refine p_exact_w rfl ?_
         refine wN ?_
         refine tN (wKK hK58 ?_)
         refine wSeqK fun KK59 hK59 => ?_
         refine wReg ?_
         refine p_exact_w rfl ?_
         refine wQ (l := [.string s]) Try.func16 rfl (by kernel_rfl) (.tuple #[.agg #[.int .i64 ((numsQ ((decodeV s).1)).getD 0 0), .int .i64 ((numsQ ((decodeV s).1)).getD 1 0), .int .i64 ((numsQ ((decodeV s).1)).getD 2 0), .int .i64 ((numsQ ((decodeV s).1)).getD 3 0), .int .i64 ((numsQ ((decodeV s).1)).getD 4 0), .int .i64 ((numsQ ((decodeV s).1)).getD 5 0), .int .i64 ((numsQ ((decodeV s).1)).getD 6 0), .int .i64 ((numsQ ((decodeV s).1)).getD 7 0), .int .i64 ((numsQ ((decodeV s).1)).getD 8 0), .int .i64 ((numsQ ((decodeV s).1)).getD 9 0), .int .i64 ((numsQ ((decodeV s).1)).getD 10 0), .int .i64 ((numsQ ((decodeV s).1)).getD 11 0), .int .i64 ((numsQ ((decodeV s).1)).getD 12 0), .int .i64 ((numsQ ((decodeV s).1)).getD 13 0), .int .i64 ((numsQ ((decodeV s).1)).getD 14 0), .int .i64 ((numsQ ((decodeV s).1)).getD 15 0)], .bool true]) (fun wc H => by have h := refDecC s wc; rw [y8, hdl] at h; exact h) rfl rfl rfl rfl ?_
         iterate 3 refine p_exact_w rfl ?_
         refine wAl rfl rfl tyhoistwayref14_Request fun b13 => ?_
         refine wSr rfl tyhoistwayref14_Request 0 rfl rfl rfl rfl [.int .i64 ((numsQ ((decodeV s).1)).getD 0 0), .int .i64 ((numsQ ((decodeV s).1)).getD 1 0), .int .i64 ((numsQ ((decodeV s).1)).getD 2 0), .int .i64 ((numsQ ((decodeV s).1)).getD 3 0), .int .i64 ((numsQ ((decodeV s).1)).getD 4 0), .int .i64 ((numsQ ((decodeV s).1)).getD 5 0), .int .i64 ((numsQ ((decodeV s).1)).getD 6 0), .int .i64 ((numsQ ((decodeV s).1)).getD 7 0), .int .i64 ((numsQ ((decodeV s).1)).getD 8 0), .int .i64 ((numsQ ((decodeV s).1)).getD 9 0), .int .i64 ((numsQ ((decodeV s).1)).getD 10 0), .int .i64 ((numsQ ((decodeV s).1)).getD 11 0), .int .i64 ((numsQ ((decodeV s).1)).getD 12 0), .int .i64 ((numsQ ((decodeV s).1)).getD 13 0), .int .i64 ((numsQ ((decodeV s).1)).getD 14 0), .int .i64 ((numsQ ((decodeV s).1)).getD 15 0)] (by first | rfl | (simp only [spl]; rfl)) ?_
         refine p_exact_w rfl ?_
         refine wN ?_
         refine tN (wKK hK59 ?_)
         refine wSeqK fun KK60 hK60 => ?_
         refine wSeqK fun KK61 hK61 => ?_
         refine wReg ?_
         iterate 2 refine p_exact_w rfl ?_
         refine wN ?_
         refine tN (wKK hK61 ?_)
         refine wCf rfl ?_
         refine wSk ?_
         refine tN (wKK hK60 ?_)
         refine wSeqK fun KK62 hK62 => ?_
         refine wReg ?_
         refine wLr rfl tymsg_Request 1 rfl [.int .i64 (((decodeV s).1).kind), .int .i64 (((decodeV s).1).seq), .int .i64 (((decodeV s).1).who), .int .i64 (((decodeV s).1).role), .int .u32 (((decodeV s).1).token), .int .u64 (((decodeV s).1).key), .int .i64 ((((decodeV s).1).call).id), .int .i64 ((((decodeV s).1).call).kind), .int .i64 ((((decodeV s).1).call).src), .int .i64 ((((decodeV s).1).call).dst), .int .i64 ((((decodeV s).1).call).car), .int .i64 ((((decodeV s).1).call).state), .int .i64 ((((decodeV s).1).call).owner), .int .i64 ((((decodeV s).1).call).born), .int .i64 (((decodeV s).1).id), .int .i64 (((decodeV s).1).car), .int .i64 (((decodeV s).1).mode), .int .i64 ((((decodeV s).1).filter).kind), .int .i64 ((((decodeV s).1).filter).n)] rfl rfl ?_
         refine wQ (l := [.agg #[.int .i64 (((decodeV s).1).kind), .int .i64 (((decodeV s).1).seq), .int .i64 (((decodeV s).1).who), .int .i64 (((decodeV s).1).role), .int .u32 (((decodeV s).1).token), .int .u64 (((decodeV s).1).key), .int .i64 ((((decodeV s).1).call).id), .int .i64 ((((decodeV s).1).call).kind), .int .i64 ((((decodeV s).1).call).src), .int .i64 ((((decodeV s).1).call).dst), .int .i64 ((((decodeV s).1).call).car), .int .i64 ((((decodeV s).1).call).state), .int .i64 ((((decodeV s).1).call).owner), .int .i64 ((((decodeV s).1).call).born), .int .i64 (((decodeV s).1).id), .int .i64 (((decodeV s).1).car), .int .i64 (((decodeV s).1).mode), .int .i64 ((((decodeV s).1).filter).kind), .int .i64 ((((decodeV s).1).filter).n)]]) Try.func12 rfl (by kernel_rfl) (.tuple #[.agg #[.int .i64 ((numsQ ((decodeV s).1)).getD 0 0), .int .i64 ((numsQ ((decodeV s).1)).getD 1 0), .int .i64 ((numsQ ((decodeV s).1)).getD 2 0), .int .i64 ((numsQ ((decodeV s).1)).getD 3 0), .int .i64 ((numsQ ((decodeV s).1)).getD 4 0), .int .i64 ((numsQ ((decodeV s).1)).getD 5 0), .int .i64 ((numsQ ((decodeV s).1)).getD 6 0), .int .i64 ((numsQ ((decodeV s).1)).getD 7 0), .int .i64 ((numsQ ((decodeV s).1)).getD 8 0), .int .i64 ((numsQ ((decodeV s).1)).getD 9 0), .int .i64 ((numsQ ((decodeV s).1)).getD 10 0), .int .i64 ((numsQ ((decodeV s).1)).getD 11 0), .int .i64 ((numsQ ((decodeV s).1)).getD 12 0), .int .i64 ((numsQ ((decodeV s).1)).getD 13 0), .int .i64 ((numsQ ((decodeV s).1)).getD 14 0), .int .i64 ((numsQ ((decodeV s).1)).getD 15 0)], .bool true]) (fun wc H => by have h := formC ((decodeV s).1) wc hqd; rw [hg2] at h; exact h) rfl rfl rfl rfl ?_
         iterate 3 refine p_exact_w rfl ?_
         refine wAl rfl rfl tyhoistwayref14_Request fun b15 => ?_
         refine wSr rfl tyhoistwayref14_Request 0 rfl rfl rfl rfl [.int .i64 ((numsQ ((decodeV s).1)).getD 0 0), .int .i64 ((numsQ ((decodeV s).1)).getD 1 0), .int .i64 ((numsQ ((decodeV s).1)).getD 2 0), .int .i64 ((numsQ ((decodeV s).1)).getD 3 0), .int .i64 ((numsQ ((decodeV s).1)).getD 4 0), .int .i64 ((numsQ ((decodeV s).1)).getD 5 0), .int .i64 ((numsQ ((decodeV s).1)).getD 6 0), .int .i64 ((numsQ ((decodeV s).1)).getD 7 0), .int .i64 ((numsQ ((decodeV s).1)).getD 8 0), .int .i64 ((numsQ ((decodeV s).1)).getD 9 0), .int .i64 ((numsQ ((decodeV s).1)).getD 10 0), .int .i64 ((numsQ ((decodeV s).1)).getD 11 0), .int .i64 ((numsQ ((decodeV s).1)).getD 12 0), .int .i64 ((numsQ ((decodeV s).1)).getD 13 0), .int .i64 ((numsQ ((decodeV s).1)).getD 14 0), .int .i64 ((numsQ ((decodeV s).1)).getD 15 0)] (by first | rfl | (simp only [spl]; rfl)) ?_
         refine p_exact_w rfl ?_
         refine wN ?_
         refine tN (wKK hK62 ?_)
         refine wSeqK fun KK63 hK63 => ?_
         refine wReg ?_
         iterate 2 refine p_exact_w rfl ?_
         refine wB 81 rfl hg1 ?_
         iterate 4 refine p_exact_w rfl ?_
         refine wLr rfl tyhoistwayref14_Request 0 rfl [.int .i64 ((numsQ ((decodeV s).1)).getD 0 0), .int .i64 ((numsQ ((decodeV s).1)).getD 1 0), .int .i64 ((numsQ ((decodeV s).1)).getD 2 0), .int .i64 ((numsQ ((decodeV s).1)).getD 3 0), .int .i64 ((numsQ ((decodeV s).1)).getD 4 0), .int .i64 ((numsQ ((decodeV s).1)).getD 5 0), .int .i64 ((numsQ ((decodeV s).1)).getD 6 0), .int .i64 ((numsQ ((decodeV s).1)).getD 7 0), .int .i64 ((numsQ ((decodeV s).1)).getD 8 0), .int .i64 ((numsQ ((decodeV s).1)).getD 9 0), .int .i64 ((numsQ ((decodeV s).1)).getD 10 0), .int .i64 ((numsQ ((decodeV s).1)).getD 11 0), .int .i64 ((numsQ ((decodeV s).1)).getD 12 0), .int .i64 ((numsQ ((decodeV s).1)).getD 13 0), .int .i64 ((numsQ ((decodeV s).1)).getD 14 0), .int .i64 ((numsQ ((decodeV s).1)).getD 15 0)] rfl rfl ?_
         refine wLr rfl tyhoistwayref14_Request 1 rfl [.int .i64 ((numsQ ((decodeV s).1)).getD 0 0), .int .i64 ((numsQ ((decodeV s).1)).getD 1 0), .int .i64 ((numsQ ((decodeV s).1)).getD 2 0), .int .i64 ((numsQ ((decodeV s).1)).getD 3 0), .int .i64 ((numsQ ((decodeV s).1)).getD 4 0), .int .i64 ((numsQ ((decodeV s).1)).getD 5 0), .int .i64 ((numsQ ((decodeV s).1)).getD 6 0), .int .i64 ((numsQ ((decodeV s).1)).getD 7 0), .int .i64 ((numsQ ((decodeV s).1)).getD 8 0), .int .i64 ((numsQ ((decodeV s).1)).getD 9 0), .int .i64 ((numsQ ((decodeV s).1)).getD 10 0), .int .i64 ((numsQ ((decodeV s).1)).getD 11 0), .int .i64 ((numsQ ((decodeV s).1)).getD 12 0), .int .i64 ((numsQ ((decodeV s).1)).getD 13 0), .int .i64 ((numsQ ((decodeV s).1)).getD 14 0), .int .i64 ((numsQ ((decodeV s).1)).getD 15 0)] rfl rfl ?_
         refine wE (.bool (true)) rfl rfl rfl (fun aa wc hs H => exec_eql rfl (hs _ _ rfl) (hs _ _ rfl) (by kernel_rfl) (run_eq_arr (numsQ ((decodeV s).1)) wc)) ?_
         iterate 2 refine p_exact_w rfl ?_
         refine wN ?_
         refine tN (wKK hK63 ?_)
         refine wRet ?_
         exact wR1 rfl rfl (fun ww H => ⟨rfl, H.out.off⟩)
       · skip
         intro aa ww nn dd hs H
         have hdn := dec_no y8
         have hg1 : (((decodeV s).2) == 4) = true := by rw [hdn]; rfl
         have hg2 : (decide ((decodeV s).1 = (⟨0, 0, 0, 0, 0, 0, (⟨0, 0, 0, 0, 0, 0, 0, 0⟩ : CallV), 0, 0, 0, (⟨0, 0⟩ : FilterV)⟩ : ReqV))) = true := by rw [hdn]; exact decide_eq_true rfl
         refine wIn nn dd hs H ?_
         refine wReg ?_
         refine p_exact_w rfl ?_
         refine wQ (l := [.string s]) Try.func15 rfl (by kernel_rfl) (.tuple #[.agg #[.int .i64 (((decodeV s).1).kind), .int .i64 (((decodeV s).1).seq), .int .i64 (((decodeV s).1).who), .int .i64 (((decodeV s).1).role), .int .u32 (((decodeV s).1).token), .int .u64 (((decodeV s).1).key), .int .i64 ((((decodeV s).1).call).id), .int .i64 ((((decodeV s).1).call).kind), .int .i64 ((((decodeV s).1).call).src), .int .i64 ((((decodeV s).1).call).dst), .int .i64 ((((decodeV s).1).call).car), .int .i64 ((((decodeV s).1).call).state), .int .i64 ((((decodeV s).1).call).owner), .int .i64 ((((decodeV s).1).call).born), .int .i64 (((decodeV s).1).id), .int .i64 (((decodeV s).1).car), .int .i64 (((decodeV s).1).mode), .int .i64 ((((decodeV s).1).filter).kind), .int .i64 ((((decodeV s).1).filter).n)], .int .i64 ((decodeV s).2)]) (fun wc H => decodeC s wc) rfl rfl rfl rfl ?_
         iterate 3 refine p_exact_w rfl ?_
         refine wAl rfl rfl tymsg_Request fun b11 => ?_
         refine wSr rfl tymsg_Request 0 rfl rfl rfl rfl [.int .i64 (((decodeV s).1).kind), .int .i64 (((decodeV s).1).seq), .int .i64 (((decodeV s).1).who), .int .i64 (((decodeV s).1).role), .int .u32 (((decodeV s).1).token), .int .u64 (((decodeV s).1).key), .int .i64 ((((decodeV s).1).call).id), .int .i64 ((((decodeV s).1).call).kind), .int .i64 ((((decodeV s).1).call).src), .int .i64 ((((decodeV s).1).call).dst), .int .i64 ((((decodeV s).1).call).car), .int .i64 ((((decodeV s).1).call).state), .int .i64 ((((decodeV s).1).call).owner), .int .i64 ((((decodeV s).1).call).born), .int .i64 (((decodeV s).1).id), .int .i64 (((decodeV s).1).car), .int .i64 (((decodeV s).1).mode), .int .i64 ((((decodeV s).1).filter).kind), .int .i64 ((((decodeV s).1).filter).n)] (by first | rfl | (simp only [spl]; rfl)) ?_
         refine p_exact_w rfl ?_
         refine wN ?_
         refine tN (wKK hK58 ?_)
         refine wSeqK fun KK64 hK64 => ?_
         refine wReg ?_
         refine p_exact_w rfl ?_
         refine wQ (l := [.string s]) Try.func16 rfl (by kernel_rfl) (.tuple #[.agg #[.int .i64 ((decL s).getD 0 0), .int .i64 ((decL s).getD 1 0), .int .i64 ((decL s).getD 2 0), .int .i64 ((decL s).getD 3 0), .int .i64 ((decL s).getD 4 0), .int .i64 ((decL s).getD 5 0), .int .i64 ((decL s).getD 6 0), .int .i64 ((decL s).getD 7 0), .int .i64 ((decL s).getD 8 0), .int .i64 ((decL s).getD 9 0), .int .i64 ((decL s).getD 10 0), .int .i64 ((decL s).getD 11 0), .int .i64 ((decL s).getD 12 0), .int .i64 ((decL s).getD 13 0), .int .i64 ((decL s).getD 14 0), .int .i64 ((decL s).getD 15 0)], .bool false]) (fun wc H => by have h := refDecC s wc; rw [y8] at h; exact h) rfl rfl rfl rfl ?_
         iterate 3 refine p_exact_w rfl ?_
         refine wAl rfl rfl tyhoistwayref14_Request fun b13 => ?_
         refine wSr rfl tyhoistwayref14_Request 0 rfl rfl rfl rfl [.int .i64 ((decL s).getD 0 0), .int .i64 ((decL s).getD 1 0), .int .i64 ((decL s).getD 2 0), .int .i64 ((decL s).getD 3 0), .int .i64 ((decL s).getD 4 0), .int .i64 ((decL s).getD 5 0), .int .i64 ((decL s).getD 6 0), .int .i64 ((decL s).getD 7 0), .int .i64 ((decL s).getD 8 0), .int .i64 ((decL s).getD 9 0), .int .i64 ((decL s).getD 10 0), .int .i64 ((decL s).getD 11 0), .int .i64 ((decL s).getD 12 0), .int .i64 ((decL s).getD 13 0), .int .i64 ((decL s).getD 14 0), .int .i64 ((decL s).getD 15 0)] (by first | rfl | (simp only [spl]; rfl)) ?_
         refine p_exact_w rfl ?_
         refine wN ?_
         refine tN (wKK hK64 ?_)
         refine wSeqK fun KK65 hK65 => ?_
         refine wSeqK fun KK66 hK66 => ?_
         refine wReg ?_
         iterate 2 refine p_exact_w rfl ?_
         refine wN ?_
         refine tN (wKK hK66 ?_)
         refine wCt rfl ?_
         refine wSeqK fun KK67 hK67 => ?_
         refine wReg ?_
         iterate 2 refine p_exact_w rfl ?_
         refine wB 69 rfl hg1 ?_
         refine p_exact_w rfl ?_
         refine wLr rfl tymsg_Request 1 rfl [.int .i64 (((decodeV s).1).kind), .int .i64 (((decodeV s).1).seq), .int .i64 (((decodeV s).1).who), .int .i64 (((decodeV s).1).role), .int .u32 (((decodeV s).1).token), .int .u64 (((decodeV s).1).key), .int .i64 ((((decodeV s).1).call).id), .int .i64 ((((decodeV s).1).call).kind), .int .i64 ((((decodeV s).1).call).src), .int .i64 ((((decodeV s).1).call).dst), .int .i64 ((((decodeV s).1).call).car), .int .i64 ((((decodeV s).1).call).state), .int .i64 ((((decodeV s).1).call).owner), .int .i64 ((((decodeV s).1).call).born), .int .i64 (((decodeV s).1).id), .int .i64 (((decodeV s).1).car), .int .i64 (((decodeV s).1).mode), .int .i64 ((((decodeV s).1).filter).kind), .int .i64 ((((decodeV s).1).filter).n)] rfl rfl ?_
         refine wE (.agg #[.int .i64 0, .int .i64 0, .int .i64 0, .int .i64 0, .int .u32 0, .int .u64 0, .int .i64 0, .int .i64 0, .int .i64 0, .int .i64 0, .int .i64 0, .int .i64 0, .int .i64 0, .int .i64 0, .int .i64 0, .int .i64 0, .int .i64 0, .int .i64 0, .int .i64 0]) rfl rfl rfl (fun aa ww hs _ => by simp only [execOp]; go_simp <;> omega) ?_
         refine wE (.bool ((decide (((decodeV s).1) = (⟨0, 0, 0, 0, 0, 0, (⟨0, 0, 0, 0, 0, 0, 0, 0⟩ : CallV), 0, 0, 0, (⟨0, 0⟩ : FilterV)⟩ : ReqV))))) rfl rfl rfl (fun aa wc hs H => exec_eql rfl (hs _ _ rfl) (hs _ _ rfl) (by kernel_rfl) (run_eq_req ((decodeV s).1) (⟨0, 0, 0, 0, 0, 0, (⟨0, 0, 0, 0, 0, 0, 0, 0⟩ : CallV), 0, 0, 0, (⟨0, 0⟩ : FilterV)⟩ : ReqV) wc)) ?_
         refine wB 73 rfl hg2 ?_
         iterate 2 refine p_exact_w rfl ?_
         refine wN ?_
         refine tN (wKK hK67 ?_)
         refine wRet ?_
         refine tR ?_
         exact wR1 rfl rfl (fun ww H => ⟨rfl, H.out.off⟩)
end Go.Proofs.Ytloemjhhedkhiaa.Ms
