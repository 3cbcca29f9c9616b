/- Layer 15: notices that are written. -/
import Derived.Test.YtloemjhhedkhiaaProg
import Derived.Below
import Derived.WalkKit
import Derived.KernelRfl
import Derived.RowKit3
import Derived.Deep.LoopGhost
import Derived.Deep.QuietTactic
import Derived.BigQuiet
import Derived.WideLaws
import Derived.Deep.DeepCutAuto
import Derived.Deep.CutBlock
import Derived.Lib.Hide
import Derived.Laws.BitsLemmas
import Derived.Laws.Bits64
import Derived.Laws.BitsAllLaws
import Derived.IntWalk
import Derived.Outline
import Derived.WalkSpells
import Derived.Test.YtloemjhhedkhiaaMem
import Derived.Test.YtloemjhhedkhiaaNw3
namespace Go.Proofs.Ytloemjhhedkhiaa.Nt
open Go.RowKit Go.Proofs.Ytloemjhhedkhiaa.Mem Go.Proofs.Ytloemjhhedkhiaa.Pk Go.Proofs.Ytloemjhhedkhiaa.Reg Go.Proofs.Ytloemjhhedkhiaa.Wk
set_option linter.unusedVariables false
set_option linter.unusedSimpArgs false

set_option maxRecDepth 20000 in
set_option maxHeartbeats 16000000 in
theorem run_eq_call (X Y : CallV) (w : World) : (Op.equalIn 10000 25 (.agg #[.int .i64 X.id, .int .i64 X.kind, .int .i64 X.src, .int .i64 X.dst, .int .i64 X.car, .int .i64 X.state, .int .i64 X.owner, .int .i64 X.born]) (.agg #[.int .i64 Y.id, .int .i64 Y.kind, .int .i64 Y.src, .int .i64 Y.dst, .int .i64 Y.car, .int .i64 Y.state, .int .i64 Y.owner, .int .i64 Y.born])).run Try.prog w = .ok (decide (X = Y)) w := by
  have u_i64 := Try.underlying3
  rw [show (10000 : Nat) = 9999 + 1 from rfl]
  go_simp
  clear u_i64
  by_cases he : X = Y
  · subst he
    simp
  · have hf : decide (X = Y) = false := by simpa using he
    rw [hf]
    iterate 8 (refine if_chainR fun _ => ?_)
    exfalso
    refine he ?_
    obtain ⟨x1, x2, x3, x4, x5, x6, x7, x8⟩ := X
    obtain ⟨y1, y2, y3, y4, y5, y6, y7, y8⟩ := Y
    simp_all
set_option maxRecDepth 20000 in
set_option maxHeartbeats 16000000 in
theorem run_eq_chg (X Y : ChgV) (w : World) : (Op.equalIn 10000 48 (.agg #[.int .i64 X.index, .int .i64 X.call.id, .int .i64 X.call.kind, .int .i64 X.call.src, .int .i64 X.call.dst, .int .i64 X.call.car, .int .i64 X.call.state, .int .i64 X.call.owner, .int .i64 X.call.born, .int .i64 X.car, .int .i64 X.mode]) (.agg #[.int .i64 Y.index, .int .i64 Y.call.id, .int .i64 Y.call.kind, .int .i64 Y.call.src, .int .i64 Y.call.dst, .int .i64 Y.call.car, .int .i64 Y.call.state, .int .i64 Y.call.owner, .int .i64 Y.call.born, .int .i64 Y.car, .int .i64 Y.mode])).run Try.prog w = .ok (decide (X = Y)) w := by
  have u_i64 := Try.underlying3
  have us0 := Try.underlying25
  rw [show (10000 : Nat) = 9999 + 1 from rfl]
  go_simp
  clear u_i64 us0
  by_cases he : X = Y
  · subst he
    simp
  · have hf : decide (X = Y) = false := by simpa using he
    rw [hf]
    iterate 11 (refine if_chainR fun _ => ?_)
    exfalso
    refine he ?_
    obtain ⟨x1, ⟨x2, x3, x4, x5, x6, x7, x8, x9⟩, x10, x11⟩ := X
    obtain ⟨y1, ⟨y2, y3, y4, y5, y6, y7, y8, y9⟩, y10, y11⟩ := Y
    simp_all
set_option maxRecDepth 20000 in
set_option maxHeartbeats 16000000 in
theorem run_eq_note (X Y : NoteV) (w : World) : (Op.equalIn 10000 50 (.agg #[.int .i64 X.index, .int .i64 X.chg.index, .int .i64 X.chg.call.id, .int .i64 X.chg.call.kind, .int .i64 X.chg.call.src, .int .i64 X.chg.call.dst, .int .i64 X.chg.call.car, .int .i64 X.chg.call.state, .int .i64 X.chg.call.owner, .int .i64 X.chg.call.born, .int .i64 X.chg.car, .int .i64 X.chg.mode]) (.agg #[.int .i64 Y.index, .int .i64 Y.chg.index, .int .i64 Y.chg.call.id, .int .i64 Y.chg.call.kind, .int .i64 Y.chg.call.src, .int .i64 Y.chg.call.dst, .int .i64 Y.chg.call.car, .int .i64 Y.chg.call.state, .int .i64 Y.chg.call.owner, .int .i64 Y.chg.call.born, .int .i64 Y.chg.car, .int .i64 Y.chg.mode])).run Try.prog w = .ok (decide (X = Y)) w := by
  have u_i64 := Try.underlying3
  have us0 := Try.underlying48
  have us1 := Try.underlying25
  rw [show (10000 : Nat) = 9999 + 1 from rfl]
  go_simp
  clear u_i64 us0 us1
  by_cases he : X = Y
  · subst he
    simp
  · have hf : decide (X = Y) = false := by simpa using he
    rw [hf]
    iterate 12 (refine if_chainR fun _ => ?_)
    exfalso
    refine he ?_
    obtain ⟨x1, ⟨x2, ⟨x3, x4, x5, x6, x7, x8, x9, x10⟩, x11, x12⟩⟩ := X
    obtain ⟨y1, ⟨y2, ⟨y3, y4, y5, y6, y7, y8, y9, y10⟩, y11, y12⟩⟩ := Y
    simp_all
def tellM (n : NoteV) : ByteArray × Int :=
  bif (cntsV [n.index]).2 then
    (bif decide (n.chg = (⟨0, (⟨0, 0, 0, 0, 0, 0, 0, 0⟩ : CallV), 0, 0⟩ : ChgV)) then (str ([] ++ (encs 1 [129]).1 ++ (cntsV [n.index]).1 ++ (encs 1 [0]).1), 0)
    else bif n.chg.index != n.index then (⟨#[]⟩, 1)
    else bif !(decide (n.chg.call = (⟨0, 0, 0, 0, 0, 0, 0, 0⟩ : CallV))) then (bif ((n.chg.car == 0) && (n.chg.mode == 0)) && callOk n.chg.call then (str ([] ++ (encs 1 [129]).1 ++ (cntsV [n.index]).1 ++ (encs 1 [1]).1 ++ callB n.chg.call), 0) else (⟨#[]⟩, 1))
    else bif ((decide (0 < n.chg.car)) && (decide (0 < n.chg.mode))) && (encs 1 [2, n.chg.car, n.chg.mode]).2 then (str ([] ++ (encs 1 [129]).1 ++ (cntsV [n.index]).1 ++ (encs 1 [2, n.chg.car, n.chg.mode]).1), 0) else (⟨#[]⟩, 1))
  else (⟨#[]⟩, 1)
theorem tell_is (n : NoteV) : tellV n = tellM n := by
  unfold tellV tellL tellM
  have e1 : (cntsV [n.index]).2 = cnt n.index := by rw [cnts_all]; simp
  rw [e1]
  cases hc : cnt n.index with
  | false => rfl
  | true =>
    have hb : (cntsV [n.index]).1 = beB 4 n.index.toNat := by rw [cnts_ok (by rw [e1]; exact hc)]; simp [beBs]
    have h0 : (encs 1 [129]).1 = beB 1 129 := rfl
    have h2 : (encs 1 [0]).1 = beB 1 0 := rfl
    have h3 : (encs 1 [1]).1 = beB 1 1 := rfl
    rw [hb, h0, h2, h3]
    simp only [cond_true]
    by_cases hz : n.chg = zeroG
    · rw [decide_eq_true hz, decide_eq_true (show n.chg = (⟨0, (⟨0, 0, 0, 0, 0, 0, 0, 0⟩ : CallV), 0, 0⟩ : ChgV) from hz)]
      simp only [cond_true]
      unfold headN
      rw [List.nil_append]
    · rw [decide_eq_false hz, decide_eq_false (show ¬ n.chg = (⟨0, (⟨0, 0, 0, 0, 0, 0, 0, 0⟩ : CallV), 0, 0⟩ : ChgV) from hz)]
      simp only [cond_false]
      cases hj : (n.chg.index != n.index) with
      | true => rfl
      | false =>
        simp only [cond_false]
        by_cases hk : n.chg.call = zeroC
        · rw [decide_eq_true hk, decide_eq_true (show n.chg.call = (⟨0, 0, 0, 0, 0, 0, 0, 0⟩ : CallV) from hk)]
          simp only [Bool.not_true, cond_false]
          have e2 : carOk n.chg = (((decide (0 < n.chg.car)) && (decide (0 < n.chg.mode))) && (encs 1 [2, n.chg.car, n.chg.mode]).2) := by
            unfold carOk
            rw [encs1]
            have : byt 2 = true := rfl
            simp [this]
          rw [← e2]
          cases ho : carOk n.chg with
          | false => rfl
          | true =>
            rw [e2, Bool.and_eq_true] at ho
            rw [encs_ok ho.2]
            simp only [cond_true]
            unfold headN
            simp [beBs]
        · rw [decide_eq_false hk, decide_eq_false (show ¬ n.chg.call = (⟨0, 0, 0, 0, 0, 0, 0, 0⟩ : CallV) from hk)]
          simp only [Bool.not_false, cond_true]
          cases ho : ((n.chg.car == 0) && (n.chg.mode == 0)) && callOk n.chg.call with
          | false => rfl
          | true =>
            simp only [cond_true]
            unfold headN
            simp
def tab_tellC : Wk.Tab := [(48, 0, 0), (48, 1, 1), (48, 2, 9), (48, 3, 10), (50, 0, 0), (50, 1, 1)]
theorem p_tellC {ops : Array Oper} {rest : List Oper} {o : Oper} {w0 : World} {Q : Exit → Act → World → Prop} {S : List Nat} {R : List Res} {K K' : Wk.Env} {N : Nat} (h : Wk.stp tab_tellC N ops K o = some K') (n : Wk.Wk N S w0 K' R (wpList Try.prog ops Q rest)) : Wk.Wk N S w0 K R (wpList Try.prog ops Q (o :: rest)) := Wk.wP (T := tab_tellC) (by kernel_rfl) h n
set_option maxHeartbeats 16000000 in
set_option maxRecDepth 20000 in
theorem tellC (n : NoteV) (w : World) : Calls Try.prog 19 #[.agg #[.int .i64 n.index, .int .i64 n.chg.index, .int .i64 n.chg.call.id, .int .i64 n.chg.call.kind, .int .i64 n.chg.call.src, .int .i64 n.chg.call.dst, .int .i64 n.chg.call.car, .int .i64 n.chg.call.state, .int .i64 n.chg.call.owner, .int .i64 n.chg.call.born, .int .i64 n.chg.car, .int .i64 n.chg.mode]] w fun e w' => e = .returned (.tuple #[.string (tellV n).1, .int .i64 (tellV n).2]) ∧ Off [] w w' := by
 have H := Lib.hid (Hp.start [] w)
 refine wStart (args := [.agg #[.int .i64 n.index, .int .i64 n.chg.index, .int .i64 n.chg.call.id, .int .i64 n.chg.call.kind, .int .i64 n.chg.call.src, .int .i64 n.chg.call.dst, .int .i64 n.chg.call.car, .int .i64 n.chg.call.state, .int .i64 n.chg.call.owner, .int .i64 n.chg.call.born, .int .i64 n.chg.car, .int .i64 n.chg.mode]]) Try.func19 rfl rfl rfl H ?_
 clear H
 show Wk 88 _ _ [(0, .agg #[.int .i64 n.index, .int .i64 n.chg.index, .int .i64 n.chg.call.id, .int .i64 n.chg.call.kind, .int .i64 n.chg.call.src, .int .i64 n.chg.call.dst, .int .i64 n.chg.call.car, .int .i64 n.chg.call.state, .int .i64 n.chg.call.owner, .int .i64 n.chg.call.born, .int .i64 n.chg.car, .int .i64 n.chg.mode])] _ _
 have hk1 : (encs 1 [129]).2 = true := rfl
 have hk2 : (encs 1 [0]).2 = true := rfl
 have hk3 : (encs 1 [1]).2 = true := rfl
 refine wSeqK fun KK1 hK1 => ?_
 refine wReg ?_
 refine wBx rfl rfl rfl fun b1 => ?_
 iterate 2 refine p_tellC rfl ?_
 refine wN ?_
 refine tN (wKK hK1 ?_)
 refine wSeqK fun KK2 hK2 => ?_
 refine wReg ?_
 refine wE (.agg #[.slice none 0 0]) rfl rfl rfl (fun aa ww hs _ => by simp only [execOp]; go_simp <;> omega) ?_
 refine wBx rfl rfl rfl fun b8 => ?_
 refine p_tellC rfl ?_
 refine wN ?_
 intro aa ww nn dd hs H
 replace H := outNewH H
 refine wIn nn dd hs H ?_
 refine tN (wKK hK2 ?_)
 refine wSeqK fun KK3 hK3 => ?_
 refine wReg ?_
 refine p_tellC rfl ?_
 refine wLr rfl tyapi_Change 1 rfl [.int .i64 n.chg.index, .int .i64 n.chg.call.id, .int .i64 n.chg.call.kind, .int .i64 n.chg.call.src, .int .i64 n.chg.call.dst, .int .i64 n.chg.call.car, .int .i64 n.chg.call.state, .int .i64 n.chg.call.owner, .int .i64 n.chg.call.born, .int .i64 n.chg.car, .int .i64 n.chg.mode] rfl rfl ?_
 refine wAl rfl rfl tyapi_Change fun b5 => ?_
 refine wSr rfl tyapi_Change 0 rfl rfl rfl rfl [.int .i64 n.chg.index, .int .i64 n.chg.call.id, .int .i64 n.chg.call.kind, .int .i64 n.chg.call.src, .int .i64 n.chg.call.dst, .int .i64 n.chg.call.car, .int .i64 n.chg.call.state, .int .i64 n.chg.call.owner, .int .i64 n.chg.call.born, .int .i64 n.chg.car, .int .i64 n.chg.mode] (by first | rfl | (simp only [spl]; rfl)) ?_
 refine wN ?_
 refine tN (wKK hK3 ?_)
 refine wSeqK fun KK4 hK4 => ?_
 rcases Bool.eq_false_or_eq_true ((cntsV [n.index]).2) with y1 | y1
 · skip
   refine wReg ?_
   refine p_tellC rfl ?_
   refine wBs (cs := [.int .i64 129]) rfl rfl rfl rfl Try.underlying125 tyint rfl (by decide) (by decide) (by kernel_rfl) fun b12 => ?_
   refine wC (l := [.pointer (some ⟨b8, 0, none⟩), .int .i64 1, .slice (some ⟨b12, 0, none⟩) 1 1]) Try.func46 rfl (by kernel_rfl) (fun wc H => by have h := outNumsH H (ns := [129]) (wd := 1) (n := 1) (c := 1) (i := 2) (j := 0) rfl rfl rfl rfl (by decide) (by decide); rw [hk1] at h; exact h) rfl rfl rfl rfl ?_
   intro wc H
   rintro er wd ⟨rfl, fF3_2, H2⟩
   refine ⟨_, rfl, wkAt H2 ?_⟩
   clear H H2
   iterate 3 refine p_tellC rfl ?_
   refine wLd rfl tyint 3 rfl rfl ?_
   refine wBs (cs := [.int .i64 n.index]) rfl rfl rfl rfl Try.underlying125 tyint rfl (by decide) (by decide) (by kernel_rfl) fun b18 => ?_
   refine wC (l := [.pointer (some ⟨b8, 0, none⟩), .slice (some ⟨b18, 0, none⟩) 1 1]) Try.func47 rfl (by kernel_rfl) (fun wc H => by have h := countsH H (ns := [n.index]) (n := 1) (c := 1) (i := 3) (j := 0) rfl rfl rfl rfl (by decide) (by decide); rw [y1] at h; exact h) rfl rfl rfl rfl ?_
   intro wc H
   rintro er wd ⟨rfl, fF3_8, H2⟩
   refine ⟨_, rfl, wkAt H2 ?_⟩
   clear H H2
   iterate 2 refine p_tellC rfl ?_
   refine wN ?_
   refine tN (wKK hK4 ?_)
   refine wSeqK fun KK5 hK5 => ?_
   refine wBlk ?_
   refine wSeqK fun KK6 hK6 => ?_
   refine wReg ?_
   refine wLr rfl tyapi_Change 2 rfl [.int .i64 n.chg.index, .int .i64 n.chg.call.id, .int .i64 n.chg.call.kind, .int .i64 n.chg.call.src, .int .i64 n.chg.call.dst, .int .i64 n.chg.call.car, .int .i64 n.chg.call.state, .int .i64 n.chg.call.owner, .int .i64 n.chg.call.born, .int .i64 n.chg.car, .int .i64 n.chg.mode] rfl rfl ?_
   refine wE (.agg #[.int .i64 0, .int .i64 0, .int .i64 0, .int .i64 0, .int .i64 0, .int .i64 0, .int .i64 0, .int .i64 0, .int .i64 0, .int .i64 0, .int .i64 0]) rfl rfl rfl (fun aa ww hs _ => by simp only [execOp]; go_simp <;> omega) ?_
   refine wE (.bool ((decide (n.chg = (⟨0, (⟨0, 0, 0, 0, 0, 0, 0, 0⟩ : CallV), 0, 0⟩ : ChgV))))) rfl rfl rfl (fun aa wc hs H => exec_eql rfl (hs _ _ rfl) (hs _ _ rfl) (by kernel_rfl) (run_eq_chg n.chg (⟨0, (⟨0, 0, 0, 0, 0, 0, 0, 0⟩ : CallV), 0, 0⟩ : ChgV) wc)) ?_
   refine p_tellC rfl ?_
   refine wN ?_
   refine tN (wKK hK6 ?_)
   refine wCond (E := decide (n.chg = (⟨0, (⟨0, 0, 0, 0, 0, 0, 0, 0⟩ : CallV), 0, 0⟩ : ChgV))) rfl (fun z2 => ?_) (fun z2 => ?_)
   · skip
     refine wReg ?_
     iterate 3 refine p_tellC rfl ?_
     refine wBs (cs := [.int .i64 0]) rfl rfl rfl rfl Try.underlying125 tyint rfl (by decide) (by decide) (by kernel_rfl) fun b48 => ?_
     refine wC (l := [.pointer (some ⟨b8, 0, none⟩), .int .i64 1, .slice (some ⟨b48, 0, none⟩) 1 1]) Try.func46 rfl (by kernel_rfl) (fun wc H => by have h := outNumsH H (ns := [0]) (wd := 1) (n := 1) (c := 1) (i := 4) (j := 0) rfl rfl rfl rfl (by decide) (by decide); rw [hk2] at h; exact h) rfl rfl rfl rfl ?_
     intro wc H
     rintro er wd ⟨rfl, fF6_4, H2⟩
     refine ⟨_, rfl, wkAt H2 ?_⟩
     clear H H2
     iterate 2 refine p_tellC rfl ?_
     refine wN ?_
     refine bN (tN (wKK hK5 ?_))
     refine wSeqK fun KK7 hK7 => ?_
     refine wSeqK fun KK8 hK8 => ?_
     refine wReg ?_
     iterate 2 refine p_tellC rfl ?_
     refine wN ?_
     refine tN (wKK hK8 ?_)
     refine wCf rfl ?_
     refine wSk ?_
     refine tN (wKK hK7 ?_)
     refine wSeqK fun KK9 hK9 => ?_
     refine wReg ?_
     refine p_tellC rfl ?_
     refine wQ (l := [.pointer (some ⟨b8, 0, none⟩)]) Try.func49 rfl (by kernel_rfl) (.string (str (((([]) ++ (encs 1 [129]).1) ++ (cntsV [n.index]).1) ++ (encs 1 [0]).1))) (fun wc H => off_of_eq (outStringH H (i := 4) rfl)) rfl rfl rfl rfl ?_
     iterate 2 refine p_tellC rfl ?_
     refine wN ?_
     refine tN (wKK hK9 ?_)
     refine wRet ?_
     exact wR2 rfl rfl rfl (fun ww H => (by rw [tell_is]; exact ⟨by unfold tellM; simp only [y1, z2, cond_true, cond_false, Bool.not_true, Bool.not_false, Bool.true_and, Bool.and_true, Bool.false_and, Bool.and_false, Bool.true_or, Bool.or_true, Bool.false_or, Bool.or_false], H.out.off⟩))
   · skip
     refine wSeqK fun KK10 hK10 => ?_
     refine wReg ?_
     refine p_tellC rfl ?_
     refine wLd rfl tyint 2 rfl rfl ?_
     refine p_tellC rfl ?_
     refine wLd rfl tyint 4 rfl rfl ?_
     iterate 2 refine p_tellC rfl ?_
     refine wN ?_
     refine tN (wKK hK10 ?_)
     refine wCond (E := n.chg.index != n.index) rfl (fun z3 => ?_) (fun z3 => ?_)
     · skip
       have z3o : (n.chg.index == n.index) = false := neq_t z3
       refine wReg ?_
       refine p_tellC rfl ?_
       refine wN ?_
       refine bN (tN (wKK hK5 ?_))
       refine wSeqK fun KK11 hK11 => ?_
       refine wSeqK fun KK12 hK12 => ?_
       refine wReg ?_
       iterate 2 refine p_tellC rfl ?_
       refine wN ?_
       refine tN (wKK hK12 ?_)
       refine wCt rfl ?_
       refine wSeqK fun KK13 hK13 => ?_
       refine wReg ?_
       iterate 2 refine p_tellC rfl ?_
       refine wN ?_
       refine tN (wKK hK13 ?_)
       refine wRet ?_
       refine tR ?_
       exact wR2 rfl rfl rfl (fun ww H => (by rw [tell_is]; exact ⟨by unfold tellM; simp only [y1, z2, z3, z3o, cond_true, cond_false, Bool.not_true, Bool.not_false, Bool.true_and, Bool.and_true, Bool.false_and, Bool.and_false, Bool.true_or, Bool.or_true, Bool.false_or, Bool.or_false], H.out.off⟩))
     · skip
       have z3o : (n.chg.index == n.index) = true := neq_f z3
       refine wSeqK fun KK14 hK14 => ?_
       refine wReg ?_
       refine p_tellC rfl ?_
       refine wLr rfl tyapi_Call 2 rfl [.int .i64 n.chg.call.id, .int .i64 n.chg.call.kind, .int .i64 n.chg.call.src, .int .i64 n.chg.call.dst, .int .i64 n.chg.call.car, .int .i64 n.chg.call.state, .int .i64 n.chg.call.owner, .int .i64 n.chg.call.born] rfl rfl ?_
       refine wE (.agg #[.int .i64 0, .int .i64 0, .int .i64 0, .int .i64 0, .int .i64 0, .int .i64 0, .int .i64 0, .int .i64 0]) rfl rfl rfl (fun aa ww hs _ => by simp only [execOp]; go_simp <;> omega) ?_
       refine wE (.bool (!(decide (n.chg.call = (⟨0, 0, 0, 0, 0, 0, 0, 0⟩ : CallV))))) rfl rfl rfl (fun aa wc hs H => exec_neq rfl (hs _ _ rfl) (hs _ _ rfl) (by kernel_rfl) (run_eq_call n.chg.call (⟨0, 0, 0, 0, 0, 0, 0, 0⟩ : CallV) wc)) ?_
       refine p_tellC rfl ?_
       refine wN ?_
       refine tN (wKK hK14 ?_)
       refine wCond (E := !(decide (n.chg.call = (⟨0, 0, 0, 0, 0, 0, 0, 0⟩ : CallV)))) rfl (fun z4 => ?_) (fun z4 => ?_)
       · skip
         have z4n : (decide (n.chg.call = (⟨0, 0, 0, 0, 0, 0, 0, 0⟩ : CallV))) = false := Reg.bn z4
         rcases Bool.eq_false_or_eq_true (n.chg.car == 0) with y5 | y5
         · skip
           have y5o : (n.chg.car != 0) = false := eqq_t y5
           rcases Bool.eq_false_or_eq_true (n.chg.mode == 0) with y6 | y6
           · skip
             have y6o : (n.chg.mode != 0) = false := eqq_t y6
             refine wReg ?_
             iterate 3 refine p_tellC rfl ?_
             refine wLd rfl tyint 2 rfl rfl ?_
             refine p_tellC rfl ?_
             refine wB 66 rfl y5 ?_
             iterate 3 refine p_tellC rfl ?_
             refine wLd rfl tyint 2 rfl rfl ?_
             refine p_tellC rfl ?_
             refine wB 71 rfl y6 ?_
             iterate 3 refine p_tellC rfl ?_
             refine wBs (cs := [.int .i64 1]) rfl rfl rfl rfl Try.underlying125 tyint rfl (by decide) (by decide) (by kernel_rfl) fun b75 => ?_
             refine wC (l := [.pointer (some ⟨b8, 0, none⟩), .int .i64 1, .slice (some ⟨b75, 0, none⟩) 1 1]) Try.func46 rfl (by kernel_rfl) (fun wc H => by have h := outNumsH H (ns := [1]) (wd := 1) (n := 1) (c := 1) (i := 4) (j := 0) rfl rfl rfl rfl (by decide) (by decide); rw [hk3] at h; exact h) rfl rfl rfl rfl ?_
             intro wc H
             rintro er wd ⟨rfl, fF10_14, H2⟩
             refine ⟨_, rfl, wkAt H2 ?_⟩
             clear H H2
             iterate 4 refine p_tellC rfl ?_
             refine wLr rfl tyapi_Call 3 rfl [.int .i64 n.chg.call.id, .int .i64 n.chg.call.kind, .int .i64 n.chg.call.src, .int .i64 n.chg.call.dst, .int .i64 n.chg.call.car, .int .i64 n.chg.call.state, .int .i64 n.chg.call.owner, .int .i64 n.chg.call.born] rfl rfl ?_
             refine wC (l := [.pointer (some ⟨b8, 0, none⟩), .agg #[.int .i64 n.chg.call.id, .int .i64 n.chg.call.kind, .int .i64 n.chg.call.src, .int .i64 n.chg.call.dst, .int .i64 n.chg.call.car, .int .i64 n.chg.call.state, .int .i64 n.chg.call.owner, .int .i64 n.chg.call.born]]) Try.func48 rfl (by kernel_rfl) (fun wc H => callW b8 fF10_14 24 (((([]) ++ (encs 1 [129]).1) ++ (cntsV [n.index]).1) ++ (encs 1 [1]).1) n.chg.call wc (H.out.at 4 rfl) (H.out.lt _ (List.mem_of_getElem? (show _ = some _ from rfl : [rB b75 3 [.int .i64 1], rB b18 3 [.int .i64 n.index], rB b12 3 [.int .i64 129], rB b5 48 [.int .i64 n.chg.index, .int .i64 n.chg.call.id, .int .i64 n.chg.call.kind, .int .i64 n.chg.call.src, .int .i64 n.chg.call.dst, .int .i64 n.chg.call.car, .int .i64 n.chg.call.state, .int .i64 n.chg.call.owner, .int .i64 n.chg.call.born, .int .i64 n.chg.car, .int .i64 n.chg.mode], rOut b8 fF10_14 24 (((([]) ++ (encs 1 [129]).1) ++ (cntsV [n.index]).1) ++ (encs 1 [1]).1), rB b1 50 [.int .i64 n.index, .int .i64 n.chg.index, .int .i64 n.chg.call.id, .int .i64 n.chg.call.kind, .int .i64 n.chg.call.src, .int .i64 n.chg.call.dst, .int .i64 n.chg.call.car, .int .i64 n.chg.call.state, .int .i64 n.chg.call.owner, .int .i64 n.chg.call.born, .int .i64 n.chg.car, .int .i64 n.chg.mode]][4]? = some _))) (by decide)) rfl rfl rfl rfl ?_
             intro wc H
             rintro er wd ⟨rfl, l10_20, hpu, hla, hll⟩
             obtain ⟨fF10_20, H2⟩ := hp_put H (i := 4) rfl hpu
             replace H2 := hp_fact (hp_fact H2 hll) hla
             refine ⟨_, rfl, wkAt H2 ?_⟩
             clear H H2
             iterate 2 refine p_tellC rfl ?_
             refine wN ?_
             refine bN (tN (wKK hK5 ?_))
             refine wSeqK fun KK15 hK15 => ?_
             refine wSeqK fun KK16 hK16 => ?_
             refine wReg ?_
             iterate 2 refine p_tellC rfl ?_
             refine wN ?_
             refine tN (wKK hK16 ?_)
             refine wCond (E := !(callOk n.chg.call)) rfl (fun z7 => ?_) (fun z7 => ?_)
             · skip
               have z7n : (callOk n.chg.call) = false := Reg.bn z7
               refine wSeqK fun KK17 hK17 => ?_
               refine wReg ?_
               iterate 2 refine p_tellC rfl ?_
               refine wN ?_
               refine tN (wKK hK17 ?_)
               refine wRet ?_
               refine tR ?_
               exact wR2 rfl rfl rfl (fun ww H => (by have hcb := hp_told H (p := callOk n.chg.call = true → l10_20 = (((([]) ++ (encs 1 [129]).1) ++ (cntsV [n.index]).1) ++ (encs 1 [1]).1) ++ callB n.chg.call) (by (repeat (first | exact List.Mem.head _ | apply List.Mem.tail))); rw [tell_is]; exact ⟨by unfold tellM; simp only [y1, z2, z3, z3o, z4, z4n, y5, y5o, y6, y6o, z7, z7n, cond_true, cond_false, Bool.not_true, Bool.not_false, Bool.true_and, Bool.and_true, Bool.false_and, Bool.and_false, Bool.true_or, Bool.or_true, Bool.false_or, Bool.or_false], H.out.off⟩))
             · skip
               have z7n : (callOk n.chg.call) = true := Reg.bt z7
               refine wSk ?_
               refine tN (wKK hK15 ?_)
               refine wSeqK fun KK18 hK18 => ?_
               refine wReg ?_
               refine p_tellC rfl ?_
               refine wQ (l := [.pointer (some ⟨b8, 0, none⟩)]) Try.func49 rfl (by kernel_rfl) (.string (str l10_20)) (fun wc H => off_of_eq (outStringH H (i := 6) rfl)) rfl rfl rfl rfl ?_
               iterate 2 refine p_tellC rfl ?_
               refine wN ?_
               refine tN (wKK hK18 ?_)
               refine wRet ?_
               exact wR2 rfl rfl rfl (fun ww H => (by have hcb := hp_told H (p := callOk n.chg.call = true → l10_20 = (((([]) ++ (encs 1 [129]).1) ++ (cntsV [n.index]).1) ++ (encs 1 [1]).1) ++ callB n.chg.call) (by (repeat (first | exact List.Mem.head _ | apply List.Mem.tail))); rw [hcb z7n]; rw [tell_is]; exact ⟨by unfold tellM; simp only [y1, z2, z3, z3o, z4, z4n, y5, y5o, y6, y6o, z7, z7n, cond_true, cond_false, Bool.not_true, Bool.not_false, Bool.true_and, Bool.and_true, Bool.false_and, Bool.and_false, Bool.true_or, Bool.or_true, Bool.false_or, Bool.or_false], H.out.off⟩))
           · skip
             have y6o : (n.chg.mode != 0) = true := eqq_f y6
             refine wReg ?_
             iterate 3 refine p_tellC rfl ?_
             refine wLd rfl tyint 2 rfl rfl ?_
             refine p_tellC rfl ?_
             refine wB 66 rfl y5 ?_
             iterate 3 refine p_tellC rfl ?_
             refine wLd rfl tyint 2 rfl rfl ?_
             refine p_tellC rfl ?_
             refine wB 71 rfl y6 ?_
             iterate 13 refine p_tellC rfl ?_
             refine wN ?_
             refine bN (tN (wKK hK5 ?_))
             refine wSeqK fun KK19 hK19 => ?_
             refine wSeqK fun KK20 hK20 => ?_
             refine wReg ?_
             iterate 2 refine p_tellC rfl ?_
             refine wN ?_
             refine tN (wKK hK20 ?_)
             refine wCt rfl ?_
             refine wSeqK fun KK21 hK21 => ?_
             refine wReg ?_
             iterate 2 refine p_tellC rfl ?_
             refine wN ?_
             refine tN (wKK hK21 ?_)
             refine wRet ?_
             refine tR ?_
             exact wR2 rfl rfl rfl (fun ww H => (by rw [tell_is]; exact ⟨by unfold tellM; simp only [y1, z2, z3, z3o, z4, z4n, y5, y5o, y6, y6o, cond_true, cond_false, Bool.not_true, Bool.not_false, Bool.true_and, Bool.and_true, Bool.false_and, Bool.and_false, Bool.true_or, Bool.or_true, Bool.false_or, Bool.or_false], H.out.off⟩))
         · skip
           have y5o : (n.chg.car != 0) = true := eqq_f y5
           refine wReg ?_
           iterate 3 refine p_tellC rfl ?_
           refine wLd rfl tyint 2 rfl rfl ?_
           refine p_tellC rfl ?_
           refine wB 66 rfl y5 ?_
           iterate 18 refine p_tellC rfl ?_
           refine wN ?_
           refine bN (tN (wKK hK5 ?_))
           refine wSeqK fun KK22 hK22 => ?_
           refine wSeqK fun KK23 hK23 => ?_
           refine wReg ?_
           iterate 2 refine p_tellC rfl ?_
           refine wN ?_
           refine tN (wKK hK23 ?_)
           refine wCt rfl ?_
           refine wSeqK fun KK24 hK24 => ?_
           refine wReg ?_
           iterate 2 refine p_tellC rfl ?_
           refine wN ?_
           refine tN (wKK hK24 ?_)
           refine wRet ?_
           refine tR ?_
           exact wR2 rfl rfl rfl (fun ww H => (by rw [tell_is]; exact ⟨by unfold tellM; simp only [y1, z2, z3, z3o, z4, z4n, y5, y5o, cond_true, cond_false, Bool.not_true, Bool.not_false, Bool.true_and, Bool.and_true, Bool.false_and, Bool.and_false, Bool.true_or, Bool.or_true, Bool.false_or, Bool.or_false], H.out.off⟩))
       · skip
         have z4n : (decide (n.chg.call = (⟨0, 0, 0, 0, 0, 0, 0, 0⟩ : CallV))) = true := Reg.bt z4
         rcases Bool.eq_false_or_eq_true (decide (0 < n.chg.car)) with y8 | y8
         · skip
           have y8d : 0 < n.chg.car := of_decide_eq_true y8
           rcases Bool.eq_false_or_eq_true (decide (0 < n.chg.mode)) with y9 | y9
           · skip
             have y9d : 0 < n.chg.mode := of_decide_eq_true y9
             rcases Bool.eq_false_or_eq_true ((encs 1 [2, n.chg.car, n.chg.mode]).2) with y10 | y10
             · skip
               refine wReg ?_
               iterate 3 refine p_tellC rfl ?_
               refine wLd rfl tyint 2 rfl rfl ?_
               refine p_tellC rfl ?_
               refine wB 25 rfl y8 ?_
               iterate 3 refine p_tellC rfl ?_
               refine wLd rfl tyint 2 rfl rfl ?_
               refine p_tellC rfl ?_
               refine wB 30 rfl y9 ?_
               iterate 4 refine p_tellC rfl ?_
               refine wLd rfl tyint 2 rfl rfl ?_
               refine p_tellC rfl ?_
               refine wLd rfl tyint 2 rfl rfl ?_
               refine wBs (cs := [.int .i64 2, .int .i64 n.chg.car, .int .i64 n.chg.mode]) rfl rfl rfl rfl Try.underlying125 tyint rfl (by decide) (by decide) (by kernel_rfl) fun b38 => ?_
               refine wC (l := [.pointer (some ⟨b8, 0, none⟩), .int .i64 1, .slice (some ⟨b38, 0, none⟩) 3 3]) Try.func46 rfl (by kernel_rfl) (fun wc H => by have h := outNumsH H (ns := [2, n.chg.car, n.chg.mode]) (wd := 1) (n := 3) (c := 3) (i := 4) (j := 0) rfl rfl rfl rfl (by decide) (by decide); rw [y10] at h; exact h) rfl rfl rfl rfl ?_
               intro wc H
               rintro er wd ⟨rfl, fF4_18, H2⟩
               refine ⟨_, rfl, wkAt H2 ?_⟩
               clear H H2
               iterate 2 refine p_tellC rfl ?_
               refine wN ?_
               refine bN (tN (wKK hK5 ?_))
               refine wSeqK fun KK25 hK25 => ?_
               refine wSeqK fun KK26 hK26 => ?_
               refine wReg ?_
               iterate 2 refine p_tellC rfl ?_
               refine wN ?_
               refine tN (wKK hK26 ?_)
               refine wCf rfl ?_
               refine wSk ?_
               refine tN (wKK hK25 ?_)
               refine wSeqK fun KK27 hK27 => ?_
               refine wReg ?_
               refine p_tellC rfl ?_
               refine wQ (l := [.pointer (some ⟨b8, 0, none⟩)]) Try.func49 rfl (by kernel_rfl) (.string (str (((([]) ++ (encs 1 [129]).1) ++ (cntsV [n.index]).1) ++ (encs 1 [2, n.chg.car, n.chg.mode]).1))) (fun wc H => off_of_eq (outStringH H (i := 4) rfl)) rfl rfl rfl rfl ?_
               iterate 2 refine p_tellC rfl ?_
               refine wN ?_
               refine tN (wKK hK27 ?_)
               refine wRet ?_
               exact wR2 rfl rfl rfl (fun ww H => (by rw [tell_is]; exact ⟨by unfold tellM; simp only [y1, z2, z3, z3o, z4, z4n, y8, y9, y10, cond_true, cond_false, Bool.not_true, Bool.not_false, Bool.true_and, Bool.and_true, Bool.false_and, Bool.and_false, Bool.true_or, Bool.or_true, Bool.false_or, Bool.or_false], H.out.off⟩))
             · skip
               refine wReg ?_
               iterate 3 refine p_tellC rfl ?_
               refine wLd rfl tyint 2 rfl rfl ?_
               refine p_tellC rfl ?_
               refine wB 25 rfl y8 ?_
               iterate 3 refine p_tellC rfl ?_
               refine wLd rfl tyint 2 rfl rfl ?_
               refine p_tellC rfl ?_
               refine wB 30 rfl y9 ?_
               iterate 4 refine p_tellC rfl ?_
               refine wLd rfl tyint 2 rfl rfl ?_
               refine p_tellC rfl ?_
               refine wLd rfl tyint 2 rfl rfl ?_
               refine wBs (cs := [.int .i64 2, .int .i64 n.chg.car, .int .i64 n.chg.mode]) rfl rfl rfl rfl Try.underlying125 tyint rfl (by decide) (by decide) (by kernel_rfl) fun b38 => ?_
               refine wC (l := [.pointer (some ⟨b8, 0, none⟩), .int .i64 1, .slice (some ⟨b38, 0, none⟩) 3 3]) Try.func46 rfl (by kernel_rfl) (fun wc H => by have h := outNumsH H (ns := [2, n.chg.car, n.chg.mode]) (wd := 1) (n := 3) (c := 3) (i := 4) (j := 0) rfl rfl rfl rfl (by decide) (by decide); rw [y10] at h; exact h) rfl rfl rfl rfl ?_
               intro wc H
               rintro er wd ⟨rfl, fF4_18, H2⟩
               refine ⟨_, rfl, wkAt H2 ?_⟩
               clear H H2
               iterate 2 refine p_tellC rfl ?_
               refine wN ?_
               refine bN (tN (wKK hK5 ?_))
               refine wSeqK fun KK28 hK28 => ?_
               refine wSeqK fun KK29 hK29 => ?_
               refine wReg ?_
               iterate 2 refine p_tellC rfl ?_
               refine wN ?_
               refine tN (wKK hK29 ?_)
               refine wCt rfl ?_
               refine wSeqK fun KK30 hK30 => ?_
               refine wReg ?_
               iterate 2 refine p_tellC rfl ?_
               refine wN ?_
               refine tN (wKK hK30 ?_)
               refine wRet ?_
               refine tR ?_
               exact wR2 rfl rfl rfl (fun ww H => (by rw [tell_is]; exact ⟨by unfold tellM; simp only [y1, z2, z3, z3o, z4, z4n, y8, y9, y10, cond_true, cond_false, Bool.not_true, Bool.not_false, Bool.true_and, Bool.and_true, Bool.false_and, Bool.and_false, Bool.true_or, Bool.or_true, Bool.false_or, Bool.or_false], H.out.off⟩))
           · skip
             have y9d : ¬ (0 < n.chg.mode) := of_decide_eq_false y9
             refine wReg ?_
             iterate 3 refine p_tellC rfl ?_
             refine wLd rfl tyint 2 rfl rfl ?_
             refine p_tellC rfl ?_
             refine wB 25 rfl y8 ?_
             iterate 3 refine p_tellC rfl ?_
             refine wLd rfl tyint 2 rfl rfl ?_
             refine p_tellC rfl ?_
             refine wB 30 rfl y9 ?_
             iterate 11 refine p_tellC rfl ?_
             refine wN ?_
             refine bN (tN (wKK hK5 ?_))
             refine wSeqK fun KK31 hK31 => ?_
             refine wSeqK fun KK32 hK32 => ?_
             refine wReg ?_
             iterate 2 refine p_tellC rfl ?_
             refine wN ?_
             refine tN (wKK hK32 ?_)
             refine wCt rfl ?_
             refine wSeqK fun KK33 hK33 => ?_
             refine wReg ?_
             iterate 2 refine p_tellC rfl ?_
             refine wN ?_
             refine tN (wKK hK33 ?_)
             refine wRet ?_
             refine tR ?_
             exact wR2 rfl rfl rfl (fun ww H => (by rw [tell_is]; exact ⟨by unfold tellM; simp only [y1, z2, z3, z3o, z4, z4n, y8, y9, cond_true, cond_false, Bool.not_true, Bool.not_false, Bool.true_and, Bool.and_true, Bool.false_and, Bool.and_false, Bool.true_or, Bool.or_true, Bool.false_or, Bool.or_false], H.out.off⟩))
         · skip
           have y8d : ¬ (0 < n.chg.car) := of_decide_eq_false y8
           refine wReg ?_
           iterate 3 refine p_tellC rfl ?_
           refine wLd rfl tyint 2 rfl rfl ?_
           refine p_tellC rfl ?_
           refine wB 25 rfl y8 ?_
           iterate 16 refine p_tellC rfl ?_
           refine wN ?_
           refine bN (tN (wKK hK5 ?_))
           refine wSeqK fun KK34 hK34 => ?_
           refine wSeqK fun KK35 hK35 => ?_
           refine wReg ?_
           iterate 2 refine p_tellC rfl ?_
           refine wN ?_
           refine tN (wKK hK35 ?_)
           refine wCt rfl ?_
           refine wSeqK fun KK36 hK36 => ?_
           refine wReg ?_
           iterate 2 refine p_tellC rfl ?_
           refine wN ?_
           refine tN (wKK hK36 ?_)
           refine wRet ?_
           refine tR ?_
           exact wR2 rfl rfl rfl (fun ww H => (by rw [tell_is]; exact ⟨by unfold tellM; simp only [y1, z2, z3, z3o, z4, z4n, y8, cond_true, cond_false, Bool.not_true, Bool.not_false, Bool.true_and, Bool.and_true, Bool.false_and, Bool.and_false, Bool.true_or, Bool.or_true, Bool.false_or, Bool.or_false], H.out.off⟩))
 · skip
   refine wReg ?_
   refine p_tellC rfl ?_
   refine wBs (cs := [.int .i64 129]) rfl rfl rfl rfl Try.underlying125 tyint rfl (by decide) (by decide) (by kernel_rfl) fun b12 => ?_
   refine wC (l := [.pointer (some ⟨b8, 0, none⟩), .int .i64 1, .slice (some ⟨b12, 0, none⟩) 1 1]) Try.func46 rfl (by kernel_rfl) (fun wc H => by have h := outNumsH H (ns := [129]) (wd := 1) (n := 1) (c := 1) (i := 2) (j := 0) rfl rfl rfl rfl (by decide) (by decide); rw [hk1] at h; exact h) rfl rfl rfl rfl ?_
   intro wc H
   rintro er wd ⟨rfl, fF3_2, H2⟩
   refine ⟨_, rfl, wkAt H2 ?_⟩
   clear H H2
   iterate 3 refine p_tellC rfl ?_
   refine wLd rfl tyint 3 rfl rfl ?_
   refine wBs (cs := [.int .i64 n.index]) rfl rfl rfl rfl Try.underlying125 tyint rfl (by decide) (by decide) (by kernel_rfl) fun b18 => ?_
   refine wC (l := [.pointer (some ⟨b8, 0, none⟩), .slice (some ⟨b18, 0, none⟩) 1 1]) Try.func47 rfl (by kernel_rfl) (fun wc H => by have h := countsH H (ns := [n.index]) (n := 1) (c := 1) (i := 3) (j := 0) rfl rfl rfl rfl (by decide) (by decide); rw [y1] at h; exact h) rfl rfl rfl rfl ?_
   intro wc H
   rintro er wd ⟨rfl, fF3_8, H2⟩
   refine ⟨_, rfl, wkAt H2 ?_⟩
   clear H H2
   iterate 2 refine p_tellC rfl ?_
   refine wN ?_
   refine tN (wKK hK4 ?_)
   refine wSeqK fun KK37 hK37 => ?_
   refine wBlk ?_
   refine wSeqK fun KK38 hK38 => ?_
   refine wReg ?_
   refine wLr rfl tyapi_Change 2 rfl [.int .i64 n.chg.index, .int .i64 n.chg.call.id, .int .i64 n.chg.call.kind, .int .i64 n.chg.call.src, .int .i64 n.chg.call.dst, .int .i64 n.chg.call.car, .int .i64 n.chg.call.state, .int .i64 n.chg.call.owner, .int .i64 n.chg.call.born, .int .i64 n.chg.car, .int .i64 n.chg.mode] rfl rfl ?_
   refine wE (.agg #[.int .i64 0, .int .i64 0, .int .i64 0, .int .i64 0, .int .i64 0, .int .i64 0, .int .i64 0, .int .i64 0, .int .i64 0, .int .i64 0, .int .i64 0]) rfl rfl rfl (fun aa ww hs _ => by simp only [execOp]; go_simp <;> omega) ?_
   refine wE (.bool ((decide (n.chg = (⟨0, (⟨0, 0, 0, 0, 0, 0, 0, 0⟩ : CallV), 0, 0⟩ : ChgV))))) rfl rfl rfl (fun aa wc hs H => exec_eql rfl (hs _ _ rfl) (hs _ _ rfl) (by kernel_rfl) (run_eq_chg n.chg (⟨0, (⟨0, 0, 0, 0, 0, 0, 0, 0⟩ : CallV), 0, 0⟩ : ChgV) wc)) ?_
   refine p_tellC rfl ?_
   refine wN ?_
   refine tN (wKK hK38 ?_)
   refine wCond (E := decide (n.chg = (⟨0, (⟨0, 0, 0, 0, 0, 0, 0, 0⟩ : CallV), 0, 0⟩ : ChgV))) rfl (fun z11 => ?_) (fun z11 => ?_)
   · skip
     refine wReg ?_
     iterate 7 refine p_tellC rfl ?_
     refine wN ?_
     refine bN (tN (wKK hK37 ?_))
     refine wSeqK fun KK39 hK39 => ?_
     refine wSeqK fun KK40 hK40 => ?_
     refine wReg ?_
     iterate 2 refine p_tellC rfl ?_
     refine wN ?_
     refine tN (wKK hK40 ?_)
     refine wCt rfl ?_
     refine wSeqK fun KK41 hK41 => ?_
     refine wReg ?_
     iterate 2 refine p_tellC rfl ?_
     refine wN ?_
     refine tN (wKK hK41 ?_)
     refine wRet ?_
     refine tR ?_
     exact wR2 rfl rfl rfl (fun ww H => (by rw [tell_is]; exact ⟨by unfold tellM; simp only [y1, z11, cond_true, cond_false, Bool.not_true, Bool.not_false, Bool.true_and, Bool.and_true, Bool.false_and, Bool.and_false, Bool.true_or, Bool.or_true, Bool.false_or, Bool.or_false], H.out.off⟩))
   · skip
     refine wSeqK fun KK42 hK42 => ?_
     refine wReg ?_
     refine p_tellC rfl ?_
     refine wLd rfl tyint 2 rfl rfl ?_
     refine p_tellC rfl ?_
     refine wLd rfl tyint 4 rfl rfl ?_
     iterate 2 refine p_tellC rfl ?_
     refine wN ?_
     refine tN (wKK hK42 ?_)
     refine wCond (E := n.chg.index != n.index) rfl (fun z12 => ?_) (fun z12 => ?_)
     · skip
       have z12o : (n.chg.index == n.index) = false := neq_t z12
       refine wReg ?_
       refine p_tellC rfl ?_
       refine wN ?_
       refine bN (tN (wKK hK37 ?_))
       refine wSeqK fun KK43 hK43 => ?_
       refine wSeqK fun KK44 hK44 => ?_
       refine wReg ?_
       iterate 2 refine p_tellC rfl ?_
       refine wN ?_
       refine tN (wKK hK44 ?_)
       refine wCt rfl ?_
       refine wSeqK fun KK45 hK45 => ?_
       refine wReg ?_
       iterate 2 refine p_tellC rfl ?_
       refine wN ?_
       refine tN (wKK hK45 ?_)
       refine wRet ?_
       refine tR ?_
       exact wR2 rfl rfl rfl (fun ww H => (by rw [tell_is]; exact ⟨by unfold tellM; simp only [y1, z11, z12, z12o, cond_true, cond_false, Bool.not_true, Bool.not_false, Bool.true_and, Bool.and_true, Bool.false_and, Bool.and_false, Bool.true_or, Bool.or_true, Bool.false_or, Bool.or_false], H.out.off⟩))
     · skip
       have z12o : (n.chg.index == n.index) = true := neq_f z12
       refine wSeqK fun KK46 hK46 => ?_
       refine wReg ?_
       refine p_tellC rfl ?_
       refine wLr rfl tyapi_Call 2 rfl [.int .i64 n.chg.call.id, .int .i64 n.chg.call.kind, .int .i64 n.chg.call.src, .int .i64 n.chg.call.dst, .int .i64 n.chg.call.car, .int .i64 n.chg.call.state, .int .i64 n.chg.call.owner, .int .i64 n.chg.call.born] rfl rfl ?_
       refine wE (.agg #[.int .i64 0, .int .i64 0, .int .i64 0, .int .i64 0, .int .i64 0, .int .i64 0, .int .i64 0, .int .i64 0]) rfl rfl rfl (fun aa ww hs _ => by simp only [execOp]; go_simp <;> omega) ?_
       refine wE (.bool (!(decide (n.chg.call = (⟨0, 0, 0, 0, 0, 0, 0, 0⟩ : CallV))))) rfl rfl rfl (fun aa wc hs H => exec_neq rfl (hs _ _ rfl) (hs _ _ rfl) (by kernel_rfl) (run_eq_call n.chg.call (⟨0, 0, 0, 0, 0, 0, 0, 0⟩ : CallV) wc)) ?_
       refine p_tellC rfl ?_
       refine wN ?_
       refine tN (wKK hK46 ?_)
       refine wCond (E := !(decide (n.chg.call = (⟨0, 0, 0, 0, 0, 0, 0, 0⟩ : CallV)))) rfl (fun z13 => ?_) (fun z13 => ?_)
       · skip
         have z13n : (decide (n.chg.call = (⟨0, 0, 0, 0, 0, 0, 0, 0⟩ : CallV))) = false := Reg.bn z13
         refine wReg ?_
         iterate 23 refine p_tellC rfl ?_
         refine wN ?_
         refine bN (tN (wKK hK37 ?_))
         refine wSeqK fun KK47 hK47 => ?_
         refine wSeqK fun KK48 hK48 => ?_
         refine wReg ?_
         iterate 2 refine p_tellC rfl ?_
         refine wN ?_
         refine tN (wKK hK48 ?_)
         refine wCt rfl ?_
         refine wSeqK fun KK49 hK49 => ?_
         refine wReg ?_
         iterate 2 refine p_tellC rfl ?_
         refine wN ?_
         refine tN (wKK hK49 ?_)
         refine wRet ?_
         refine tR ?_
         exact wR2 rfl rfl rfl (fun ww H => (by rw [tell_is]; exact ⟨by unfold tellM; simp only [y1, z11, z12, z12o, z13, z13n, cond_true, cond_false, Bool.not_true, Bool.not_false, Bool.true_and, Bool.and_true, Bool.false_and, Bool.and_false, Bool.true_or, Bool.or_true, Bool.false_or, Bool.or_false], H.out.off⟩))
       · skip
         have z13n : (decide (n.chg.call = (⟨0, 0, 0, 0, 0, 0, 0, 0⟩ : CallV))) = true := Reg.bt z13
         refine wReg ?_
         iterate 21 refine p_tellC rfl ?_
         refine wN ?_
         refine bN (tN (wKK hK37 ?_))
         refine wSeqK fun KK50 hK50 => ?_
         refine wSeqK fun KK51 hK51 => ?_
         refine wReg ?_
         iterate 2 refine p_tellC rfl ?_
         refine wN ?_
         refine tN (wKK hK51 ?_)
         refine wCt rfl ?_
         refine wSeqK fun KK52 hK52 => ?_
         refine wReg ?_
         iterate 2 refine p_tellC rfl ?_
         refine wN ?_
         refine tN (wKK hK52 ?_)
         refine wRet ?_
         refine tR ?_
         exact wR2 rfl rfl rfl (fun ww H => (by rw [tell_is]; exact ⟨by unfold tellM; simp only [y1, z11, z12, z12o, z13, z13n, cond_true, cond_false, Bool.not_true, Bool.not_false, Bool.true_and, Bool.and_true, Bool.false_and, Bool.and_false, Bool.true_or, Bool.or_true, Bool.false_or, Bool.or_false], H.out.off⟩))
end Go.Proofs.Ytloemjhhedkhiaa.Nt
