/- Every notice and all bytes: the walk. -/
import Derived.Test.YtloemjhhedkhiaaProg
import Derived.Below
import Derived.WalkKit
import Derived.KernelRfl
import Derived.RowKit3
import Derived.Deep.LoopGhost
import Derived.Deep.QuietTactic
import Derived.BigQuiet
import Derived.WideLaws
import Derived.Deep.DeepCutAuto
import Derived.Deep.CutBlock
import Derived.Lib.Hide
import Derived.Laws.BitsLemmas
import Derived.Laws.Bits64
import Derived.Laws.BitsAllLaws
import Derived.IntWalk
import Derived.Outline
import Derived.WalkSpells
import Derived.Test.YtloemjhhedkhiaaMem
import Derived.Test.YtloemjhhedkhiaaNf2
namespace Go.Proofs.Ytloemjhhedkhiaa.Nt
open Go.RowKit Go.Proofs.Ytloemjhhedkhiaa.Mem Go.Proofs.Ytloemjhhedkhiaa.Pk Go.Proofs.Ytloemjhhedkhiaa.Reg Go.Proofs.Ytloemjhhedkhiaa.Wk
set_option linter.unusedVariables false
set_option linter.unusedSimpArgs false

theorem call_sm {x : CallV} (h : callOk x = true) : smC x := by
  unfold callOk at h
  simp only [Bool.and_eq_true, cnt_iff, byt_iff] at h
  intro k hk
  have : k = 0 ∨ k = 1 ∨ k = 2 ∨ k = 3 ∨ k = 4 ∨ k = 5 ∨ k = 6 ∨ k = 7 := by omega
  unfold vals
  rcases this with rfl | rfl | rfl | rfl | rfl | rfl | rfl | rfl <;> simp <;> omega
theorem told_sm {s : ByteArray} (h : ((toldV s).2 != 0) = false) : smN (toldV s).1 := by
  have h1 := told_is (by simpa using h)
  obtain ⟨l, h2, _⟩ := tell_ok (n := (toldV s).1) (by rw [h1])
  obtain ⟨hc, hx⟩ := tell_cases h2
  rw [cnt_iff] at hc
  rcases hx with ⟨hn, _⟩ | ⟨hn, h3, _⟩ | ⟨hn, h3, h4, _⟩
  · rw [hn]
    exact ⟨by show (toldV s).1.index < _; omega, by show (0 : Int) < _; decide, zero_sm, by show (0 : Int) < _; decide, by show (0 : Int) < _; decide⟩
  · have h5 := call_sm h3
    rw [hn]
    exact ⟨by show (toldV s).1.index < _; omega, by show (toldV s).1.index < _; omega, h5, by show (0 : Int) < _; decide, by show (0 : Int) < _; decide⟩
  · rw [byt_iff] at h3 h4
    rw [hn]
    exact ⟨by show (toldV s).1.index < _; omega, by show (toldV s).1.index < _; omega, zero_sm, by show (toldV s).1.chg.car < _; omega, by show (toldV s).1.chg.mode < _; omega⟩
theorem told_b {s : ByteArray} (h : ((toldV s).2 != 0) = true) : toldB s = false := by
  cases hb : toldB s with
  | false => rfl
  | true =>
    exfalso
    unfold toldB at hb
    cases ho : (decide ((s.size : Int) < 6)) || ((idxB s 0) != 129) with
    | true => rw [ho] at hb; cases hb
    | false =>
      rw [ho] at hb
      simp only [cond_false, Bool.and_eq_true] at hb
      obtain ⟨l, h2, h3⟩ := tell_ok (n := (readN s).1) (by simpa using hb.1)
      have h4 := list_beq hb.2
      rw [h3] at h4
      have h5 := told_back h2
      rw [show str l = s from h4] at h5
      rw [h5] at h
      simp at h
theorem size0 {s : ByteArray} (h : (decide (0 < (s.size : Int))) = false) : s.data.toList = [] := by
  have h1 : s.size = s.data.toList.length := rfl
  have := of_decide_eq_false h
  exact List.length_eq_zero_iff.1 (by omega)
theorem ans0 {s : ByteArray} (h : (decide (0 < (s.size : Int))) = false) : isAnsV s = false := by
  unfold isAnsV
  rw [ByteArray.toList_eq, size0 h]
  rfl
theorem ans1 {s : ByteArray} (h : (decide (0 < (s.size : Int))) = true) : ((isAnsV s) == ((idxB s 0) == 128)) = true := by
  have h1 : s.size = s.data.toList.length := rfl
  have h2 := of_decide_eq_true h
  unfold isAnsV idxB nums
  rw [ByteArray.toList_eq]
  cases hl : s.data.toList with
  | nil =>
    exfalso
    have h3 : s.size = 0 := by rw [h1, hl]; rfl
    omega
  | cons c l =>
    simp only [List.map_cons, List.isEmpty_cons, Bool.not_false, Bool.true_and, List.headD_cons]
    rw [beq_iff_eq, Bool.eq_iff_iff]
    simp
    omega
def tab_notices_w : Wk.Tab := [(50, 0, 0), (50, 1, 1)]
theorem p_notices_w {ops : Array Oper} {rest : List Oper} {o : Oper} {w0 : World} {Q : Exit → Act → World → Prop} {S : List Nat} {R : List Res} {K K' : Wk.Env} {N : Nat} (h : Wk.stp tab_notices_w N ops K o = some K') (n : Wk.Wk N S w0 K' R (wpList Try.prog ops Q rest)) : Wk.Wk N S w0 K R (wpList Try.prog ops Q (o :: rest)) := Wk.wP (T := tab_notices_w) (by kernel_rfl) h n
set_option maxHeartbeats 16000000 in
set_option maxRecDepth 20000 in
theorem notices_w (n : NoteV) (s : ByteArray) (w : World) (hn : Hid (smN n)) (hz : s.size ≤ 140737488351232) : Calls Try.prog 5 #[.agg #[.int .i64 n.index, .int .i64 n.chg.index, .int .i64 n.chg.call.id, .int .i64 n.chg.call.kind, .int .i64 n.chg.call.src, .int .i64 n.chg.call.dst, .int .i64 n.chg.call.car, .int .i64 n.chg.call.state, .int .i64 n.chg.call.owner, .int .i64 n.chg.call.born, .int .i64 n.chg.car, .int .i64 n.chg.mode], .string s] w fun e w' => e = .returned (.bool true) ∧ Off [] w w' := by
 have H := Lib.hid (Hp.start [] w)
 refine wStart (args := [.agg #[.int .i64 n.index, .int .i64 n.chg.index, .int .i64 n.chg.call.id, .int .i64 n.chg.call.kind, .int .i64 n.chg.call.src, .int .i64 n.chg.call.dst, .int .i64 n.chg.call.car, .int .i64 n.chg.call.state, .int .i64 n.chg.call.owner, .int .i64 n.chg.call.born, .int .i64 n.chg.car, .int .i64 n.chg.mode], .string s]) Try.func5 rfl rfl rfl H ?_
 clear H
 show Wk 94 _ _ [(0, .agg #[.int .i64 n.index, .int .i64 n.chg.index, .int .i64 n.chg.call.id, .int .i64 n.chg.call.kind, .int .i64 n.chg.call.src, .int .i64 n.chg.call.dst, .int .i64 n.chg.call.car, .int .i64 n.chg.call.state, .int .i64 n.chg.call.owner, .int .i64 n.chg.call.born, .int .i64 n.chg.car, .int .i64 n.chg.mode]), (1, .string s)] _ _
 refine wSeqK fun KK1 hK1 => ?_
 refine wReg ?_
 refine wBx rfl rfl rfl fun b2 => ?_
 refine p_notices_w rfl ?_
 refine wN ?_
 refine tN (wKK hK1 ?_)
 refine wSeqK fun KK2 hK2 => ?_
 refine wSeqK fun KK3 hK3 => ?_
 refine wReg ?_
 refine wQ (l := []) Try.func18 rfl (by kernel_rfl) (.bool true) (fun wc H => awake15 wc) rfl rfl rfl rfl ?_
 refine p_notices_w rfl ?_
 refine wN ?_
 refine tN (wKK hK3 ?_)
 refine wCf rfl ?_
 refine wSk ?_
 refine tN (wKK hK2 ?_)
 refine wSeqK fun KK4 hK4 => ?_
 refine wSeqK fun KK5 hK5 => ?_
 refine wReg ?_
 refine p_notices_w rfl ?_
 refine wE (.int .i64 s.size) rfl rfl rfl (fun aa ww hs _ => by have e15 := hs 15 _ rfl; have g15 := gt_of e15; simp only [execOp]; go_simp <;> omega) ?_
 refine p_notices_w rfl ?_
 refine wN ?_
 refine tN (wKK hK5 ?_)
 refine wCond (E := decide (256 < (s.size : Int))) rfl (fun z1 => ?_) (fun z1 => ?_)
 · skip
   have z1d : 256 < (s.size : Int) := of_decide_eq_true z1
   refine wSeqK fun KK6 hK6 => ?_
   refine wReg ?_
   refine p_notices_w rfl ?_
   refine wN ?_
   refine tN (wKK hK6 ?_)
   refine wRet ?_
   refine tR ?_
   exact wR1 rfl rfl (fun ww H => ⟨rfl, H.out.off⟩)
 · skip
   have z1d : ¬ (256 < (s.size : Int)) := of_decide_eq_false z1
   refine wSk ?_
   refine tN (wKK hK4 ?_)
   refine wSeqK fun KK7 hK7 => ?_
   refine wReg ?_
   refine wLr rfl tynote_Notice 0 rfl [.int .i64 n.index, .int .i64 n.chg.index, .int .i64 n.chg.call.id, .int .i64 n.chg.call.kind, .int .i64 n.chg.call.src, .int .i64 n.chg.call.dst, .int .i64 n.chg.call.car, .int .i64 n.chg.call.state, .int .i64 n.chg.call.owner, .int .i64 n.chg.call.born, .int .i64 n.chg.car, .int .i64 n.chg.mode] rfl rfl ?_
   refine wQ (l := [.agg #[.int .i64 n.index, .int .i64 n.chg.index, .int .i64 n.chg.call.id, .int .i64 n.chg.call.kind, .int .i64 n.chg.call.src, .int .i64 n.chg.call.dst, .int .i64 n.chg.call.car, .int .i64 n.chg.call.state, .int .i64 n.chg.call.owner, .int .i64 n.chg.call.born, .int .i64 n.chg.car, .int .i64 n.chg.mode]]) Try.func19 rfl (by kernel_rfl) (.tuple #[.string ((tellV n).1), .int .i64 ((tellV n).2)]) (fun wc H => tellC n wc) rfl rfl rfl rfl ?_
   iterate 5 refine p_notices_w rfl ?_
   refine wN ?_
   refine tN (wKK hK7 ?_)
   refine wSeqK fun KK8 hK8 => ?_
   rcases Bool.eq_false_or_eq_true (((tellV n).2) == 0) with y2 | y2
   · skip
     have y2o : (((tellV n).2) != 0) = false := eqq_t y2
     refine wReg ?_
     refine p_notices_w rfl ?_
     refine wLd rfl tyint 0 rfl rfl ?_
     refine p_notices_w rfl ?_
     refine wLr rfl tyapi_Change 0 rfl [.int .i64 n.chg.index, .int .i64 n.chg.call.id, .int .i64 n.chg.call.kind, .int .i64 n.chg.call.src, .int .i64 n.chg.call.dst, .int .i64 n.chg.call.car, .int .i64 n.chg.call.state, .int .i64 n.chg.call.owner, .int .i64 n.chg.call.born, .int .i64 n.chg.car, .int .i64 n.chg.mode] rfl rfl ?_
     refine wQ (l := [.int .i64 n.index, .agg #[.int .i64 n.chg.index, .int .i64 n.chg.call.id, .int .i64 n.chg.call.kind, .int .i64 n.chg.call.src, .int .i64 n.chg.call.dst, .int .i64 n.chg.call.car, .int .i64 n.chg.call.state, .int .i64 n.chg.call.owner, .int .i64 n.chg.call.born, .int .i64 n.chg.car, .int .i64 n.chg.mode]]) Try.func20 rfl (by kernel_rfl) (.tuple #[.string ((tellV n).1), .bool true]) (fun wc H => by have h := refTell n wc hn; rw [y2] at h; exact h) rfl rfl rfl rfl ?_
     iterate 5 refine p_notices_w rfl ?_
     refine wN ?_
     refine tN (wKK hK8 ?_)
     refine wSeqK fun KK9 hK9 => ?_
     refine wSeqK fun KK10 hK10 => ?_
     rcases Bool.eq_false_or_eq_true (decide (0 < (s.size : Int))) with y3 | y3
     · skip
       have y3d : 0 < (s.size : Int) := of_decide_eq_true y3
       intro aa ww nn dd hs H
       have han : ((isAnsV s) == ((idxB s 0) == 128)) = true := ans1 y3
       refine wIn nn dd hs H ?_
       refine wReg ?_
       iterate 2 refine p_notices_w rfl ?_
       refine wE (.bool false) rfl rfl rfl (fun aa ww hs _ => by have e31 := hs 31 _ rfl; have g31 := gt_of e31; have e32 := hs 32 _ rfl; have g32 := gt_of e32; simp only [execOp]; go_simp <;> omega) ?_
       iterate 4 refine p_notices_w rfl ?_
       refine wB 37 rfl y2 ?_
       refine wE (.bool false) rfl rfl rfl (fun aa ww hs _ => by have e35 := hs 35 _ rfl; have g35 := gt_of e35; have e37 := hs 37 _ rfl; have g37 := gt_of e37; simp only [execOp]; go_simp <;> omega) ?_
       iterate 11 refine p_notices_w rfl ?_
       refine wQ (l := [.string s]) Try.func21 rfl (by kernel_rfl) (.bool (isAnsV s)) (fun wc H => off_of_eq (isAnsC s wc)) rfl rfl rfl rfl ?_
       refine p_notices_w rfl ?_
       refine wE (.int .i64 s.size) rfl rfl rfl (fun aa ww hs _ => by have e51 := hs 51 _ rfl; have g51 := gt_of e51; simp only [execOp]; go_simp <;> omega) ?_
       refine p_notices_w rfl ?_
       refine wB 53 rfl y3 ?_
       iterate 2 refine p_notices_w rfl ?_
       refine wE (.int .u8 (idxB s 0)) rfl rfl rfl (fun aa ww hs _ => exec_sidx rfl (hs _ _ rfl) (rfl) Try.underlying9 (by omega)) ?_
       iterate 2 refine p_notices_w rfl ?_
       refine wE (.bool false) rfl rfl rfl (fun aa ww hs _ => by exact exec_bne (c := true) rfl (hs _ _ rfl) (hs _ _ rfl) Try.underlying4 han) ?_
       refine p_notices_w rfl ?_
       refine wN ?_
       refine tN (wKK hK10 ?_)
       refine wCf rfl ?_
       refine wSk ?_
       refine tN (wKK hK9 ?_)
       refine wSeqK fun KK11 hK11 => ?_
       refine wReg ?_
       refine p_notices_w rfl ?_
       refine wQ (l := [.string s]) Try.func22 rfl (by kernel_rfl) (.tuple #[.agg #[.int .i64 (((toldV s).1).index), .int .i64 ((((toldV s).1).chg).index), .int .i64 (((((toldV s).1).chg).call).id), .int .i64 (((((toldV s).1).chg).call).kind), .int .i64 (((((toldV s).1).chg).call).src), .int .i64 (((((toldV s).1).chg).call).dst), .int .i64 (((((toldV s).1).chg).call).car), .int .i64 (((((toldV s).1).chg).call).state), .int .i64 (((((toldV s).1).chg).call).owner), .int .i64 (((((toldV s).1).chg).call).born), .int .i64 ((((toldV s).1).chg).car), .int .i64 ((((toldV s).1).chg).mode)], .int .i64 ((toldV s).2)]) (fun wc H => toldC s wc) rfl rfl rfl rfl ?_
       iterate 3 refine p_notices_w rfl ?_
       refine wAl rfl rfl tynote_Notice fun b9 => ?_
       refine wSr rfl tynote_Notice 0 rfl rfl rfl rfl [.int .i64 (((toldV s).1).index), .int .i64 ((((toldV s).1).chg).index), .int .i64 (((((toldV s).1).chg).call).id), .int .i64 (((((toldV s).1).chg).call).kind), .int .i64 (((((toldV s).1).chg).call).src), .int .i64 (((((toldV s).1).chg).call).dst), .int .i64 (((((toldV s).1).chg).call).car), .int .i64 (((((toldV s).1).chg).call).state), .int .i64 (((((toldV s).1).chg).call).owner), .int .i64 (((((toldV s).1).chg).call).born), .int .i64 ((((toldV s).1).chg).car), .int .i64 ((((toldV s).1).chg).mode)] (by first | rfl | (simp only [spl]; rfl)) ?_
       refine p_notices_w rfl ?_
       refine wN ?_
       refine tN (wKK hK11 ?_)
       refine wSeqK fun KK12 hK12 => ?_
       refine wSeqK fun KK13 hK13 => ?_
       refine wReg ?_
       iterate 2 refine p_notices_w rfl ?_
       refine wN ?_
       refine tN (wKK hK13 ?_)
       refine wCond (E := ((toldV s).2) != 0) rfl (fun z4 => ?_) (fun z4 => ?_)
       · skip
         have z4o : (((toldV s).2) == 0) = false := neq_t z4
         intro aa ww nn dd hs H
         have htd := told_no (s := s) (by simpa using z4)
         have ht4 : (((toldV s).2) == 4) = true := by rw [htd]; rfl
         have htz : (decide ((toldV s).1 = (⟨0, (⟨0, (⟨0, 0, 0, 0, 0, 0, 0, 0⟩ : CallV), 0, 0⟩ : ChgV)⟩ : NoteV))) = true := by rw [htd]; exact decide_eq_true rfl
         have htb : (toldB s) = false := told_b z4
         refine wIn nn dd hs H ?_
         refine wSeqK fun KK14 hK14 => ?_
         refine wReg ?_
         iterate 2 refine p_notices_w rfl ?_
         refine wB 69 rfl ht4 ?_
         refine p_notices_w rfl ?_
         refine wLr rfl tynote_Notice 0 rfl [.int .i64 (((toldV s).1).index), .int .i64 ((((toldV s).1).chg).index), .int .i64 (((((toldV s).1).chg).call).id), .int .i64 (((((toldV s).1).chg).call).kind), .int .i64 (((((toldV s).1).chg).call).src), .int .i64 (((((toldV s).1).chg).call).dst), .int .i64 (((((toldV s).1).chg).call).car), .int .i64 (((((toldV s).1).chg).call).state), .int .i64 (((((toldV s).1).chg).call).owner), .int .i64 (((((toldV s).1).chg).call).born), .int .i64 ((((toldV s).1).chg).car), .int .i64 ((((toldV s).1).chg).mode)] rfl rfl ?_
         refine wE (.agg #[.int .i64 0, .int .i64 0, .int .i64 0, .int .i64 0, .int .i64 0, .int .i64 0, .int .i64 0, .int .i64 0, .int .i64 0, .int .i64 0, .int .i64 0, .int .i64 0]) rfl rfl rfl (fun aa ww hs _ => by simp only [execOp]; go_simp <;> omega) ?_
         refine wE (.bool ((decide (((toldV s).1) = (⟨0, (⟨0, (⟨0, 0, 0, 0, 0, 0, 0, 0⟩ : CallV), 0, 0⟩ : ChgV)⟩ : NoteV))))) rfl rfl rfl (fun aa wc hs H => exec_eql rfl (hs _ _ rfl) (hs _ _ rfl) (by kernel_rfl) (run_eq_note ((toldV s).1) (⟨0, (⟨0, (⟨0, 0, 0, 0, 0, 0, 0, 0⟩ : CallV), 0, 0⟩ : ChgV)⟩ : NoteV) wc)) ?_
         refine wB 73 rfl htz ?_
         iterate 3 refine p_notices_w rfl ?_
         refine wQ (l := [.string s]) Try.func23 rfl (by kernel_rfl) (.bool false) (fun wc H => by have h := rtoldC s wc hz; rw [htb] at h; exact h) rfl rfl rfl rfl ?_
         iterate 3 refine p_notices_w rfl ?_
         refine wN ?_
         refine tN (wKK hK14 ?_)
         refine wRet ?_
         refine tR ?_
         exact wR1 rfl rfl (fun ww H => ⟨rfl, H.out.off⟩)
       · skip
         have z4o : (((toldV s).2) == 0) = true := neq_f z4
         intro aa ww nn dd hs H
         have htw := told_is (s := s) (by simpa using z4)
         have hsm2 := Lib.hid (told_sm z4)
         have hw2 : (((tellV ((toldV s).1)).2) == 0) = true := by rw [htw]; rfl
         have hw1 : (((tellV ((toldV s).1)).1).toList == s.toList) = true := by rw [htw]; simp
         refine wIn nn dd hs H ?_
         refine wSk ?_
         refine tN (wKK hK12 ?_)
         refine wSeqK fun KK15 hK15 => ?_
         refine wReg ?_
         refine p_notices_w rfl ?_
         refine wLd rfl tyint 0 rfl rfl ?_
         refine p_notices_w rfl ?_
         refine wLr rfl tyapi_Change 0 rfl [.int .i64 ((((toldV s).1).chg).index), .int .i64 (((((toldV s).1).chg).call).id), .int .i64 (((((toldV s).1).chg).call).kind), .int .i64 (((((toldV s).1).chg).call).src), .int .i64 (((((toldV s).1).chg).call).dst), .int .i64 (((((toldV s).1).chg).call).car), .int .i64 (((((toldV s).1).chg).call).state), .int .i64 (((((toldV s).1).chg).call).owner), .int .i64 (((((toldV s).1).chg).call).born), .int .i64 ((((toldV s).1).chg).car), .int .i64 ((((toldV s).1).chg).mode)] rfl rfl ?_
         refine wQ (l := [.int .i64 (((toldV s).1).index), .agg #[.int .i64 ((((toldV s).1).chg).index), .int .i64 (((((toldV s).1).chg).call).id), .int .i64 (((((toldV s).1).chg).call).kind), .int .i64 (((((toldV s).1).chg).call).src), .int .i64 (((((toldV s).1).chg).call).dst), .int .i64 (((((toldV s).1).chg).call).car), .int .i64 (((((toldV s).1).chg).call).state), .int .i64 (((((toldV s).1).chg).call).owner), .int .i64 (((((toldV s).1).chg).call).born), .int .i64 ((((toldV s).1).chg).car), .int .i64 ((((toldV s).1).chg).mode)]]) Try.func20 rfl (by kernel_rfl) (.tuple #[.string ((tellV ((toldV s).1)).1), .bool true]) (fun wc H => by have h := refTell ((toldV s).1) wc hsm2; rw [hw2] at h; exact h) rfl rfl rfl rfl ?_
         iterate 5 refine p_notices_w rfl ?_
         refine wN ?_
         refine tN (wKK hK15 ?_)
         refine wSeqK fun KK16 hK16 => ?_
         refine wReg ?_
         iterate 4 refine p_notices_w rfl ?_
         refine wE (.bool true) rfl rfl rfl (fun aa ww hs _ => by exact exec_seq (c := true) rfl (hs _ _ rfl) (hs _ _ rfl) (by first | exact hw1 | (rw [ByteArray.toList_eq]; exact hw1) | (simpa [ByteArray.toList_eq] using hw1))) ?_
         iterate 2 refine p_notices_w rfl ?_
         refine wN ?_
         refine tN (wKK hK16 ?_)
         refine wRet ?_
         exact wR1 rfl rfl (fun ww H => ⟨rfl, H.out.off⟩)
     · skip
       have y3d : ¬ (0 < (s.size : Int)) := of_decide_eq_false y3
       intro aa ww nn dd hs H
       have han : (isAnsV s) = false := ans0 y3
       refine wIn nn dd hs H ?_
       refine wReg ?_
       iterate 2 refine p_notices_w rfl ?_
       refine wE (.bool false) rfl rfl rfl (fun aa ww hs _ => by have e31 := hs 31 _ rfl; have g31 := gt_of e31; have e32 := hs 32 _ rfl; have g32 := gt_of e32; simp only [execOp]; go_simp <;> omega) ?_
       iterate 4 refine p_notices_w rfl ?_
       refine wB 37 rfl y2 ?_
       refine wE (.bool false) rfl rfl rfl (fun aa ww hs _ => by have e35 := hs 35 _ rfl; have g35 := gt_of e35; have e37 := hs 37 _ rfl; have g37 := gt_of e37; simp only [execOp]; go_simp <;> omega) ?_
       iterate 11 refine p_notices_w rfl ?_
       refine wQ (l := [.string s]) Try.func21 rfl (by kernel_rfl) (.bool false) (fun wc H => off_of_eq (by have h := isAnsC s wc; rw [han] at h; exact h)) rfl rfl rfl rfl ?_
       refine p_notices_w rfl ?_
       refine wE (.int .i64 s.size) rfl rfl rfl (fun aa ww hs _ => by have e51 := hs 51 _ rfl; have g51 := gt_of e51; simp only [execOp]; go_simp <;> omega) ?_
       refine p_notices_w rfl ?_
       refine wB 53 rfl y3 ?_
       iterate 5 refine p_notices_w rfl ?_
       refine wE (.bool false) rfl rfl rfl (fun aa ww hs _ => by have e50 := hs 50 _ rfl; have g50 := gt_of e50; have e58 := hs 58 _ rfl; have g58 := gt_of e58; simp only [execOp]; go_simp <;> omega) ?_
       refine p_notices_w rfl ?_
       refine wN ?_
       refine tN (wKK hK10 ?_)
       refine wCf rfl ?_
       refine wSk ?_
       refine tN (wKK hK9 ?_)
       refine wSeqK fun KK17 hK17 => ?_
       refine wReg ?_
       refine p_notices_w rfl ?_
       refine wQ (l := [.string s]) Try.func22 rfl (by kernel_rfl) (.tuple #[.agg #[.int .i64 (((toldV s).1).index), .int .i64 ((((toldV s).1).chg).index), .int .i64 (((((toldV s).1).chg).call).id), .int .i64 (((((toldV s).1).chg).call).kind), .int .i64 (((((toldV s).1).chg).call).src), .int .i64 (((((toldV s).1).chg).call).dst), .int .i64 (((((toldV s).1).chg).call).car), .int .i64 (((((toldV s).1).chg).call).state), .int .i64 (((((toldV s).1).chg).call).owner), .int .i64 (((((toldV s).1).chg).call).born), .int .i64 ((((toldV s).1).chg).car), .int .i64 ((((toldV s).1).chg).mode)], .int .i64 ((toldV s).2)]) (fun wc H => toldC s wc) rfl rfl rfl rfl ?_
       iterate 3 refine p_notices_w rfl ?_
       refine wAl rfl rfl tynote_Notice fun b9 => ?_
       refine wSr rfl tynote_Notice 0 rfl rfl rfl rfl [.int .i64 (((toldV s).1).index), .int .i64 ((((toldV s).1).chg).index), .int .i64 (((((toldV s).1).chg).call).id), .int .i64 (((((toldV s).1).chg).call).kind), .int .i64 (((((toldV s).1).chg).call).src), .int .i64 (((((toldV s).1).chg).call).dst), .int .i64 (((((toldV s).1).chg).call).car), .int .i64 (((((toldV s).1).chg).call).state), .int .i64 (((((toldV s).1).chg).call).owner), .int .i64 (((((toldV s).1).chg).call).born), .int .i64 ((((toldV s).1).chg).car), .int .i64 ((((toldV s).1).chg).mode)] (by first | rfl | (simp only [spl]; rfl)) ?_
       refine p_notices_w rfl ?_
       refine wN ?_
       refine tN (wKK hK17 ?_)
       refine wSeqK fun KK18 hK18 => ?_
       refine wSeqK fun KK19 hK19 => ?_
       refine wReg ?_
       iterate 2 refine p_notices_w rfl ?_
       refine wN ?_
       refine tN (wKK hK19 ?_)
       refine wCond (E := ((toldV s).2) != 0) rfl (fun z5 => ?_) (fun z5 => ?_)
       · skip
         have z5o : (((toldV s).2) == 0) = false := neq_t z5
         intro aa ww nn dd hs H
         have htd := told_no (s := s) (by simpa using z5)
         have ht4 : (((toldV s).2) == 4) = true := by rw [htd]; rfl
         have htz : (decide ((toldV s).1 = (⟨0, (⟨0, (⟨0, 0, 0, 0, 0, 0, 0, 0⟩ : CallV), 0, 0⟩ : ChgV)⟩ : NoteV))) = true := by rw [htd]; exact decide_eq_true rfl
         have htb : (toldB s) = false := told_b z5
         refine wIn nn dd hs H ?_
         refine wSeqK fun KK20 hK20 => ?_
         refine wReg ?_
         iterate 2 refine p_notices_w rfl ?_
         refine wB 69 rfl ht4 ?_
         refine p_notices_w rfl ?_
         refine wLr rfl tynote_Notice 0 rfl [.int .i64 (((toldV s).1).index), .int .i64 ((((toldV s).1).chg).index), .int .i64 (((((toldV s).1).chg).call).id), .int .i64 (((((toldV s).1).chg).call).kind), .int .i64 (((((toldV s).1).chg).call).src), .int .i64 (((((toldV s).1).chg).call).dst), .int .i64 (((((toldV s).1).chg).call).car), .int .i64 (((((toldV s).1).chg).call).state), .int .i64 (((((toldV s).1).chg).call).owner), .int .i64 (((((toldV s).1).chg).call).born), .int .i64 ((((toldV s).1).chg).car), .int .i64 ((((toldV s).1).chg).mode)] rfl rfl ?_
         refine wE (.agg #[.int .i64 0, .int .i64 0, .int .i64 0, .int .i64 0, .int .i64 0, .int .i64 0, .int .i64 0, .int .i64 0, .int .i64 0, .int .i64 0, .int .i64 0, .int .i64 0]) rfl rfl rfl (fun aa ww hs _ => by simp only [execOp]; go_simp <;> omega) ?_
         refine wE (.bool ((decide (((toldV s).1) = (⟨0, (⟨0, (⟨0, 0, 0, 0, 0, 0, 0, 0⟩ : CallV), 0, 0⟩ : ChgV)⟩ : NoteV))))) rfl rfl rfl (fun aa wc hs H => exec_eql rfl (hs _ _ rfl) (hs _ _ rfl) (by kernel_rfl) (run_eq_note ((toldV s).1) (⟨0, (⟨0, (⟨0, 0, 0, 0, 0, 0, 0, 0⟩ : CallV), 0, 0⟩ : ChgV)⟩ : NoteV) wc)) ?_
         refine wB 73 rfl htz ?_
         iterate 3 refine p_notices_w rfl ?_
         refine wQ (l := [.string s]) Try.func23 rfl (by kernel_rfl) (.bool false) (fun wc H => by have h := rtoldC s wc hz; rw [htb] at h; exact h) rfl rfl rfl rfl ?_
         iterate 3 refine p_notices_w rfl ?_
         refine wN ?_
         refine tN (wKK hK20 ?_)
         refine wRet ?_
         refine tR ?_
         exact wR1 rfl rfl (fun ww H => ⟨rfl, H.out.off⟩)
       · skip
         have z5o : (((toldV s).2) == 0) = true := neq_f z5
         intro aa ww nn dd hs H
         have htw := told_is (s := s) (by simpa using z5)
         have hsm2 := Lib.hid (told_sm z5)
         have hw2 : (((tellV ((toldV s).1)).2) == 0) = true := by rw [htw]; rfl
         have hw1 : (((tellV ((toldV s).1)).1).toList == s.toList) = true := by rw [htw]; simp
         refine wIn nn dd hs H ?_
         refine wSk ?_
         refine tN (wKK hK18 ?_)
         refine wSeqK fun KK21 hK21 => ?_
         refine wReg ?_
         refine p_notices_w rfl ?_
         refine wLd rfl tyint 0 rfl rfl ?_
         refine p_notices_w rfl ?_
         refine wLr rfl tyapi_Change 0 rfl [.int .i64 ((((toldV s).1).chg).index), .int .i64 (((((toldV s).1).chg).call).id), .int .i64 (((((toldV s).1).chg).call).kind), .int .i64 (((((toldV s).1).chg).call).src), .int .i64 (((((toldV s).1).chg).call).dst), .int .i64 (((((toldV s).1).chg).call).car), .int .i64 (((((toldV s).1).chg).call).state), .int .i64 (((((toldV s).1).chg).call).owner), .int .i64 (((((toldV s).1).chg).call).born), .int .i64 ((((toldV s).1).chg).car), .int .i64 ((((toldV s).1).chg).mode)] rfl rfl ?_
         refine wQ (l := [.int .i64 (((toldV s).1).index), .agg #[.int .i64 ((((toldV s).1).chg).index), .int .i64 (((((toldV s).1).chg).call).id), .int .i64 (((((toldV s).1).chg).call).kind), .int .i64 (((((toldV s).1).chg).call).src), .int .i64 (((((toldV s).1).chg).call).dst), .int .i64 (((((toldV s).1).chg).call).car), .int .i64 (((((toldV s).1).chg).call).state), .int .i64 (((((toldV s).1).chg).call).owner), .int .i64 (((((toldV s).1).chg).call).born), .int .i64 ((((toldV s).1).chg).car), .int .i64 ((((toldV s).1).chg).mode)]]) Try.func20 rfl (by kernel_rfl) (.tuple #[.string ((tellV ((toldV s).1)).1), .bool true]) (fun wc H => by have h := refTell ((toldV s).1) wc hsm2; rw [hw2] at h; exact h) rfl rfl rfl rfl ?_
         iterate 5 refine p_notices_w rfl ?_
         refine wN ?_
         refine tN (wKK hK21 ?_)
         refine wSeqK fun KK22 hK22 => ?_
         refine wReg ?_
         iterate 4 refine p_notices_w rfl ?_
         refine wE (.bool true) rfl rfl rfl (fun aa ww hs _ => by exact exec_seq (c := true) rfl (hs _ _ rfl) (hs _ _ rfl) (by first | exact hw1 | (rw [ByteArray.toList_eq]; exact hw1) | (simpa [ByteArray.toList_eq] using hw1))) ?_
         iterate 2 refine p_notices_w rfl ?_
         refine wN ?_
         refine tN (wKK hK22 ?_)
         refine wRet ?_
         exact wR1 rfl rfl (fun ww H => ⟨rfl, H.out.off⟩)
   · skip
     have y2o : (((tellV n).2) != 0) = true := eqq_f y2
     intro aa ww nn dd hs H
     have htn := tell_no (n := n) (by simpa using y2)
     have hne : (((tellV n).2) != 1) = false := by rw [htn]; rfl
     refine wIn nn dd hs H ?_
     refine wReg ?_
     refine p_notices_w rfl ?_
     refine wLd rfl tyint 0 rfl rfl ?_
     refine p_notices_w rfl ?_
     refine wLr rfl tyapi_Change 0 rfl [.int .i64 n.chg.index, .int .i64 n.chg.call.id, .int .i64 n.chg.call.kind, .int .i64 n.chg.call.src, .int .i64 n.chg.call.dst, .int .i64 n.chg.call.car, .int .i64 n.chg.call.state, .int .i64 n.chg.call.owner, .int .i64 n.chg.call.born, .int .i64 n.chg.car, .int .i64 n.chg.mode] rfl rfl ?_
     refine wQ (l := [.int .i64 n.index, .agg #[.int .i64 n.chg.index, .int .i64 n.chg.call.id, .int .i64 n.chg.call.kind, .int .i64 n.chg.call.src, .int .i64 n.chg.call.dst, .int .i64 n.chg.call.car, .int .i64 n.chg.call.state, .int .i64 n.chg.call.owner, .int .i64 n.chg.call.born, .int .i64 n.chg.car, .int .i64 n.chg.mode]]) Try.func20 rfl (by kernel_rfl) (.tuple #[.string ((tellV n).1), .bool false]) (fun wc H => by have h := refTell n wc hn; rw [y2] at h; exact h) rfl rfl rfl rfl ?_
     iterate 5 refine p_notices_w rfl ?_
     refine wN ?_
     refine tN (wKK hK8 ?_)
     refine wSeqK fun KK23 hK23 => ?_
     refine wSeqK fun KK24 hK24 => ?_
     rcases Bool.eq_false_or_eq_true (decide (0 < (s.size : Int))) with y6 | y6
     · skip
       have y6d : 0 < (s.size : Int) := of_decide_eq_true y6
       intro aa ww nn dd hs H
       have han : ((isAnsV s) == ((idxB s 0) == 128)) = true := ans1 y6
       refine wIn nn dd hs H ?_
       refine wReg ?_
       iterate 2 refine p_notices_w rfl ?_
       refine wE (.bool false) rfl rfl rfl (fun aa ww hs _ => by have e31 := hs 31 _ rfl; have g31 := gt_of e31; have e32 := hs 32 _ rfl; have g32 := gt_of e32; simp only [execOp]; go_simp <;> omega) ?_
       iterate 4 refine p_notices_w rfl ?_
       refine wB 37 rfl y2 ?_
       refine wE (.bool false) rfl rfl rfl (fun aa ww hs _ => by have e35 := hs 35 _ rfl; have g35 := gt_of e35; have e37 := hs 37 _ rfl; have g37 := gt_of e37; simp only [execOp]; go_simp <;> omega) ?_
       iterate 7 refine p_notices_w rfl ?_
       refine wB 45 rfl hne ?_
       iterate 4 refine p_notices_w rfl ?_
       refine wQ (l := [.string s]) Try.func21 rfl (by kernel_rfl) (.bool (isAnsV s)) (fun wc H => off_of_eq (isAnsC s wc)) rfl rfl rfl rfl ?_
       refine p_notices_w rfl ?_
       refine wE (.int .i64 s.size) rfl rfl rfl (fun aa ww hs _ => by have e51 := hs 51 _ rfl; have g51 := gt_of e51; simp only [execOp]; go_simp <;> omega) ?_
       refine p_notices_w rfl ?_
       refine wB 53 rfl y6 ?_
       iterate 2 refine p_notices_w rfl ?_
       refine wE (.int .u8 (idxB s 0)) rfl rfl rfl (fun aa ww hs _ => exec_sidx rfl (hs _ _ rfl) (rfl) Try.underlying9 (by omega)) ?_
       iterate 2 refine p_notices_w rfl ?_
       refine wE (.bool false) rfl rfl rfl (fun aa ww hs _ => by exact exec_bne (c := true) rfl (hs _ _ rfl) (hs _ _ rfl) Try.underlying4 han) ?_
       refine p_notices_w rfl ?_
       refine wN ?_
       refine tN (wKK hK24 ?_)
       refine wCf rfl ?_
       refine wSk ?_
       refine tN (wKK hK23 ?_)
       refine wSeqK fun KK25 hK25 => ?_
       refine wReg ?_
       refine p_notices_w rfl ?_
       refine wQ (l := [.string s]) Try.func22 rfl (by kernel_rfl) (.tuple #[.agg #[.int .i64 (((toldV s).1).index), .int .i64 ((((toldV s).1).chg).index), .int .i64 (((((toldV s).1).chg).call).id), .int .i64 (((((toldV s).1).chg).call).kind), .int .i64 (((((toldV s).1).chg).call).src), .int .i64 (((((toldV s).1).chg).call).dst), .int .i64 (((((toldV s).1).chg).call).car), .int .i64 (((((toldV s).1).chg).call).state), .int .i64 (((((toldV s).1).chg).call).owner), .int .i64 (((((toldV s).1).chg).call).born), .int .i64 ((((toldV s).1).chg).car), .int .i64 ((((toldV s).1).chg).mode)], .int .i64 ((toldV s).2)]) (fun wc H => toldC s wc) rfl rfl rfl rfl ?_
       iterate 3 refine p_notices_w rfl ?_
       refine wAl rfl rfl tynote_Notice fun b9 => ?_
       refine wSr rfl tynote_Notice 0 rfl rfl rfl rfl [.int .i64 (((toldV s).1).index), .int .i64 ((((toldV s).1).chg).index), .int .i64 (((((toldV s).1).chg).call).id), .int .i64 (((((toldV s).1).chg).call).kind), .int .i64 (((((toldV s).1).chg).call).src), .int .i64 (((((toldV s).1).chg).call).dst), .int .i64 (((((toldV s).1).chg).call).car), .int .i64 (((((toldV s).1).chg).call).state), .int .i64 (((((toldV s).1).chg).call).owner), .int .i64 (((((toldV s).1).chg).call).born), .int .i64 ((((toldV s).1).chg).car), .int .i64 ((((toldV s).1).chg).mode)] (by first | rfl | (simp only [spl]; rfl)) ?_
       refine p_notices_w rfl ?_
       refine wN ?_
       refine tN (wKK hK25 ?_)
       refine wSeqK fun KK26 hK26 => ?_
       refine wSeqK fun KK27 hK27 => ?_
       refine wReg ?_
       iterate 2 refine p_notices_w rfl ?_
       refine wN ?_
       refine tN (wKK hK27 ?_)
       refine wCond (E := ((toldV s).2) != 0) rfl (fun z7 => ?_) (fun z7 => ?_)
       · skip
         have z7o : (((toldV s).2) == 0) = false := neq_t z7
         intro aa ww nn dd hs H
         have htd := told_no (s := s) (by simpa using z7)
         have ht4 : (((toldV s).2) == 4) = true := by rw [htd]; rfl
         have htz : (decide ((toldV s).1 = (⟨0, (⟨0, (⟨0, 0, 0, 0, 0, 0, 0, 0⟩ : CallV), 0, 0⟩ : ChgV)⟩ : NoteV))) = true := by rw [htd]; exact decide_eq_true rfl
         have htb : (toldB s) = false := told_b z7
         refine wIn nn dd hs H ?_
         refine wSeqK fun KK28 hK28 => ?_
         refine wReg ?_
         iterate 2 refine p_notices_w rfl ?_
         refine wB 69 rfl ht4 ?_
         refine p_notices_w rfl ?_
         refine wLr rfl tynote_Notice 0 rfl [.int .i64 (((toldV s).1).index), .int .i64 ((((toldV s).1).chg).index), .int .i64 (((((toldV s).1).chg).call).id), .int .i64 (((((toldV s).1).chg).call).kind), .int .i64 (((((toldV s).1).chg).call).src), .int .i64 (((((toldV s).1).chg).call).dst), .int .i64 (((((toldV s).1).chg).call).car), .int .i64 (((((toldV s).1).chg).call).state), .int .i64 (((((toldV s).1).chg).call).owner), .int .i64 (((((toldV s).1).chg).call).born), .int .i64 ((((toldV s).1).chg).car), .int .i64 ((((toldV s).1).chg).mode)] rfl rfl ?_
         refine wE (.agg #[.int .i64 0, .int .i64 0, .int .i64 0, .int .i64 0, .int .i64 0, .int .i64 0, .int .i64 0, .int .i64 0, .int .i64 0, .int .i64 0, .int .i64 0, .int .i64 0]) rfl rfl rfl (fun aa ww hs _ => by simp only [execOp]; go_simp <;> omega) ?_
         refine wE (.bool ((decide (((toldV s).1) = (⟨0, (⟨0, (⟨0, 0, 0, 0, 0, 0, 0, 0⟩ : CallV), 0, 0⟩ : ChgV)⟩ : NoteV))))) rfl rfl rfl (fun aa wc hs H => exec_eql rfl (hs _ _ rfl) (hs _ _ rfl) (by kernel_rfl) (run_eq_note ((toldV s).1) (⟨0, (⟨0, (⟨0, 0, 0, 0, 0, 0, 0, 0⟩ : CallV), 0, 0⟩ : ChgV)⟩ : NoteV) wc)) ?_
         refine wB 73 rfl htz ?_
         iterate 3 refine p_notices_w rfl ?_
         refine wQ (l := [.string s]) Try.func23 rfl (by kernel_rfl) (.bool false) (fun wc H => by have h := rtoldC s wc hz; rw [htb] at h; exact h) rfl rfl rfl rfl ?_
         iterate 3 refine p_notices_w rfl ?_
         refine wN ?_
         refine tN (wKK hK28 ?_)
         refine wRet ?_
         refine tR ?_
         exact wR1 rfl rfl (fun ww H => ⟨rfl, H.out.off⟩)
       · skip
         have z7o : (((toldV s).2) == 0) = true := neq_f z7
         intro aa ww nn dd hs H
         have htw := told_is (s := s) (by simpa using z7)
         have hsm2 := Lib.hid (told_sm z7)
         have hw2 : (((tellV ((toldV s).1)).2) == 0) = true := by rw [htw]; rfl
         have hw1 : (((tellV ((toldV s).1)).1).toList == s.toList) = true := by rw [htw]; simp
         refine wIn nn dd hs H ?_
         refine wSk ?_
         refine tN (wKK hK26 ?_)
         refine wSeqK fun KK29 hK29 => ?_
         refine wReg ?_
         refine p_notices_w rfl ?_
         refine wLd rfl tyint 0 rfl rfl ?_
         refine p_notices_w rfl ?_
         refine wLr rfl tyapi_Change 0 rfl [.int .i64 ((((toldV s).1).chg).index), .int .i64 (((((toldV s).1).chg).call).id), .int .i64 (((((toldV s).1).chg).call).kind), .int .i64 (((((toldV s).1).chg).call).src), .int .i64 (((((toldV s).1).chg).call).dst), .int .i64 (((((toldV s).1).chg).call).car), .int .i64 (((((toldV s).1).chg).call).state), .int .i64 (((((toldV s).1).chg).call).owner), .int .i64 (((((toldV s).1).chg).call).born), .int .i64 ((((toldV s).1).chg).car), .int .i64 ((((toldV s).1).chg).mode)] rfl rfl ?_
         refine wQ (l := [.int .i64 (((toldV s).1).index), .agg #[.int .i64 ((((toldV s).1).chg).index), .int .i64 (((((toldV s).1).chg).call).id), .int .i64 (((((toldV s).1).chg).call).kind), .int .i64 (((((toldV s).1).chg).call).src), .int .i64 (((((toldV s).1).chg).call).dst), .int .i64 (((((toldV s).1).chg).call).car), .int .i64 (((((toldV s).1).chg).call).state), .int .i64 (((((toldV s).1).chg).call).owner), .int .i64 (((((toldV s).1).chg).call).born), .int .i64 ((((toldV s).1).chg).car), .int .i64 ((((toldV s).1).chg).mode)]]) Try.func20 rfl (by kernel_rfl) (.tuple #[.string ((tellV ((toldV s).1)).1), .bool true]) (fun wc H => by have h := refTell ((toldV s).1) wc hsm2; rw [hw2] at h; exact h) rfl rfl rfl rfl ?_
         iterate 5 refine p_notices_w rfl ?_
         refine wN ?_
         refine tN (wKK hK29 ?_)
         refine wSeqK fun KK30 hK30 => ?_
         refine wReg ?_
         iterate 4 refine p_notices_w rfl ?_
         refine wE (.bool true) rfl rfl rfl (fun aa ww hs _ => by exact exec_seq (c := true) rfl (hs _ _ rfl) (hs _ _ rfl) (by first | exact hw1 | (rw [ByteArray.toList_eq]; exact hw1) | (simpa [ByteArray.toList_eq] using hw1))) ?_
         iterate 2 refine p_notices_w rfl ?_
         refine wN ?_
         refine tN (wKK hK30 ?_)
         refine wRet ?_
         exact wR1 rfl rfl (fun ww H => ⟨rfl, H.out.off⟩)
     · skip
       have y6d : ¬ (0 < (s.size : Int)) := of_decide_eq_false y6
       intro aa ww nn dd hs H
       have han : (isAnsV s) = false := ans0 y6
       refine wIn nn dd hs H ?_
       refine wReg ?_
       iterate 2 refine p_notices_w rfl ?_
       refine wE (.bool false) rfl rfl rfl (fun aa ww hs _ => by have e31 := hs 31 _ rfl; have g31 := gt_of e31; have e32 := hs 32 _ rfl; have g32 := gt_of e32; simp only [execOp]; go_simp <;> omega) ?_
       iterate 4 refine p_notices_w rfl ?_
       refine wB 37 rfl y2 ?_
       refine wE (.bool false) rfl rfl rfl (fun aa ww hs _ => by have e35 := hs 35 _ rfl; have g35 := gt_of e35; have e37 := hs 37 _ rfl; have g37 := gt_of e37; simp only [execOp]; go_simp <;> omega) ?_
       iterate 7 refine p_notices_w rfl ?_
       refine wB 45 rfl hne ?_
       iterate 4 refine p_notices_w rfl ?_
       refine wQ (l := [.string s]) Try.func21 rfl (by kernel_rfl) (.bool false) (fun wc H => off_of_eq (by have h := isAnsC s wc; rw [han] at h; exact h)) rfl rfl rfl rfl ?_
       refine p_notices_w rfl ?_
       refine wE (.int .i64 s.size) rfl rfl rfl (fun aa ww hs _ => by have e51 := hs 51 _ rfl; have g51 := gt_of e51; simp only [execOp]; go_simp <;> omega) ?_
       refine p_notices_w rfl ?_
       refine wB 53 rfl y6 ?_
       iterate 5 refine p_notices_w rfl ?_
       refine wE (.bool false) rfl rfl rfl (fun aa ww hs _ => by have e50 := hs 50 _ rfl; have g50 := gt_of e50; have e58 := hs 58 _ rfl; have g58 := gt_of e58; simp only [execOp]; go_simp <;> omega) ?_
       refine p_notices_w rfl ?_
       refine wN ?_
       refine tN (wKK hK24 ?_)
       refine wCf rfl ?_
       refine wSk ?_
       refine tN (wKK hK23 ?_)
       refine wSeqK fun KK31 hK31 => ?_
       refine wReg ?_
       refine p_notices_w rfl ?_
       refine wQ (l := [.string s]) Try.func22 rfl (by kernel_rfl) (.tuple #[.agg #[.int .i64 (((toldV s).1).index), .int .i64 ((((toldV s).1).chg).index), .int .i64 (((((toldV s).1).chg).call).id), .int .i64 (((((toldV s).1).chg).call).kind), .int .i64 (((((toldV s).1).chg).call).src), .int .i64 (((((toldV s).1).chg).call).dst), .int .i64 (((((toldV s).1).chg).call).car), .int .i64 (((((toldV s).1).chg).call).state), .int .i64 (((((toldV s).1).chg).call).owner), .int .i64 (((((toldV s).1).chg).call).born), .int .i64 ((((toldV s).1).chg).car), .int .i64 ((((toldV s).1).chg).mode)], .int .i64 ((toldV s).2)]) (fun wc H => toldC s wc) rfl rfl rfl rfl ?_
       iterate 3 refine p_notices_w rfl ?_
       refine wAl rfl rfl tynote_Notice fun b9 => ?_
       refine wSr rfl tynote_Notice 0 rfl rfl rfl rfl [.int .i64 (((toldV s).1).index), .int .i64 ((((toldV s).1).chg).index), .int .i64 (((((toldV s).1).chg).call).id), .int .i64 (((((toldV s).1).chg).call).kind), .int .i64 (((((toldV s).1).chg).call).src), .int .i64 (((((toldV s).1).chg).call).dst), .int .i64 (((((toldV s).1).chg).call).car), .int .i64 (((((toldV s).1).chg).call).state), .int .i64 (((((toldV s).1).chg).call).owner), .int .i64 (((((toldV s).1).chg).call).born), .int .i64 ((((toldV s).1).chg).car), .int .i64 ((((toldV s).1).chg).mode)] (by first | rfl | (simp only [spl]; rfl)) ?_
       refine p_notices_w rfl ?_
       refine wN ?_
       refine tN (wKK hK31 ?_)
       refine wSeqK fun KK32 hK32 => ?_
       refine wSeqK fun KK33 hK33 => ?_
       refine wReg ?_
       iterate 2 refine p_notices_w rfl ?_
       refine wN ?_
       refine tN (wKK hK33 ?_)
       refine wCond (E := ((toldV s).2) != 0) rfl (fun z8 => ?_) (fun z8 => ?_)
       · skip
         have z8o : (((toldV s).2) == 0) = false := neq_t z8
         intro aa ww nn dd hs H
         have htd := told_no (s := s) (by simpa using z8)
         have ht4 : (((toldV s).2) == 4) = true := by rw [htd]; rfl
         have htz : (decide ((toldV s).1 = (⟨0, (⟨0, (⟨0, 0, 0, 0, 0, 0, 0, 0⟩ : CallV), 0, 0⟩ : ChgV)⟩ : NoteV))) = true := by rw [htd]; exact decide_eq_true rfl
         have htb : (toldB s) = false := told_b z8
         refine wIn nn dd hs H ?_
         refine wSeqK fun KK34 hK34 => ?_
         refine wReg ?_
         iterate 2 refine p_notices_w rfl ?_
         refine wB 69 rfl ht4 ?_
         refine p_notices_w rfl ?_
         refine wLr rfl tynote_Notice 0 rfl [.int .i64 (((toldV s).1).index), .int .i64 ((((toldV s).1).chg).index), .int .i64 (((((toldV s).1).chg).call).id), .int .i64 (((((toldV s).1).chg).call).kind), .int .i64 (((((toldV s).1).chg).call).src), .int .i64 (((((toldV s).1).chg).call).dst), .int .i64 (((((toldV s).1).chg).call).car), .int .i64 (((((toldV s).1).chg).call).state), .int .i64 (((((toldV s).1).chg).call).owner), .int .i64 (((((toldV s).1).chg).call).born), .int .i64 ((((toldV s).1).chg).car), .int .i64 ((((toldV s).1).chg).mode)] rfl rfl ?_
         refine wE (.agg #[.int .i64 0, .int .i64 0, .int .i64 0, .int .i64 0, .int .i64 0, .int .i64 0, .int .i64 0, .int .i64 0, .int .i64 0, .int .i64 0, .int .i64 0, .int .i64 0]) rfl rfl rfl (fun aa ww hs _ => by simp only [execOp]; go_simp <;> omega) ?_
         refine wE (.bool ((decide (((toldV s).1) = (⟨0, (⟨0, (⟨0, 0, 0, 0, 0, 0, 0, 0⟩ : CallV), 0, 0⟩ : ChgV)⟩ : NoteV))))) rfl rfl rfl (fun aa wc hs H => exec_eql rfl (hs _ _ rfl) (hs _ _ rfl) (by kernel_rfl) (run_eq_note ((toldV s).1) (⟨0, (⟨0, (⟨0, 0, 0, 0, 0, 0, 0, 0⟩ : CallV), 0, 0⟩ : ChgV)⟩ : NoteV) wc)) ?_
         refine wB 73 rfl htz ?_
         iterate 3 refine p_notices_w rfl ?_
         refine wQ (l := [.string s]) Try.func23 rfl (by kernel_rfl) (.bool false) (fun wc H => by have h := rtoldC s wc hz; rw [htb] at h; exact h) rfl rfl rfl rfl ?_
         iterate 3 refine p_notices_w rfl ?_
         refine wN ?_
         refine tN (wKK hK34 ?_)
         refine wRet ?_
         refine tR ?_
         exact wR1 rfl rfl (fun ww H => ⟨rfl, H.out.off⟩)
       · skip
         have z8o : (((toldV s).2) == 0) = true := neq_f z8
         intro aa ww nn dd hs H
         have htw := told_is (s := s) (by simpa using z8)
         have hsm2 := Lib.hid (told_sm z8)
         have hw2 : (((tellV ((toldV s).1)).2) == 0) = true := by rw [htw]; rfl
         have hw1 : (((tellV ((toldV s).1)).1).toList == s.toList) = true := by rw [htw]; simp
         refine wIn nn dd hs H ?_
         refine wSk ?_
         refine tN (wKK hK32 ?_)
         refine wSeqK fun KK35 hK35 => ?_
         refine wReg ?_
         refine p_notices_w rfl ?_
         refine wLd rfl tyint 0 rfl rfl ?_
         refine p_notices_w rfl ?_
         refine wLr rfl tyapi_Change 0 rfl [.int .i64 ((((toldV s).1).chg).index), .int .i64 (((((toldV s).1).chg).call).id), .int .i64 (((((toldV s).1).chg).call).kind), .int .i64 (((((toldV s).1).chg).call).src), .int .i64 (((((toldV s).1).chg).call).dst), .int .i64 (((((toldV s).1).chg).call).car), .int .i64 (((((toldV s).1).chg).call).state), .int .i64 (((((toldV s).1).chg).call).owner), .int .i64 (((((toldV s).1).chg).call).born), .int .i64 ((((toldV s).1).chg).car), .int .i64 ((((toldV s).1).chg).mode)] rfl rfl ?_
         refine wQ (l := [.int .i64 (((toldV s).1).index), .agg #[.int .i64 ((((toldV s).1).chg).index), .int .i64 (((((toldV s).1).chg).call).id), .int .i64 (((((toldV s).1).chg).call).kind), .int .i64 (((((toldV s).1).chg).call).src), .int .i64 (((((toldV s).1).chg).call).dst), .int .i64 (((((toldV s).1).chg).call).car), .int .i64 (((((toldV s).1).chg).call).state), .int .i64 (((((toldV s).1).chg).call).owner), .int .i64 (((((toldV s).1).chg).call).born), .int .i64 ((((toldV s).1).chg).car), .int .i64 ((((toldV s).1).chg).mode)]]) Try.func20 rfl (by kernel_rfl) (.tuple #[.string ((tellV ((toldV s).1)).1), .bool true]) (fun wc H => by have h := refTell ((toldV s).1) wc hsm2; rw [hw2] at h; exact h) rfl rfl rfl rfl ?_
         iterate 5 refine p_notices_w rfl ?_
         refine wN ?_
         refine tN (wKK hK35 ?_)
         refine wSeqK fun KK36 hK36 => ?_
         refine wReg ?_
         iterate 4 refine p_notices_w rfl ?_
         refine wE (.bool true) rfl rfl rfl (fun aa ww hs _ => by exact exec_seq (c := true) rfl (hs _ _ rfl) (hs _ _ rfl) (by first | exact hw1 | (rw [ByteArray.toList_eq]; exact hw1) | (simpa [ByteArray.toList_eq] using hw1))) ?_
         iterate 2 refine p_notices_w rfl ?_
         refine wN ?_
         refine tN (wKK hK36 ?_)
         refine wRet ?_
         exact wR1 rfl rfl (fun ww H => ⟨rfl, H.out.off⟩)
end Go.Proofs.Ytloemjhhedkhiaa.Nt
