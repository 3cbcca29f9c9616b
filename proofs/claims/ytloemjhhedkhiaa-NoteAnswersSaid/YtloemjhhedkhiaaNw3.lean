/- Layer 15: answers that are written. -/
import Derived.Test.YtloemjhhedkhiaaProg
import Derived.Below
import Derived.WalkKit
import Derived.KernelRfl
import Derived.RowKit3
import Derived.Deep.LoopGhost
import Derived.Deep.QuietTactic
import Derived.BigQuiet
import Derived.WideLaws
import Derived.Deep.DeepCutAuto
import Derived.Deep.CutBlock
import Derived.Lib.Hide
import Derived.Laws.BitsLemmas
import Derived.Laws.Bits64
import Derived.Laws.BitsAllLaws
import Derived.IntWalk
import Derived.Outline
import Derived.WalkSpells
import Derived.Test.YtloemjhhedkhiaaMem
import Derived.Test.YtloemjhhedkhiaaNw2
namespace Go.Proofs.Ytloemjhhedkhiaa.Nt
open Go.RowKit Go.Proofs.Ytloemjhhedkhiaa.Mem Go.Proofs.Ytloemjhhedkhiaa.Pk Go.Proofs.Ytloemjhhedkhiaa.Reg Go.Proofs.Ytloemjhhedkhiaa.Wk
set_option linter.unusedVariables false
set_option linter.unusedSimpArgs false

theorem pay_is (v : AnsV) : payOk v = ((decide (0 ≤ v.code) && decide (v.code ≤ 11)) && (decide ((v.calls.length : Int) ≤ 64) && ((cntsV [v.index, v.session]).2 && v.calls.all callOk))) := by
  unfold payOk
  rw [cnts_all, show decide (v.calls.length ≤ 64) = decide ((v.calls.length : Int) ≤ 64) from by rw [decide_eq_decide]; omega]
  simp only [List.all_cons, List.all_nil, Bool.and_true]
theorem code_ok {n : Int} (h1 : decide (0 ≤ n) = true) (h2 : decide (n ≤ 11) = true) : (encs 1 [n]).2 = true := by
  rw [encs1]
  have := of_decide_eq_true h1
  have := of_decide_eq_true h2
  simp only [List.all_cons, List.all_nil, Bool.and_true, byt_iff]
  omega
theorem pass_ok {n : Int} (h : 0 ≤ n ∧ n ≤ 4294967295) : (encs 4 [n]).2 = true := by
  rw [encs4]
  simp
  omega
theorem pay_bytes {v : AnsV} {l : List Nat} (h1 : (encs 1 [v.code]).2 = true) (h2 : (cntsV [v.index, v.session]).2 = true) (h3 : (encs 4 [v.pass]).2 = true) :
    l ++ (encs 1 [v.code]).1 ++ (cntsV [v.index, v.session]).1 ++ (encs 4 [v.pass]).1 ++ (beB 2 v.calls.length ++ callsB v.calls) = l ++ payB v := by
  rw [encs_ok h1, cnts_ok h2, encs_ok h3]
  unfold payB
  simp [beBs]
theorem ans_is (v : AnsV) : ansOk v = ((cntsV [v.seq]).2 && payOk v) := by
  unfold ansOk
  rw [cnts_all]
  simp only [List.all_cons, List.all_nil, Bool.and_true]
theorem ans_bytes {v : AnsV} (h : (cntsV [v.seq]).2 = true) : [] ++ (encs 1 [128]).1 ++ (cntsV [v.seq]).1 ++ payB v = ansB v := by
  rw [encs_ok (show (encs 1 [128]).2 = true from rfl), cnts_ok h]
  unfold ansB headB
  simp [beBs]
theorem enc_yes {v : AnsV} (h1 : (cntsV [v.seq]).2 = true) (h2 : payOk v = true) : encodeV v = (str ([] ++ (encs 1 [128]).1 ++ (cntsV [v.seq]).1 ++ payB v), 0) := by
  unfold encodeV
  rw [ans_is, h1, h2, ans_bytes h1]
  rfl
theorem enc_no1 {v : AnsV} (h1 : (cntsV [v.seq]).2 = false) : encodeV v = (⟨#[]⟩, 1) := by
  unfold encodeV
  rw [ans_is, h1]
  rfl
theorem enc_no2 {v : AnsV} (h1 : payOk v = false) : encodeV v = (⟨#[]⟩, 1) := by
  unfold encodeV
  rw [ans_is, h1, Bool.and_false]
  rfl
theorem payl_no {v : AnsV} (h : ((encodeV v).2 != 0) = true) : payloadV v = ⟨#[]⟩ := by
  unfold encodeV at h
  unfold payloadV
  cases ho : ansOk v with
  | true => rw [ho] at h; simp at h
  | false => rfl
theorem payl_ok {v : AnsV} (h : ((encodeV v).2 != 0) = false) : payloadV v = str ([] ++ payB v) ∧ payOk v = true := by
  unfold encodeV at h
  unfold payloadV
  cases ho : ansOk v with
  | false => rw [ho] at h; simp at h
  | true => rw [ans_is, Bool.and_eq_true] at ho; exact ⟨rfl, ho.2⟩
def tab_payW : Wk.Tab := [(64, 1, 1), (64, 2, 2), (64, 3, 3), (64, 4, 4), (64, 5, 5)]
theorem p_payW {ops : Array Oper} {rest : List Oper} {o : Oper} {w0 : World} {Q : Exit → Act → World → Prop} {S : List Nat} {R : List Res} {K K' : Wk.Env} {N : Nat} (h : Wk.stp tab_payW N ops K o = some K') (n : Wk.Wk N S w0 K' R (wpList Try.prog ops Q rest)) : Wk.Wk N S w0 K R (wpList Try.prog ops Q (o :: rest)) := Wk.wP (T := tab_payW) (by kernel_rfl) h n
set_option maxHeartbeats 16000000 in
set_option maxRecDepth 20000 in
theorem payW (b : Nat) (F : List Nat) (m : Nat) (l : List Nat) (v : AnsV) (sa : Option Addr) (sc : Nat) (w : World) (hO : (rOut b F m l).holds w) (hF : ∀ k ∈ F, k < w.heap.size) (hS : (rS sa sc 8 (v.calls.map callRow)).holds w) (hd : ∀ q ∈ (rS sa sc 8 (v.calls.map callRow)).foot, q ∉ F) (hm : m ≤ 700000000) (hp : 0 ≤ v.pass ∧ v.pass ≤ 4294967295) : Calls Try.prog 56 #[.pointer (some ⟨b, 0, none⟩), .agg #[.int .i64 v.seq, .int .i64 v.code, .int .i64 v.index, .int .i64 v.session, .int .u32 v.pass, .slice sa v.calls.length sc]] w fun e w' => e = .returned (.bool (payOk v)) ∧ Off F w w' ∧ (payOk v = true → Puts b F (m + 10000) (l ++ payB v) w w') := by
 have H := Lib.hid (Hp.start [] w)
 have H := hp_wr hO hF
 have H := hp_oldS H hS (by decide) hd
 clear hO hS
 refine wStart (args := [.pointer (some ⟨b, 0, none⟩), .agg #[.int .i64 v.seq, .int .i64 v.code, .int .i64 v.index, .int .i64 v.session, .int .u32 v.pass, .slice sa v.calls.length sc]]) Try.func56 rfl rfl rfl H ?_
 clear H
 show Wk 49 _ _ [(0, .pointer (some ⟨b, 0, none⟩)), (1, .agg #[.int .i64 v.seq, .int .i64 v.code, .int .i64 v.index, .int .i64 v.session, .int .u32 v.pass, .slice sa v.calls.length sc])] _ _
 have hwp : IntKind.i64.wrap v.pass = v.pass := IntWalk.i64_in _ (by omega)
 have hg6 : (encs 4 [v.pass]).2 = true := pass_ok hp
 refine wSeqK fun KK1 hK1 => ?_
 refine wReg ?_
 refine wBx rfl rfl rfl fun b3 => ?_
 refine p_payW rfl ?_
 refine wN ?_
 refine tN (wKK hK1 ?_)
 refine wSeqK fun KK2 hK2 => ?_
 rcases Bool.eq_false_or_eq_true (decide (0 ≤ v.code)) with y1 | y1
 · skip
   have y1d : 0 ≤ v.code := of_decide_eq_true y1
   rcases Bool.eq_false_or_eq_true (decide (v.code ≤ 11)) with y2 | y2
   · skip
     have y2d : v.code ≤ 11 := of_decide_eq_true y2
     intro aa ww nn dd hs H
     have hg4 : (encs 1 [v.code]).2 = true := code_ok y1 y2
     refine wIn nn dd hs H ?_
     rcases Bool.eq_false_or_eq_true (decide ((v.calls.length : Int) ≤ 64)) with y3 | y3
     · skip
       have y3d : (v.calls.length : Int) ≤ 64 := of_decide_eq_true y3
       rcases Bool.eq_false_or_eq_true ((cntsV [v.index, v.session]).2) with y4 | y4
       · skip
         rcases Bool.eq_false_or_eq_true (v.calls.all callOk) with y5 | y5
         · skip
           refine wReg ?_
           refine p_payW rfl ?_
           refine wLd rfl tyint 0 rfl rfl ?_
           refine p_payW rfl ?_
           refine wB 7 rfl y1 ?_
           iterate 2 refine p_payW rfl ?_
           refine wLd rfl tyint 0 rfl rfl ?_
           refine p_payW rfl ?_
           refine wB 11 rfl y2 ?_
           iterate 3 refine p_payW rfl ?_
           refine wLd rfl tyS_api_Call 0 rfl rfl ?_
           refine wE (.int .i64 v.calls.length) rfl rfl rfl (fun aa ww hs _ => by have e15 := hs 15 _ rfl; have g15 := gt_of e15; simp only [execOp]; go_simp <;> omega) ?_
           refine p_payW rfl ?_
           refine wB 17 rfl y3 ?_
           iterate 4 refine p_payW rfl ?_
           refine wLd rfl tyint 0 rfl rfl ?_
           refine wBs (cs := [.int .i64 v.code]) rfl rfl rfl rfl Try.underlying125 tyint rfl (by decide) (by decide) (by kernel_rfl) fun b23 => ?_
           refine wC (l := [.pointer (some ⟨b, 0, none⟩), .int .i64 1, .slice (some ⟨b23, 0, none⟩) 1 1]) Try.func46 rfl (by kernel_rfl) (fun wc H => by have h := outNumsH H (ns := [v.code]) (wd := 1) (n := 1) (c := 1) (i := 3) (j := 0) rfl rfl rfl rfl (by decide) (by omega); rw [hg4] at h; exact h) rfl rfl rfl rfl ?_
           intro wc H
           rintro er wd ⟨rfl, fF1_19, H2⟩
           refine ⟨_, rfl, wkAt H2 ?_⟩
           clear H H2
           iterate 4 refine p_payW rfl ?_
           refine wLd rfl tyint 1 rfl rfl ?_
           refine p_payW rfl ?_
           refine wLd rfl tyint 1 rfl rfl ?_
           refine wBs (cs := [.int .i64 v.index, .int .i64 v.session]) rfl rfl rfl rfl Try.underlying125 tyint rfl (by decide) (by decide) (by kernel_rfl) fun b32 => ?_
           refine wC (l := [.pointer (some ⟨b, 0, none⟩), .slice (some ⟨b32, 0, none⟩) 2 2]) Try.func47 rfl (by kernel_rfl) (fun wc H => by have h := countsH H (ns := [v.index, v.session]) (n := 2) (c := 2) (i := 4) (j := 0) rfl rfl rfl rfl (by decide) (by omega); rw [y4] at h; exact h) rfl rfl rfl rfl ?_
           intro wc H
           rintro er wd ⟨rfl, fF1_28, H2⟩
           refine ⟨_, rfl, wkAt H2 ?_⟩
           clear H H2
           iterate 4 refine p_payW rfl ?_
           refine wLd rfl tyuint32 2 rfl rfl ?_
           refine wE (.int .i64 v.pass) rfl rfl rfl (fun aa ww hs _ => by have e38 := hs 38 _ rfl; have g38 := gt_of e38; simp only [execOp]; go_simp <;> omega) ?_
           refine wBs (cs := [.int .i64 v.pass]) rfl rfl rfl rfl Try.underlying125 tyint rfl (by decide) (by decide) (by kernel_rfl) fun b40 => ?_
           refine wC (l := [.pointer (some ⟨b, 0, none⟩), .int .i64 4, .slice (some ⟨b40, 0, none⟩) 1 1]) Try.func46 rfl (by kernel_rfl) (fun wc H => by have h := outNumsH H (ns := [v.pass]) (wd := 4) (n := 1) (c := 1) (i := 5) (j := 0) rfl rfl rfl rfl (by decide) (by omega); rw [hg6] at h; exact h) rfl rfl rfl rfl ?_
           intro wc H
           rintro er wd ⟨rfl, fF1_36, H2⟩
           refine ⟨_, rfl, wkAt H2 ?_⟩
           clear H H2
           iterate 4 refine p_payW rfl ?_
           refine wLd rfl tyS_api_Call 3 rfl rfl ?_
           refine wC (l := [.pointer (some ⟨b, 0, none⟩), .slice sa v.calls.length sc, .func (.func 48) #[] #[]]) Try.func79 rfl (by kernel_rfl) (fun wc H => by have h := listW b fF1_36 (m + 32) (((l ++ (encs 1 [v.code]).1) ++ (cntsV [v.index, v.session]).1) ++ (encs 4 [v.pass]).1) sa sc v.calls wc (H.out.at 5 rfl) (H.out.lt _ (List.mem_of_getElem? (show _ = some _ from rfl : [rB b40 3 [.int .i64 v.pass], rB b32 3 [.int .i64 v.index, .int .i64 v.session], rB b23 3 [.int .i64 v.code], rB b3 64 [.int .i64 v.seq, .int .i64 v.code, .int .i64 v.index, .int .i64 v.session, .int .u32 v.pass, .slice sa v.calls.length sc], rS sa sc 8 (v.calls.map callRow), rOut b fF1_36 (m + 32) (((l ++ (encs 1 [v.code]).1) ++ (cntsV [v.index, v.session]).1) ++ (encs 4 [v.pass]).1)][5]? = some _))) (hp_held H (by (repeat (first | exact List.Mem.head _ | apply List.Mem.tail)))) (Hp.two H.out (i := 4) (j := 5) rfl rfl (by decide) rfl) (by omega) (by omega); rw [y5] at h; exact h) rfl rfl rfl rfl ?_
           intro wc H
           rintro er wd ⟨rfl, hof, hpu⟩
           obtain ⟨fF1_42, H2⟩ := hp_put H (i := 5) rfl (hpu rfl)
           refine ⟨_, rfl, wkAt H2 ?_⟩
           clear H H2 hof
           iterate 2 refine p_payW rfl ?_
           refine wN ?_
           refine tN (wKK hK2 ?_)
           refine wRet ?_
           exact wR1 rfl rfl (fun ww H => ⟨congrArg (fun z => Ending.returned (.bool z)) (show true = payOk v by simp only [pay_is, y1, y2, y3, y4, y5, Bool.and_true]), H.out.off, fun _ => by rw [← pay_bytes hg4 y4 hg6]; exact puts_mono (hp_puts H (by (repeat (first | exact List.Mem.head _ | apply List.Mem.tail)))) (by omega)⟩)
         · skip
           refine wReg ?_
           refine p_payW rfl ?_
           refine wLd rfl tyint 0 rfl rfl ?_
           refine p_payW rfl ?_
           refine wB 7 rfl y1 ?_
           iterate 2 refine p_payW rfl ?_
           refine wLd rfl tyint 0 rfl rfl ?_
           refine p_payW rfl ?_
           refine wB 11 rfl y2 ?_
           iterate 3 refine p_payW rfl ?_
           refine wLd rfl tyS_api_Call 0 rfl rfl ?_
           refine wE (.int .i64 v.calls.length) rfl rfl rfl (fun aa ww hs _ => by have e15 := hs 15 _ rfl; have g15 := gt_of e15; simp only [execOp]; go_simp <;> omega) ?_
           refine p_payW rfl ?_
           refine wB 17 rfl y3 ?_
           iterate 4 refine p_payW rfl ?_
           refine wLd rfl tyint 0 rfl rfl ?_
           refine wBs (cs := [.int .i64 v.code]) rfl rfl rfl rfl Try.underlying125 tyint rfl (by decide) (by decide) (by kernel_rfl) fun b23 => ?_
           refine wC (l := [.pointer (some ⟨b, 0, none⟩), .int .i64 1, .slice (some ⟨b23, 0, none⟩) 1 1]) Try.func46 rfl (by kernel_rfl) (fun wc H => by have h := outNumsH H (ns := [v.code]) (wd := 1) (n := 1) (c := 1) (i := 3) (j := 0) rfl rfl rfl rfl (by decide) (by omega); rw [hg4] at h; exact h) rfl rfl rfl rfl ?_
           intro wc H
           rintro er wd ⟨rfl, fF1_19, H2⟩
           refine ⟨_, rfl, wkAt H2 ?_⟩
           clear H H2
           iterate 4 refine p_payW rfl ?_
           refine wLd rfl tyint 1 rfl rfl ?_
           refine p_payW rfl ?_
           refine wLd rfl tyint 1 rfl rfl ?_
           refine wBs (cs := [.int .i64 v.index, .int .i64 v.session]) rfl rfl rfl rfl Try.underlying125 tyint rfl (by decide) (by decide) (by kernel_rfl) fun b32 => ?_
           refine wC (l := [.pointer (some ⟨b, 0, none⟩), .slice (some ⟨b32, 0, none⟩) 2 2]) Try.func47 rfl (by kernel_rfl) (fun wc H => by have h := countsH H (ns := [v.index, v.session]) (n := 2) (c := 2) (i := 4) (j := 0) rfl rfl rfl rfl (by decide) (by omega); rw [y4] at h; exact h) rfl rfl rfl rfl ?_
           intro wc H
           rintro er wd ⟨rfl, fF1_28, H2⟩
           refine ⟨_, rfl, wkAt H2 ?_⟩
           clear H H2
           iterate 4 refine p_payW rfl ?_
           refine wLd rfl tyuint32 2 rfl rfl ?_
           refine wE (.int .i64 v.pass) rfl rfl rfl (fun aa ww hs _ => by have e38 := hs 38 _ rfl; have g38 := gt_of e38; simp only [execOp]; go_simp <;> omega) ?_
           refine wBs (cs := [.int .i64 v.pass]) rfl rfl rfl rfl Try.underlying125 tyint rfl (by decide) (by decide) (by kernel_rfl) fun b40 => ?_
           refine wC (l := [.pointer (some ⟨b, 0, none⟩), .int .i64 4, .slice (some ⟨b40, 0, none⟩) 1 1]) Try.func46 rfl (by kernel_rfl) (fun wc H => by have h := outNumsH H (ns := [v.pass]) (wd := 4) (n := 1) (c := 1) (i := 5) (j := 0) rfl rfl rfl rfl (by decide) (by omega); rw [hg6] at h; exact h) rfl rfl rfl rfl ?_
           intro wc H
           rintro er wd ⟨rfl, fF1_36, H2⟩
           refine ⟨_, rfl, wkAt H2 ?_⟩
           clear H H2
           iterate 4 refine p_payW rfl ?_
           refine wLd rfl tyS_api_Call 3 rfl rfl ?_
           refine wC (l := [.pointer (some ⟨b, 0, none⟩), .slice sa v.calls.length sc, .func (.func 48) #[] #[]]) Try.func79 rfl (by kernel_rfl) (fun wc H => by have h := listW b fF1_36 (m + 32) (((l ++ (encs 1 [v.code]).1) ++ (cntsV [v.index, v.session]).1) ++ (encs 4 [v.pass]).1) sa sc v.calls wc (H.out.at 5 rfl) (H.out.lt _ (List.mem_of_getElem? (show _ = some _ from rfl : [rB b40 3 [.int .i64 v.pass], rB b32 3 [.int .i64 v.index, .int .i64 v.session], rB b23 3 [.int .i64 v.code], rB b3 64 [.int .i64 v.seq, .int .i64 v.code, .int .i64 v.index, .int .i64 v.session, .int .u32 v.pass, .slice sa v.calls.length sc], rS sa sc 8 (v.calls.map callRow), rOut b fF1_36 (m + 32) (((l ++ (encs 1 [v.code]).1) ++ (cntsV [v.index, v.session]).1) ++ (encs 4 [v.pass]).1)][5]? = some _))) (hp_held H (by (repeat (first | exact List.Mem.head _ | apply List.Mem.tail)))) (Hp.two H.out (i := 4) (j := 5) rfl rfl (by decide) rfl) (by omega) (by omega); rw [y5] at h; exact h) rfl rfl rfl rfl ?_
           intro wc H
           rintro er wd ⟨rfl, hof, _⟩
           have H2 := hp_lost H (i := 5) rfl hof
           refine ⟨_, rfl, wkAt H2 ?_⟩
           clear H H2 hof
           iterate 2 refine p_payW rfl ?_
           refine wN ?_
           refine tN (wKK hK2 ?_)
           refine wRet ?_
           exact wR1 rfl rfl (fun ww H => ⟨congrArg (fun z => Ending.returned (.bool z)) (show false = payOk v by simp only [pay_is, y5, Bool.and_false, Bool.false_and]), H.out.off, fun h => by rw [← (show false = payOk v by simp only [pay_is, y5, Bool.and_false, Bool.false_and])] at h; cases h⟩)
       · skip
         refine wReg ?_
         refine p_payW rfl ?_
         refine wLd rfl tyint 0 rfl rfl ?_
         refine p_payW rfl ?_
         refine wB 7 rfl y1 ?_
         iterate 2 refine p_payW rfl ?_
         refine wLd rfl tyint 0 rfl rfl ?_
         refine p_payW rfl ?_
         refine wB 11 rfl y2 ?_
         iterate 3 refine p_payW rfl ?_
         refine wLd rfl tyS_api_Call 0 rfl rfl ?_
         refine wE (.int .i64 v.calls.length) rfl rfl rfl (fun aa ww hs _ => by have e15 := hs 15 _ rfl; have g15 := gt_of e15; simp only [execOp]; go_simp <;> omega) ?_
         refine p_payW rfl ?_
         refine wB 17 rfl y3 ?_
         iterate 4 refine p_payW rfl ?_
         refine wLd rfl tyint 0 rfl rfl ?_
         refine wBs (cs := [.int .i64 v.code]) rfl rfl rfl rfl Try.underlying125 tyint rfl (by decide) (by decide) (by kernel_rfl) fun b23 => ?_
         refine wC (l := [.pointer (some ⟨b, 0, none⟩), .int .i64 1, .slice (some ⟨b23, 0, none⟩) 1 1]) Try.func46 rfl (by kernel_rfl) (fun wc H => by have h := outNumsH H (ns := [v.code]) (wd := 1) (n := 1) (c := 1) (i := 3) (j := 0) rfl rfl rfl rfl (by decide) (by omega); rw [hg4] at h; exact h) rfl rfl rfl rfl ?_
         intro wc H
         rintro er wd ⟨rfl, fF1_19, H2⟩
         refine ⟨_, rfl, wkAt H2 ?_⟩
         clear H H2
         iterate 4 refine p_payW rfl ?_
         refine wLd rfl tyint 1 rfl rfl ?_
         refine p_payW rfl ?_
         refine wLd rfl tyint 1 rfl rfl ?_
         refine wBs (cs := [.int .i64 v.index, .int .i64 v.session]) rfl rfl rfl rfl Try.underlying125 tyint rfl (by decide) (by decide) (by kernel_rfl) fun b32 => ?_
         refine wC (l := [.pointer (some ⟨b, 0, none⟩), .slice (some ⟨b32, 0, none⟩) 2 2]) Try.func47 rfl (by kernel_rfl) (fun wc H => by have h := countsH H (ns := [v.index, v.session]) (n := 2) (c := 2) (i := 4) (j := 0) rfl rfl rfl rfl (by decide) (by omega); rw [y4] at h; exact h) rfl rfl rfl rfl ?_
         intro wc H
         rintro er wd ⟨rfl, fF1_28, H2⟩
         refine ⟨_, rfl, wkAt H2 ?_⟩
         clear H H2
         iterate 16 refine p_payW rfl ?_
         refine wN ?_
         refine tN (wKK hK2 ?_)
         refine wRet ?_
         exact wR1 rfl rfl (fun ww H => ⟨congrArg (fun z => Ending.returned (.bool z)) (show false = payOk v by simp only [pay_is, y4, Bool.and_false, Bool.false_and]), H.out.off, fun h => by rw [← (show false = payOk v by simp only [pay_is, y4, Bool.and_false, Bool.false_and])] at h; cases h⟩)
     · skip
       have y3d : ¬ ((v.calls.length : Int) ≤ 64) := of_decide_eq_false y3
       refine wReg ?_
       refine p_payW rfl ?_
       refine wLd rfl tyint 0 rfl rfl ?_
       refine p_payW rfl ?_
       refine wB 7 rfl y1 ?_
       iterate 2 refine p_payW rfl ?_
       refine wLd rfl tyint 0 rfl rfl ?_
       refine p_payW rfl ?_
       refine wB 11 rfl y2 ?_
       iterate 3 refine p_payW rfl ?_
       refine wLd rfl tyS_api_Call 0 rfl rfl ?_
       refine wE (.int .i64 v.calls.length) rfl rfl rfl (fun aa ww hs _ => by have e15 := hs 15 _ rfl; have g15 := gt_of e15; simp only [execOp]; go_simp <;> omega) ?_
       refine p_payW rfl ?_
       refine wB 17 rfl y3 ?_
       iterate 32 refine p_payW rfl ?_
       refine wN ?_
       refine tN (wKK hK2 ?_)
       refine wRet ?_
       exact wR1 rfl rfl (fun ww H => ⟨congrArg (fun z => Ending.returned (.bool z)) (show false = payOk v by simp only [pay_is, y3, Bool.and_false, Bool.false_and]), H.out.off, fun h => by rw [← (show false = payOk v by simp only [pay_is, y3, Bool.and_false, Bool.false_and])] at h; cases h⟩)
   · skip
     have y2d : ¬ (v.code ≤ 11) := of_decide_eq_false y2
     refine wReg ?_
     refine p_payW rfl ?_
     refine wLd rfl tyint 0 rfl rfl ?_
     refine p_payW rfl ?_
     refine wB 7 rfl y1 ?_
     iterate 2 refine p_payW rfl ?_
     refine wLd rfl tyint 0 rfl rfl ?_
     refine p_payW rfl ?_
     refine wB 11 rfl y2 ?_
     iterate 38 refine p_payW rfl ?_
     refine wN ?_
     refine tN (wKK hK2 ?_)
     refine wRet ?_
     exact wR1 rfl rfl (fun ww H => ⟨congrArg (fun z => Ending.returned (.bool z)) (show false = payOk v by simp only [pay_is, y2, Bool.and_false, Bool.false_and]), H.out.off, fun h => by rw [← (show false = payOk v by simp only [pay_is, y2, Bool.and_false, Bool.false_and])] at h; cases h⟩)
 · skip
   have y1d : ¬ (0 ≤ v.code) := of_decide_eq_false y1
   refine wReg ?_
   refine p_payW rfl ?_
   refine wLd rfl tyint 0 rfl rfl ?_
   refine p_payW rfl ?_
   refine wB 7 rfl y1 ?_
   iterate 42 refine p_payW rfl ?_
   refine wN ?_
   refine tN (wKK hK2 ?_)
   refine wRet ?_
   exact wR1 rfl rfl (fun ww H => ⟨congrArg (fun z => Ending.returned (.bool z)) (show false = payOk v by simp only [pay_is, y1, Bool.and_false, Bool.false_and]), H.out.off, fun h => by rw [← (show false = payOk v by simp only [pay_is, y1, Bool.and_false, Bool.false_and])] at h; cases h⟩)
def tab_encodeC : Wk.Tab := [(64, 0, 0)]
theorem p_encodeC {ops : Array Oper} {rest : List Oper} {o : Oper} {w0 : World} {Q : Exit → Act → World → Prop} {S : List Nat} {R : List Res} {K K' : Wk.Env} {N : Nat} (h : Wk.stp tab_encodeC N ops K o = some K') (n : Wk.Wk N S w0 K' R (wpList Try.prog ops Q rest)) : Wk.Wk N S w0 K R (wpList Try.prog ops Q (o :: rest)) := Wk.wP (T := tab_encodeC) (by kernel_rfl) h n
set_option maxHeartbeats 16000000 in
set_option maxRecDepth 20000 in
theorem encodeC (v : AnsV) (sa : Option Addr) (sc : Nat) (w : World) (hS : (rS sa sc 8 (v.calls.map callRow)).holds w) (hp : 0 ≤ v.pass ∧ v.pass ≤ 4294967295) : Calls Try.prog 30 #[.agg #[.int .i64 v.seq, .int .i64 v.code, .int .i64 v.index, .int .i64 v.session, .int .u32 v.pass, .slice sa v.calls.length sc]] w fun e w' => e = .returned (.tuple #[.string (encodeV v).1, .int .i64 (encodeV v).2]) ∧ Off [] w w' := by
 have H := Lib.hid (Hp.start [] w)
 have H := hp_old H hS (by decide)
 clear hS
 refine wStart (args := [.agg #[.int .i64 v.seq, .int .i64 v.code, .int .i64 v.index, .int .i64 v.session, .int .u32 v.pass, .slice sa v.calls.length sc]]) Try.func30 rfl rfl rfl H ?_
 clear H
 show Wk 27 _ _ [(0, .agg #[.int .i64 v.seq, .int .i64 v.code, .int .i64 v.index, .int .i64 v.session, .int .u32 v.pass, .slice sa v.calls.length sc])] _ _
 have hk1 : (encs 1 [128]).2 = true := rfl
 refine wSeqK fun KK1 hK1 => ?_
 refine wReg ?_
 refine wBx rfl rfl rfl fun b1 => ?_
 iterate 2 refine p_encodeC rfl ?_
 refine wN ?_
 refine tN (wKK hK1 ?_)
 refine wSeqK fun KK2 hK2 => ?_
 refine wReg ?_
 refine wE (.agg #[.slice none 0 0]) rfl rfl rfl (fun aa ww hs _ => by simp only [execOp]; go_simp <;> omega) ?_
 refine wBx rfl rfl rfl fun b6 => ?_
 refine p_encodeC rfl ?_
 refine wN ?_
 intro aa ww nn dd hs H
 replace H := outNewH H
 refine wIn nn dd hs H ?_
 refine tN (wKK hK2 ?_)
 refine wSeqK fun KK3 hK3 => ?_
 refine wSeqK fun KK4 hK4 => ?_
 rcases Bool.eq_false_or_eq_true ((cntsV [v.seq]).2) with y1 | y1
 · skip
   rcases Bool.eq_false_or_eq_true (payOk v) with y2 | y2
   · skip
     refine wReg ?_
     refine p_encodeC rfl ?_
     refine wBs (cs := [.int .i64 128]) rfl rfl rfl rfl Try.underlying125 tyint rfl (by decide) (by decide) (by kernel_rfl) fun b8 => ?_
     refine wC (l := [.pointer (some ⟨b6, 0, none⟩), .int .i64 1, .slice (some ⟨b8, 0, none⟩) 1 1]) Try.func46 rfl (by kernel_rfl) (fun wc H => by have h := outNumsH H (ns := [128]) (wd := 1) (n := 1) (c := 1) (i := 1) (j := 0) rfl rfl rfl rfl (by decide) (by decide); rw [hk1] at h; exact h) rfl rfl rfl rfl ?_
     intro wc H
     rintro er wd ⟨rfl, fF2_2, H2⟩
     refine ⟨_, rfl, wkAt H2 ?_⟩
     clear H H2
     iterate 4 refine p_encodeC rfl ?_
     refine wLd rfl tyint 2 rfl rfl ?_
     refine wBs (cs := [.int .i64 v.seq]) rfl rfl rfl rfl Try.underlying125 tyint rfl (by decide) (by decide) (by kernel_rfl) fun b15 => ?_
     refine wC (l := [.pointer (some ⟨b6, 0, none⟩), .slice (some ⟨b15, 0, none⟩) 1 1]) Try.func47 rfl (by kernel_rfl) (fun wc H => by have h := countsH H (ns := [v.seq]) (n := 1) (c := 1) (i := 2) (j := 0) rfl rfl rfl rfl (by decide) (by decide); rw [y1] at h; exact h) rfl rfl rfl rfl ?_
     intro wc H
     rintro er wd ⟨rfl, fF2_9, H2⟩
     refine ⟨_, rfl, wkAt H2 ?_⟩
     clear H H2
     iterate 4 refine p_encodeC rfl ?_
     refine wLr rfl tynote_Answer 3 rfl [.int .i64 v.seq, .int .i64 v.code, .int .i64 v.index, .int .i64 v.session, .int .u32 v.pass, .slice sa v.calls.length sc] rfl rfl ?_
     refine wC (l := [.pointer (some ⟨b6, 0, none⟩), .agg #[.int .i64 v.seq, .int .i64 v.code, .int .i64 v.index, .int .i64 v.session, .int .u32 v.pass, .slice sa v.calls.length sc]]) Try.func56 rfl (by kernel_rfl) (fun wc H => by have h := payW b6 fF2_9 16 ((([]) ++ (encs 1 [128]).1) ++ (cntsV [v.seq]).1) v sa sc wc (H.out.at 2 rfl) (H.out.lt _ (List.mem_of_getElem? (show _ = some _ from rfl : [rB b15 3 [.int .i64 v.seq], rB b8 3 [.int .i64 128], rOut b6 fF2_9 16 ((([]) ++ (encs 1 [128]).1) ++ (cntsV [v.seq]).1), rB b1 64 [.int .i64 v.seq, .int .i64 v.code, .int .i64 v.index, .int .i64 v.session, .int .u32 v.pass, .slice sa v.calls.length sc], rS sa sc 8 (v.calls.map callRow)][2]? = some _))) (hp_held H (by (repeat (first | exact List.Mem.head _ | apply List.Mem.tail)))) (Hp.two H.out (i := 4) (j := 2) rfl rfl (by decide) rfl) (by decide) hp; rw [y2] at h; exact h) rfl rfl rfl rfl ?_
     intro wc H
     rintro er wd ⟨rfl, hof, hpu⟩
     obtain ⟨fF2_15, H2⟩ := hp_put H (i := 2) rfl (hpu rfl)
     refine ⟨_, rfl, wkAt H2 ?_⟩
     clear H H2 hof
     iterate 2 refine p_encodeC rfl ?_
     refine wN ?_
     refine tN (wKK hK4 ?_)
     refine wCf rfl ?_
     refine wSk ?_
     refine tN (wKK hK3 ?_)
     refine wSeqK fun KK5 hK5 => ?_
     refine wReg ?_
     refine p_encodeC rfl ?_
     refine wQ (l := [.pointer (some ⟨b6, 0, none⟩)]) Try.func49 rfl (by kernel_rfl) (.string (str (((([]) ++ (encs 1 [128]).1) ++ (cntsV [v.seq]).1) ++ payB v))) (fun wc H => off_of_eq (outStringH H (i := 2) rfl)) rfl rfl rfl rfl ?_
     iterate 2 refine p_encodeC rfl ?_
     refine wN ?_
     refine tN (wKK hK5 ?_)
     refine wRet ?_
     exact wR2 rfl rfl rfl (fun ww H => ⟨by rw [enc_yes y1 y2], H.out.off⟩)
   · skip
     refine wReg ?_
     refine p_encodeC rfl ?_
     refine wBs (cs := [.int .i64 128]) rfl rfl rfl rfl Try.underlying125 tyint rfl (by decide) (by decide) (by kernel_rfl) fun b8 => ?_
     refine wC (l := [.pointer (some ⟨b6, 0, none⟩), .int .i64 1, .slice (some ⟨b8, 0, none⟩) 1 1]) Try.func46 rfl (by kernel_rfl) (fun wc H => by have h := outNumsH H (ns := [128]) (wd := 1) (n := 1) (c := 1) (i := 1) (j := 0) rfl rfl rfl rfl (by decide) (by decide); rw [hk1] at h; exact h) rfl rfl rfl rfl ?_
     intro wc H
     rintro er wd ⟨rfl, fF2_2, H2⟩
     refine ⟨_, rfl, wkAt H2 ?_⟩
     clear H H2
     iterate 4 refine p_encodeC rfl ?_
     refine wLd rfl tyint 2 rfl rfl ?_
     refine wBs (cs := [.int .i64 v.seq]) rfl rfl rfl rfl Try.underlying125 tyint rfl (by decide) (by decide) (by kernel_rfl) fun b15 => ?_
     refine wC (l := [.pointer (some ⟨b6, 0, none⟩), .slice (some ⟨b15, 0, none⟩) 1 1]) Try.func47 rfl (by kernel_rfl) (fun wc H => by have h := countsH H (ns := [v.seq]) (n := 1) (c := 1) (i := 2) (j := 0) rfl rfl rfl rfl (by decide) (by decide); rw [y1] at h; exact h) rfl rfl rfl rfl ?_
     intro wc H
     rintro er wd ⟨rfl, fF2_9, H2⟩
     refine ⟨_, rfl, wkAt H2 ?_⟩
     clear H H2
     iterate 4 refine p_encodeC rfl ?_
     refine wLr rfl tynote_Answer 3 rfl [.int .i64 v.seq, .int .i64 v.code, .int .i64 v.index, .int .i64 v.session, .int .u32 v.pass, .slice sa v.calls.length sc] rfl rfl ?_
     refine wC (l := [.pointer (some ⟨b6, 0, none⟩), .agg #[.int .i64 v.seq, .int .i64 v.code, .int .i64 v.index, .int .i64 v.session, .int .u32 v.pass, .slice sa v.calls.length sc]]) Try.func56 rfl (by kernel_rfl) (fun wc H => by have h := payW b6 fF2_9 16 ((([]) ++ (encs 1 [128]).1) ++ (cntsV [v.seq]).1) v sa sc wc (H.out.at 2 rfl) (H.out.lt _ (List.mem_of_getElem? (show _ = some _ from rfl : [rB b15 3 [.int .i64 v.seq], rB b8 3 [.int .i64 128], rOut b6 fF2_9 16 ((([]) ++ (encs 1 [128]).1) ++ (cntsV [v.seq]).1), rB b1 64 [.int .i64 v.seq, .int .i64 v.code, .int .i64 v.index, .int .i64 v.session, .int .u32 v.pass, .slice sa v.calls.length sc], rS sa sc 8 (v.calls.map callRow)][2]? = some _))) (hp_held H (by (repeat (first | exact List.Mem.head _ | apply List.Mem.tail)))) (Hp.two H.out (i := 4) (j := 2) rfl rfl (by decide) rfl) (by decide) hp; rw [y2] at h; exact h) rfl rfl rfl rfl ?_
     intro wc H
     rintro er wd ⟨rfl, hof, _⟩
     have H2 := hp_lost H (i := 2) rfl hof
     refine ⟨_, rfl, wkAt H2 ?_⟩
     clear H H2 hof
     iterate 2 refine p_encodeC rfl ?_
     refine wN ?_
     refine tN (wKK hK4 ?_)
     refine wCt rfl ?_
     refine wSeqK fun KK6 hK6 => ?_
     refine wReg ?_
     iterate 2 refine p_encodeC rfl ?_
     refine wN ?_
     refine tN (wKK hK6 ?_)
     refine wRet ?_
     refine tR ?_
     exact wR2 rfl rfl rfl (fun ww H => ⟨by rw [enc_no2 y2], H.out.off⟩)
 · skip
   refine wReg ?_
   refine p_encodeC rfl ?_
   refine wBs (cs := [.int .i64 128]) rfl rfl rfl rfl Try.underlying125 tyint rfl (by decide) (by decide) (by kernel_rfl) fun b8 => ?_
   refine wC (l := [.pointer (some ⟨b6, 0, none⟩), .int .i64 1, .slice (some ⟨b8, 0, none⟩) 1 1]) Try.func46 rfl (by kernel_rfl) (fun wc H => by have h := outNumsH H (ns := [128]) (wd := 1) (n := 1) (c := 1) (i := 1) (j := 0) rfl rfl rfl rfl (by decide) (by decide); rw [hk1] at h; exact h) rfl rfl rfl rfl ?_
   intro wc H
   rintro er wd ⟨rfl, fF2_2, H2⟩
   refine ⟨_, rfl, wkAt H2 ?_⟩
   clear H H2
   iterate 4 refine p_encodeC rfl ?_
   refine wLd rfl tyint 2 rfl rfl ?_
   refine wBs (cs := [.int .i64 v.seq]) rfl rfl rfl rfl Try.underlying125 tyint rfl (by decide) (by decide) (by kernel_rfl) fun b15 => ?_
   refine wC (l := [.pointer (some ⟨b6, 0, none⟩), .slice (some ⟨b15, 0, none⟩) 1 1]) Try.func47 rfl (by kernel_rfl) (fun wc H => by have h := countsH H (ns := [v.seq]) (n := 1) (c := 1) (i := 2) (j := 0) rfl rfl rfl rfl (by decide) (by decide); rw [y1] at h; exact h) rfl rfl rfl rfl ?_
   intro wc H
   rintro er wd ⟨rfl, fF2_9, H2⟩
   refine ⟨_, rfl, wkAt H2 ?_⟩
   clear H H2
   iterate 8 refine p_encodeC rfl ?_
   refine wN ?_
   refine tN (wKK hK4 ?_)
   refine wCt rfl ?_
   refine wSeqK fun KK7 hK7 => ?_
   refine wReg ?_
   iterate 2 refine p_encodeC rfl ?_
   refine wN ?_
   refine tN (wKK hK7 ?_)
   refine wRet ?_
   refine tR ?_
   exact wR2 rfl rfl rfl (fun ww H => ⟨by rw [enc_no1 y1], H.out.off⟩)
def tab_payloadC : Wk.Tab := []
theorem p_payloadC {ops : Array Oper} {rest : List Oper} {o : Oper} {w0 : World} {Q : Exit → Act → World → Prop} {S : List Nat} {R : List Res} {K K' : Wk.Env} {N : Nat} (h : Wk.stp tab_payloadC N ops K o = some K') (n : Wk.Wk N S w0 K' R (wpList Try.prog ops Q rest)) : Wk.Wk N S w0 K R (wpList Try.prog ops Q (o :: rest)) := Wk.wP (T := tab_payloadC) (by kernel_rfl) h n
set_option maxHeartbeats 16000000 in
set_option maxRecDepth 20000 in
theorem payloadC (v : AnsV) (sa : Option Addr) (sc : Nat) (w : World) (hS : (rS sa sc 8 (v.calls.map callRow)).holds w) (hp : 0 ≤ v.pass ∧ v.pass ≤ 4294967295) : Calls Try.prog 32 #[.agg #[.int .i64 v.seq, .int .i64 v.code, .int .i64 v.index, .int .i64 v.session, .int .u32 v.pass, .slice sa v.calls.length sc]] w fun e w' => e = .returned (.string (payloadV v)) ∧ Off [] w w' := by
 have H := Lib.hid (Hp.start [] w)
 have H := hp_old H hS (by decide)
 clear hS
 refine wStart (args := [.agg #[.int .i64 v.seq, .int .i64 v.code, .int .i64 v.index, .int .i64 v.session, .int .u32 v.pass, .slice sa v.calls.length sc]]) Try.func32 rfl rfl rfl H ?_
 clear H
 show Wk 23 _ _ [(0, .agg #[.int .i64 v.seq, .int .i64 v.code, .int .i64 v.index, .int .i64 v.session, .int .u32 v.pass, .slice sa v.calls.length sc])] _ _
 refine wSeqK fun KK1 hK1 => ?_
 refine wReg ?_
 refine wBx rfl rfl rfl fun b1 => ?_
 refine p_payloadC rfl ?_
 refine wN ?_
 refine tN (wKK hK1 ?_)
 refine wSeqK fun KK2 hK2 => ?_
 refine wReg ?_
 refine wE (.agg #[.slice none 0 0]) rfl rfl rfl (fun aa ww hs _ => by simp only [execOp]; go_simp <;> omega) ?_
 refine wBx rfl rfl rfl fun b7 => ?_
 refine p_payloadC rfl ?_
 refine wN ?_
 intro aa ww nn dd hs H
 replace H := outNewH H
 refine wIn nn dd hs H ?_
 refine tN (wKK hK2 ?_)
 refine wSeqK fun KK3 hK3 => ?_
 refine wSeqK fun KK4 hK4 => ?_
 refine wReg ?_
 refine wLr rfl tynote_Answer 1 rfl [.int .i64 v.seq, .int .i64 v.code, .int .i64 v.index, .int .i64 v.session, .int .u32 v.pass, .slice sa v.calls.length sc] rfl rfl ?_
 refine wQ (l := [.agg #[.int .i64 v.seq, .int .i64 v.code, .int .i64 v.index, .int .i64 v.session, .int .u32 v.pass, .slice sa v.calls.length sc]]) Try.func30 rfl (by kernel_rfl) (.tuple #[.string ((encodeV v).1), .int .i64 ((encodeV v).2)]) (fun wc H => encodeC v sa sc wc (hp_held H (by (repeat (first | exact List.Mem.head _ | apply List.Mem.tail)))) hp) rfl rfl rfl rfl ?_
 iterate 5 refine p_payloadC rfl ?_
 refine wN ?_
 refine tN (wKK hK4 ?_)
 refine wSeqK fun KK5 hK5 => ?_
 rcases Bool.eq_false_or_eq_true ((encodeV v).2 != 0) with y1 | y1
 · skip
   have y1o : ((encodeV v).2 == 0) = false := neq_t y1
   refine wReg ?_
   iterate 2 refine p_payloadC rfl ?_
   refine wB 14 rfl y1 ?_
   iterate 6 refine p_payloadC rfl ?_
   refine wN ?_
   refine tN (wKK hK5 ?_)
   refine wCt rfl ?_
   refine wSeqK fun KK6 hK6 => ?_
   refine wReg ?_
   refine p_payloadC rfl ?_
   refine wN ?_
   refine tN (wKK hK6 ?_)
   refine wRet ?_
   refine tR ?_
   exact wR1 rfl rfl (fun ww H => ⟨by rw [payl_no y1], H.out.off⟩)
 · skip
   have y1o : (((encodeV v).2) == 0) = true := neq_f y1
   intro aa ww nn dd hs H
   have hpk := (payl_ok y1).2
   refine wIn nn dd hs H ?_
   refine wReg ?_
   iterate 2 refine p_payloadC rfl ?_
   refine wB 14 rfl y1 ?_
   iterate 2 refine p_payloadC rfl ?_
   refine wLr rfl tynote_Answer 1 rfl [.int .i64 v.seq, .int .i64 v.code, .int .i64 v.index, .int .i64 v.session, .int .u32 v.pass, .slice sa v.calls.length sc] rfl rfl ?_
   refine wC (l := [.pointer (some ⟨b7, 0, none⟩), .agg #[.int .i64 v.seq, .int .i64 v.code, .int .i64 v.index, .int .i64 v.session, .int .u32 v.pass, .slice sa v.calls.length sc]]) Try.func56 rfl (by kernel_rfl) (fun wc H => by have h := payW b7 ([b7]) 0 ([]) v sa sc wc (H.out.at 0 rfl) (H.out.lt _ (List.mem_of_getElem? (show _ = some _ from rfl : [rOut b7 ([b7]) 0 ([]), rB b1 64 [.int .i64 v.seq, .int .i64 v.code, .int .i64 v.index, .int .i64 v.session, .int .u32 v.pass, .slice sa v.calls.length sc], rS sa sc 8 (v.calls.map callRow)][0]? = some _))) (hp_held H (by (repeat (first | exact List.Mem.head _ | apply List.Mem.tail)))) (Hp.two H.out (i := 2) (j := 0) rfl rfl (by decide) rfl) (by decide) hp; rw [hpk] at h; exact h) rfl rfl rfl rfl ?_
   intro wc H
   rintro er wd ⟨rfl, hof, hpu⟩
   obtain ⟨fF3_5, H2⟩ := hp_put H (i := 0) rfl (hpu rfl)
   refine ⟨_, rfl, wkAt H2 ?_⟩
   clear H H2 hof
   iterate 2 refine p_payloadC rfl ?_
   refine wN ?_
   refine tN (wKK hK5 ?_)
   refine wCf rfl ?_
   refine wSk ?_
   refine tN (wKK hK3 ?_)
   refine wSeqK fun KK7 hK7 => ?_
   refine wReg ?_
   refine p_payloadC rfl ?_
   refine wQ (l := [.pointer (some ⟨b7, 0, none⟩)]) Try.func49 rfl (by kernel_rfl) (.string (str (([]) ++ payB v))) (fun wc H => off_of_eq (outStringH H (i := 0) rfl)) rfl rfl rfl rfl ?_
   refine p_payloadC rfl ?_
   refine wN ?_
   refine tN (wKK hK7 ?_)
   refine wRet ?_
   exact wR1 rfl rfl (fun ww H => ⟨by rw [(payl_ok y1).1], H.out.off⟩)
end Go.Proofs.Ytloemjhhedkhiaa.Nt
