/- Layer 9: what is fixed by number. -/
import Derived.Test.YtnanihffljpdbaaProg
import Derived.Below
import Derived.WalkKit
import Derived.KernelRfl
import Derived.RowKit3
import Derived.Deep.LoopGhost
import Derived.Deep.QuietTactic
import Derived.BigQuiet
import Derived.WideLaws
import Derived.Deep.DeepCutAuto
import Derived.Deep.CutBlock
import Derived.Lib.Hide
import Derived.Laws.BitsLemmas
import Derived.Laws.Bits64
import Derived.Laws.BitsAllLaws
import Derived.IntWalk
import Derived.Outline
import Derived.WalkSpells
import Derived.Test.YtnanihffljpdbaaGA
import Derived.Test.YtnanihffljpdbaaBq
namespace Go.Proofs.Ytnanihffljpdbaa.Bk
open Go.RowKit Go.Proofs.Ytnanihffljpdbaa.Mem Go.Proofs.Ytnanihffljpdbaa.Reg Go.Proofs.Ytnanihffljpdbaa.Wk Go.Proofs.Ytnanihffljpdbaa.Si Go.Proofs.Ytnanihffljpdbaa.Ca Go.Proofs.Ytnanihffljpdbaa.Sc6
set_option linter.unusedVariables false
set_option linter.unusedSimpArgs false

def k5 : CallV × Bool := findV k3.1 1
def tab_awake9 : Wk.Tab := [(38, 0, 0), (38, 5, 5), (38, 7, 7), (40, 0, 0), (40, 1, 1)]
theorem p_awake9 {ops : Array Oper} {rest : List Oper} {o : Oper} {w0 : World} {Q : Exit → Act → World → Prop} {S : List Nat} {R : List Res} {K K' : Wk.Env} {N : Nat} (h : Wk.stp tab_awake9 N ops K o = some K') (n : Wk.Wk N S w0 K' R (wpList Try.prog ops Q rest)) : Wk.Wk N S w0 K R (wpList Try.prog ops Q (o :: rest)) := Wk.wP (T := tab_awake9) (by kernel_rfl) h n
set_option maxHeartbeats 16000000 in
set_option maxRecDepth 20000 in
theorem awake9  (w : World) : Calls Try.prog 9 #[] w fun e w' => e = .returned (.bool true) ∧ Off [] w w' := by
 have H := Lib.hid (Hp.start [] w)
 refine wStart (args := []) Try.func9 rfl rfl rfl H ?_
 clear H
 show Wk 125 _ _ [] _ _
 have hI0 : Hid (InvB (newB smallV)) := Lib.hid (inv_new smallV)
 have hI1 : Hid (InvB k1.1) := Lib.hid k1_inv
 have hI3 : Hid (InvB k3.1) := Lib.hid k3_inv
 have q1 : ((k1.2.2) == 0) = true := by kernel_rfl
 have q2 : (((k1.2.1).index) == 1) = true := by kernel_rfl
 have q3 : ((((k1.2.1).call).id) == 1) = true := by kernel_rfl
 have q4 : ((((k1.2.1).call).born) == 3) = true := by kernel_rfl
 have q5 : ((k2.2.2) == 8) = true := by kernel_rfl
 have q6 : ((k3.2.2) == 0) = true := by kernel_rfl
 have q7 : ((((k3.2.1).call).state) == 5) = true := by kernel_rfl
 have q8 : (findV (k3.1) 1).2 = true := by kernel_rfl
 have q9 : (decide (k5.1 = k3.2.1.call)) = true := by kernel_rfl
 have q10 : (((liveV k3.1).length : Int) == 0) = true := by kernel_rfl
 have q11 : ((k3.1).done.length == 1) = true := by kernel_rfl
 have q12 : ((k3.1).index == 2) = true := by kernel_rfl
 have q13 : ((newB smallV).index == 0) = true := by kernel_rfl
 have q14 : modeV (newB smallV) 1 = 1 := by kernel_rfl
 refine wSeqK fun KK1 hK1 => ?_
 refine wReg ?_
 refine p_awake9 rfl ?_
 refine wN ?_
 refine tN (wKK hK1 ?_)
 refine wSeqK fun KK2 hK2 => ?_
 refine wReg ?_
 refine wQ (l := []) Try.func40 rfl (by kernel_rfl) (.agg (cA smallV)) (fun wc H => smallC wc) rfl rfl rfl rfl ?_
 refine wC (l := [.agg (cA smallV)]) Try.func10 rfl (by kernel_rfl) (fun wc H => newBC smallV wc) rfl rfl rfl rfl ?_
 intro wc H
 rintro er wd ⟨la1_1, lc1_1, da1_1, dc1_1, rfl, hg⟩
 have H2 := hp_gotB H hg.2.2.2.2 hg.1 hg.2.1 (by decide) (by decide) hg.2.2.1 hg.2.2.2.1 (fun r hr => by cases hr)
 refine ⟨_, rfl, wkAt H2 ?_⟩
 clear H H2
 refine wAl rfl rfl tybook_Book fun b1 => ?_
 refine wSr rfl tybook_Book 0 rfl rfl rfl rfl (bkL ((newB smallV).conf) ((newB smallV).index) ((newB smallV).room) (.slice la1_1 ((newB smallV).live.length) lc1_1) (.slice da1_1 ((newB smallV).done.length) dc1_1) ((newB smallV).modes)) (by first | rfl | (simp only [spl]; rfl)) ?_
 refine wN ?_
 refine tN (wKK hK2 ?_)
 refine wSeqK fun KK3 hK3 => ?_
 refine wReg ?_
 refine wLr rfl tybook_Book 0 rfl (bkL ((newB smallV).conf) ((newB smallV).index) ((newB smallV).room) (.slice la1_1 ((newB smallV).live.length) lc1_1) (.slice da1_1 ((newB smallV).done.length) dc1_1) ((newB smallV).modes)) rfl rfl ?_
 refine wE (.agg #[.int .i64 0, .int .i64 1, .int .i64 2, .int .i64 0, .int .i64 0, .int .i64 0, .int .i64 0, .int .i64 0]) rfl rfl rfl (fun aa ww hs _ => by simp only [execOp]; go_simp <;> first | rfl | omega) ?_
 refine wC (l := [.agg (bkA ((newB smallV).conf) ((newB smallV).index) ((newB smallV).room) (.slice la1_1 ((newB smallV).live.length) lc1_1) (.slice da1_1 ((newB smallV).done.length) dc1_1) ((newB smallV).modes)), .agg #[.int .i64 0, .int .i64 1, .int .i64 2, .int .i64 0, .int .i64 0, .int .i64 0, .int .i64 0, .int .i64 0], .int .i64 7, .int .i64 3]) Try.func13 rfl (by kernel_rfl) (fun wc H => placeC (newB smallV) la1_1 lc1_1 da1_1 dc1_1 (⟨0, 1, 2, 0, 0, 0, 0, 0⟩ : CallV) 7 3 wc (hp_held H (by (repeat (first | exact List.Mem.head _ | apply List.Mem.tail)))) (hp_held H (by (repeat (first | exact List.Mem.head _ | apply List.Mem.tail)))) (Lib.hid hI0.out.ok) ) rfl rfl rfl rfl ?_
 intro wc H
 rintro er wd ⟨la2_2, lc2_2, da2_2, dc2_2, rfl, hg⟩
 have H2 := hp_gotB H hg.2.2.2.2 hg.1 hg.2.1 (by decide) (by decide) hg.2.2.1 hg.2.2.2.1 (List.forall_mem_cons.2 ⟨(by (repeat (first | exact List.Mem.head _ | apply List.Mem.tail))), List.forall_mem_cons.2 ⟨(by (repeat (first | exact List.Mem.head _ | apply List.Mem.tail))), fun _ h => by cases h⟩⟩)
 refine ⟨_, rfl, wkAt H2 ?_⟩
 clear H H2
 iterate 4 refine p_awake9 rfl ?_
 refine wAl rfl rfl tybook_Book fun b2 => ?_
 refine wAl rfl rfl tyapi_Change fun b3 => ?_
 refine wSr rfl tybook_Book 1 rfl rfl rfl rfl (bkL ((k1.1).conf) ((k1.1).index) ((k1.1).room) (.slice la2_2 ((k1.1).live.length) lc2_2) (.slice da2_2 ((k1.1).done.length) dc2_2) ((k1.1).modes)) (by first | rfl | (simp only [spl]; rfl)) ?_
 refine wSr rfl tyapi_Change 0 rfl rfl rfl rfl (chL (k1.2.1)) (by first | rfl | (simp only [spl]; rfl)) ?_
 refine p_awake9 rfl ?_
 refine wN ?_
 refine tN (wKK hK3 ?_)
 refine wSeqK fun KK4 hK4 => ?_
 refine wReg ?_
 refine wLr rfl tybook_Book 1 rfl (bkL ((k1.1).conf) ((k1.1).index) ((k1.1).room) (.slice la2_2 ((k1.1).live.length) lc2_2) (.slice da2_2 ((k1.1).done.length) dc2_2) ((k1.1).modes)) rfl rfl ?_
 refine wC (l := [.agg (bkA ((k1.1).conf) ((k1.1).index) ((k1.1).room) (.slice la2_2 ((k1.1).live.length) lc2_2) (.slice da2_2 ((k1.1).done.length) dc2_2) ((k1.1).modes)), .int .i64 1, .int .i64 8]) Try.func14 rfl (by kernel_rfl) (fun wc H => cancelBC (k1.1) la2_2 lc2_2 da2_2 dc2_2 1 8 wc (hp_held H (by (repeat (first | exact List.Mem.head _ | apply List.Mem.tail)))) (hp_held H (by (repeat (first | exact List.Mem.head _ | apply List.Mem.tail)))) (Lib.hid hI1.out.ok) ) rfl rfl rfl rfl ?_
 intro wc H
 rintro er wd ⟨la3_1, lc3_1, da3_1, dc3_1, rfl, hg⟩
 have H2 := hp_gotB H hg.2.2.2.2 hg.1 hg.2.1 (by decide) (by decide) hg.2.2.1 hg.2.2.2.1 (List.forall_mem_cons.2 ⟨(by (repeat (first | exact List.Mem.head _ | apply List.Mem.tail))), List.forall_mem_cons.2 ⟨(by (repeat (first | exact List.Mem.head _ | apply List.Mem.tail))), fun _ h => by cases h⟩⟩)
 refine ⟨_, rfl, wkAt H2 ?_⟩
 clear H H2
 iterate 4 refine p_awake9 rfl ?_
 refine wAl rfl rfl tybook_Book fun b5 => ?_
 refine wAl rfl rfl tyapi_Change fun b6 => ?_
 refine wSr rfl tybook_Book 1 rfl rfl rfl rfl (bkL ((k2.1).conf) ((k2.1).index) ((k2.1).room) (.slice la3_1 ((k2.1).live.length) lc3_1) (.slice da3_1 ((k2.1).done.length) dc3_1) ((k2.1).modes)) (by first | rfl | (simp only [spl]; rfl)) ?_
 refine wSr rfl tyapi_Change 0 rfl rfl rfl rfl (chL (k2.2.1)) (by first | rfl | (simp only [spl]; rfl)) ?_
 refine p_awake9 rfl ?_
 refine wN ?_
 refine tN (wKK hK4 ?_)
 refine wSeqK fun KK5 hK5 => ?_
 refine wReg ?_
 refine wLr rfl tybook_Book 5 rfl (bkL ((k1.1).conf) ((k1.1).index) ((k1.1).room) (.slice la2_2 ((k1.1).live.length) lc2_2) (.slice da2_2 ((k1.1).done.length) dc2_2) ((k1.1).modes)) rfl rfl ?_
 refine wC (l := [.agg (bkA ((k1.1).conf) ((k1.1).index) ((k1.1).room) (.slice la2_2 ((k1.1).live.length) lc2_2) (.slice da2_2 ((k1.1).done.length) dc2_2) ((k1.1).modes)), .int .i64 1, .int .i64 7]) Try.func14 rfl (by kernel_rfl) (fun wc H => cancelBC (k1.1) la2_2 lc2_2 da2_2 dc2_2 1 7 wc (hp_held H (by (repeat (first | exact List.Mem.head _ | apply List.Mem.tail)))) (hp_held H (by (repeat (first | exact List.Mem.head _ | apply List.Mem.tail)))) (Lib.hid hI1.out.ok) ) rfl rfl rfl rfl ?_
 intro wc H
 rintro er wd ⟨la4_1, lc4_1, da4_1, dc4_1, rfl, hg⟩
 have H2 := hp_gotB H hg.2.2.2.2 hg.1 hg.2.1 (by decide) (by decide) hg.2.2.1 hg.2.2.2.1 (List.forall_mem_cons.2 ⟨(by (repeat (first | exact List.Mem.head _ | apply List.Mem.tail))), List.forall_mem_cons.2 ⟨(by (repeat (first | exact List.Mem.head _ | apply List.Mem.tail))), fun _ h => by cases h⟩⟩)
 refine ⟨_, rfl, wkAt H2 ?_⟩
 clear H H2
 iterate 4 refine p_awake9 rfl ?_
 refine wAl rfl rfl tybook_Book fun b8 => ?_
 refine wAl rfl rfl tyapi_Change fun b9 => ?_
 refine wSr rfl tybook_Book 1 rfl rfl rfl rfl (bkL ((k3.1).conf) ((k3.1).index) ((k3.1).room) (.slice la4_1 ((k3.1).live.length) lc4_1) (.slice da4_1 ((k3.1).done.length) dc4_1) ((k3.1).modes)) (by first | rfl | (simp only [spl]; rfl)) ?_
 refine wSr rfl tyapi_Change 0 rfl rfl rfl rfl (chL (k3.2.1)) (by first | rfl | (simp only [spl]; rfl)) ?_
 refine p_awake9 rfl ?_
 refine wN ?_
 refine tN (wKK hK5 ?_)
 refine wSeqK fun KK6 hK6 => ?_
 refine wReg ?_
 refine wLr rfl tybook_Book 1 rfl (bkL ((k3.1).conf) ((k3.1).index) ((k3.1).room) (.slice la4_1 ((k3.1).live.length) lc4_1) (.slice da4_1 ((k3.1).done.length) dc4_1) ((k3.1).modes)) rfl rfl ?_
 refine wQ (l := [.agg (bkA ((k3.1).conf) ((k3.1).index) ((k3.1).room) (.slice la4_1 ((k3.1).live.length) lc4_1) (.slice da4_1 ((k3.1).done.length) dc4_1) ((k3.1).modes)), .int .i64 1]) Try.func20 rfl (by kernel_rfl) (.tuple #[.agg (xA (k5.1)), .bool true]) (fun wc H => by have h := findC (k3.1) la4_1 lc4_1 da4_1 dc4_1 1 wc (hp_held H (by (repeat (first | exact List.Mem.head _ | apply List.Mem.tail)))) (hp_held H (by (repeat (first | exact List.Mem.head _ | apply List.Mem.tail)))) (Lib.hid hI3.out.ok); rw [q8] at h; exact h) rfl rfl rfl rfl ?_
 iterate 3 refine p_awake9 rfl ?_
 refine wAl rfl rfl tyapi_Call fun b11 => ?_
 refine wSr rfl tyapi_Call 0 rfl rfl rfl rfl (xL (k5.1)) (by first | rfl | (simp only [spl]; rfl)) ?_
 refine p_awake9 rfl ?_
 refine wN ?_
 refine tN (wKK hK6 ?_)
 refine wSeqK fun KK7 hK7 => ?_
 refine wReg ?_
 refine wLr rfl tybook_Book 13 rfl (bkL ((newB smallV).conf) ((newB smallV).index) ((newB smallV).room) (.slice la1_1 ((newB smallV).live.length) lc1_1) (.slice da1_1 ((newB smallV).done.length) dc1_1) ((newB smallV).modes)) rfl rfl ?_
 refine wLr rfl tyapi_Change 9 rfl (chL (k1.2.1)) rfl rfl ?_
 refine wC (l := [.agg (bkA ((newB smallV).conf) ((newB smallV).index) ((newB smallV).room) (.slice la1_1 ((newB smallV).live.length) lc1_1) (.slice da1_1 ((newB smallV).done.length) dc1_1) ((newB smallV).modes)), .agg (chA (k1.2.1))]) Try.func16 rfl (by kernel_rfl) (fun wc H => by have h := applyC (newB smallV) la1_1 lc1_1 da1_1 dc1_1 (k1.2.1) wc (hp_held H (by (repeat (first | exact List.Mem.head _ | apply List.Mem.tail)))) (hp_held H (by (repeat (first | exact List.Mem.head _ | apply List.Mem.tail)))) (Lib.hid hI0.out.ok) ; rw [show applyV (newB smallV) k1.2.1 = (k1.1, 0) from k4_is] at h; exact h) rfl rfl rfl rfl ?_
 intro wc H
 rintro er wd ⟨la6_2, lc6_2, da6_2, dc6_2, rfl, hg⟩
 have H2 := hp_gotB H hg.2.2.2.2 hg.1 hg.2.1 (by decide) (by decide) hg.2.2.1 hg.2.2.2.1 (List.forall_mem_cons.2 ⟨(by (repeat (first | exact List.Mem.head _ | apply List.Mem.tail))), List.forall_mem_cons.2 ⟨(by (repeat (first | exact List.Mem.head _ | apply List.Mem.tail))), fun _ h => by cases h⟩⟩)
 refine ⟨_, rfl, wkAt H2 ?_⟩
 clear H H2
 iterate 3 refine p_awake9 rfl ?_
 refine wAl rfl rfl tybook_Book fun b13 => ?_
 refine wSr rfl tybook_Book 0 rfl rfl rfl rfl (bkL ((k1.1).conf) ((k1.1).index) ((k1.1).room) (.slice la6_2 ((k1.1).live.length) lc6_2) (.slice da6_2 ((k1.1).done.length) dc6_2) ((k1.1).modes)) (by first | rfl | (simp only [spl]; rfl)) ?_
 refine p_awake9 rfl ?_
 refine wN ?_
 refine tN (wKK hK7 ?_)
 refine wSeqK fun KK8 hK8 => ?_
 refine wReg ?_
 iterate 2 refine p_awake9 rfl ?_
 refine wB 48 rfl q1 ?_
 iterate 2 refine p_awake9 rfl ?_
 refine wLd rfl tyint 12 rfl rfl ?_
 refine p_awake9 rfl ?_
 refine wB 52 rfl q2 ?_
 iterate 4 refine p_awake9 rfl ?_
 refine wLd rfl tyint 12 rfl rfl ?_
 refine p_awake9 rfl ?_
 refine wB 58 rfl q3 ?_
 iterate 4 refine p_awake9 rfl ?_
 refine wLd rfl tyint 12 rfl rfl ?_
 refine p_awake9 rfl ?_
 refine wB 64 rfl q4 ?_
 iterate 4 refine p_awake9 rfl ?_
 refine wB 68 rfl q5 ?_
 iterate 4 refine p_awake9 rfl ?_
 refine wB 72 rfl q6 ?_
 iterate 4 refine p_awake9 rfl ?_
 refine wLd rfl tyint 4 rfl rfl ?_
 refine p_awake9 rfl ?_
 refine wB 78 rfl q7 ?_
 iterate 5 refine p_awake9 rfl ?_
 refine wLr rfl tyapi_Call 3 rfl (xL (k5.1)) rfl rfl ?_
 refine p_awake9 rfl ?_
 refine wLr rfl tyapi_Call 4 rfl (xL ((k3.2.1).call)) rfl rfl ?_
 refine wE (.bool ((decide ((k5.1) = ((k3.2.1).call))))) rfl rfl rfl (fun aa wc hs H => exec_eql rfl (hs _ _ rfl) (hs _ _ rfl) (by kernel_rfl) (run_eq_call (k5.1) ((k3.2.1).call) wc)) ?_
 refine wB 87 rfl q9 ?_
 iterate 2 refine p_awake9 rfl ?_
 refine wLr rfl tybook_Book 5 rfl (bkL ((k3.1).conf) ((k3.1).index) ((k3.1).room) (.slice la4_1 ((k3.1).live.length) lc4_1) (.slice da4_1 ((k3.1).done.length) dc4_1) ((k3.1).modes)) rfl rfl ?_
 refine wC (l := [.agg (bkA ((k3.1).conf) ((k3.1).index) ((k3.1).room) (.slice la4_1 ((k3.1).live.length) lc4_1) (.slice da4_1 ((k3.1).done.length) dc4_1) ((k3.1).modes))]) Try.func12 rfl (by kernel_rfl) (fun wc H => liveC (k3.1) la4_1 lc4_1 da4_1 dc4_1 wc (hp_held H (by (repeat (first | exact List.Mem.head _ | apply List.Mem.tail)))) (hp_held H (by (repeat (first | exact List.Mem.head _ | apply List.Mem.tail)))) (Lib.hid hI3.out.ok)) rfl rfl rfl rfl ?_
 intro wc H
 rintro er wd ⟨a7_44, c7_44, rfl, hgv⟩
 have H2 := hp_got H (Rs := []) hgv.2.2 hgv.1 (by decide) (From.new hgv.2.1) (fun r hr => by cases hr)
 refine ⟨_, rfl, wkAt H2 ?_⟩
 clear H H2
 refine wE (.int .i64 ((liveV (k3.1)).length)) rfl rfl rfl (fun aa ww hs _ => by have e91 := hs 91 _ rfl; have g91 := gt_of e91; simp only [execOp]; go_simp <;> first | rfl | omega) ?_
 refine p_awake9 rfl ?_
 refine wB 93 rfl q10 ?_
 iterate 2 refine p_awake9 rfl ?_
 refine wLr rfl tybook_Book 6 rfl (bkL ((k3.1).conf) ((k3.1).index) ((k3.1).room) (.slice la4_1 ((k3.1).live.length) lc4_1) (.slice da4_1 ((k3.1).done.length) dc4_1) ((k3.1).modes)) rfl rfl ?_
 refine wC (l := [.agg (bkA ((k3.1).conf) ((k3.1).index) ((k3.1).room) (.slice la4_1 ((k3.1).live.length) lc4_1) (.slice da4_1 ((k3.1).done.length) dc4_1) ((k3.1).modes))]) Try.func17 rfl (by kernel_rfl) (fun wc H => doneC (k3.1) la4_1 lc4_1 da4_1 dc4_1 wc (hp_held H (by (repeat (first | exact List.Mem.head _ | apply List.Mem.tail)))) (hp_held H (by (repeat (first | exact List.Mem.head _ | apply List.Mem.tail)))) (Lib.hid hI3.out.ok)) rfl rfl rfl rfl ?_
 intro wc H
 rintro er wd ⟨a7_50, c7_50, rfl, hgv⟩
 have H2 := hp_got H (Rs := []) hgv.2.2 hgv.1 (by decide) (From.new hgv.2.1) (fun r hr => by cases hr)
 refine ⟨_, rfl, wkAt H2 ?_⟩
 clear H H2
 refine wE (.int .i64 ((k3.1).done.length)) rfl rfl rfl (fun aa ww hs _ => by have e97 := hs 97 _ rfl; have g97 := gt_of e97; simp only [execOp]; go_simp <;> first | rfl | omega) ?_
 refine p_awake9 rfl ?_
 refine wB 99 rfl q11 ?_
 iterate 2 refine p_awake9 rfl ?_
 refine wLr rfl tybook_Book 7 rfl (bkL ((k3.1).conf) ((k3.1).index) ((k3.1).room) (.slice la4_1 ((k3.1).live.length) lc4_1) (.slice da4_1 ((k3.1).done.length) dc4_1) ((k3.1).modes)) rfl rfl ?_
 refine wQ (l := [.agg (bkA ((k3.1).conf) ((k3.1).index) ((k3.1).room) (.slice la4_1 ((k3.1).live.length) lc4_1) (.slice da4_1 ((k3.1).done.length) dc4_1) ((k3.1).modes))]) Try.func11 rfl (by kernel_rfl) (.int .i64 ((k3.1).index)) (fun wc H => indexC (k3.1) la4_1 lc4_1 da4_1 dc4_1  wc (hp_held H (by (repeat (first | exact List.Mem.head _ | apply List.Mem.tail)))) (hp_held H (by (repeat (first | exact List.Mem.head _ | apply List.Mem.tail)))) (Lib.hid hI3.out.ok)) rfl rfl rfl rfl ?_
 refine p_awake9 rfl ?_
 refine wB 104 rfl q12 ?_
 iterate 6 refine p_awake9 rfl ?_
 refine wLr rfl tybook_Book 2 rfl (bkL ((k1.1).conf) ((k1.1).index) ((k1.1).room) (.slice la6_2 ((k1.1).live.length) lc6_2) (.slice da6_2 ((k1.1).done.length) dc6_2) ((k1.1).modes)) rfl rfl ?_
 refine wLr rfl tybook_Book 15 rfl (bkL ((k1.1).conf) ((k1.1).index) ((k1.1).room) (.slice la2_2 ((k1.1).live.length) lc2_2) (.slice da2_2 ((k1.1).done.length) dc2_2) ((k1.1).modes)) rfl rfl ?_
 refine wQ (l := [.agg (bkA ((k1.1).conf) ((k1.1).index) ((k1.1).room) (.slice la6_2 ((k1.1).live.length) lc6_2) (.slice da6_2 ((k1.1).done.length) dc6_2) ((k1.1).modes)), .agg (bkA ((k1.1).conf) ((k1.1).index) ((k1.1).room) (.slice la2_2 ((k1.1).live.length) lc2_2) (.slice da2_2 ((k1.1).done.length) dc2_2) ((k1.1).modes))]) Try.func19 rfl (by kernel_rfl) (.bool true) (fun wc H => sameT (k1.1) la6_2 lc6_2 da6_2 dc6_2 la2_2 lc2_2 da2_2 dc2_2 wc (hp_held H (by (repeat (first | exact List.Mem.head _ | apply List.Mem.tail)))) (hp_held H (by (repeat (first | exact List.Mem.head _ | apply List.Mem.tail)))) (hp_held H (by (repeat (first | exact List.Mem.head _ | apply List.Mem.tail)))) (hp_held H (by (repeat (first | exact List.Mem.head _ | apply List.Mem.tail)))) hI1) rfl rfl rfl rfl ?_
 iterate 2 refine p_awake9 rfl ?_
 refine wLr rfl tybook_Book 18 rfl (bkL ((newB smallV).conf) ((newB smallV).index) ((newB smallV).room) (.slice la1_1 ((newB smallV).live.length) lc1_1) (.slice da1_1 ((newB smallV).done.length) dc1_1) ((newB smallV).modes)) rfl rfl ?_
 refine wQ (l := [.agg (bkA ((newB smallV).conf) ((newB smallV).index) ((newB smallV).room) (.slice la1_1 ((newB smallV).live.length) lc1_1) (.slice da1_1 ((newB smallV).done.length) dc1_1) ((newB smallV).modes))]) Try.func11 rfl (by kernel_rfl) (.int .i64 ((newB smallV).index)) (fun wc H => indexC (newB smallV) la1_1 lc1_1 da1_1 dc1_1  wc (hp_held H (by (repeat (first | exact List.Mem.head _ | apply List.Mem.tail)))) (hp_held H (by (repeat (first | exact List.Mem.head _ | apply List.Mem.tail)))) (Lib.hid hI0.out.ok)) rfl rfl rfl rfl ?_
 refine p_awake9 rfl ?_
 refine wB 118 rfl q13 ?_
 iterate 2 refine p_awake9 rfl ?_
 refine wLr rfl tybook_Book 18 rfl (bkL ((newB smallV).conf) ((newB smallV).index) ((newB smallV).room) (.slice la1_1 ((newB smallV).live.length) lc1_1) (.slice da1_1 ((newB smallV).done.length) dc1_1) ((newB smallV).modes)) rfl rfl ?_
 refine wQ (l := [.agg (bkA ((newB smallV).conf) ((newB smallV).index) ((newB smallV).room) (.slice la1_1 ((newB smallV).live.length) lc1_1) (.slice da1_1 ((newB smallV).done.length) dc1_1) ((newB smallV).modes)), .int .i64 1]) Try.func22 rfl (by kernel_rfl) (.int .i64 1) (fun wc H => by have h := modeC (newB smallV) la1_1 lc1_1 da1_1 dc1_1 1 wc (hp_held H (by (repeat (first | exact List.Mem.head _ | apply List.Mem.tail)))) (hp_held H (by (repeat (first | exact List.Mem.head _ | apply List.Mem.tail)))) (Lib.hid hI0.out.ok); rw [q14] at h; exact h) rfl rfl rfl rfl ?_
 iterate 3 refine p_awake9 rfl ?_
 refine wN ?_
 refine tN (wKK hK8 ?_)
 refine wRet ?_
 exact wR1 rfl rfl (fun ww H => ⟨rfl, H.out.off⟩)
end Go.Proofs.Ytnanihffljpdbaa.Bk
