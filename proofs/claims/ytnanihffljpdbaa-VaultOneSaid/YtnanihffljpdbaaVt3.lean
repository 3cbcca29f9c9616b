/- Layer 11: what is fixed by number. -/
import Derived.Test.YtnanihffljpdbaaProg
import Derived.Below
import Derived.WalkKit
import Derived.KernelRfl
import Derived.RowKit3
import Derived.Deep.LoopGhost
import Derived.Deep.QuietTactic
import Derived.BigQuiet
import Derived.WideLaws
import Derived.Deep.DeepCutAuto
import Derived.Deep.CutBlock
import Derived.Lib.Hide
import Derived.Laws.BitsLemmas
import Derived.Laws.Bits64
import Derived.Laws.BitsAllLaws
import Derived.IntWalk
import Derived.Outline
import Derived.WalkSpells
import Derived.Test.YtnanihffljpdbaaGA
import Derived.Test.YtnanihffljpdbaaVt4
namespace Go.Proofs.Ytnanihffljpdbaa.Bk
open Go.RowKit Go.Proofs.Ytnanihffljpdbaa.Mem Go.Proofs.Ytnanihffljpdbaa.Reg Go.Proofs.Ytnanihffljpdbaa.Wk Go.Proofs.Ytnanihffljpdbaa.Si Go.Proofs.Ytnanihffljpdbaa.Ca Go.Proofs.Ytnanihffljpdbaa.Sc6 Go.Proofs.Ytnanihffljpdbaa.Vt
set_option linter.unusedVariables false
set_option linter.unusedSimpArgs false

def w1 : BookV × ChgV × Int := placeV (newB smallV) (⟨0, 1, 1, 0, 0, 0, 0, 0⟩ : CallV) 3 0
theorem w1_ok : w1.2.2 = 0 := by kernel_rfl
theorem w1_inv : InvB w1.1 := (place_toR (inv_new smallV) (by decide) 3 0).2
theorem w1_is : applyV (newB smallV) w1.2.1 = (w1.1, 0) := replay_place (inv_new smallV) (by decide) w1_ok
def tab_awake11 : Wk.Tab := [(84, 0, 0), (84, 1, 26)]
theorem p_awake11 {ops : Array Oper} {rest : List Oper} {o : Oper} {w0 : World} {Q : Exit → Act → World → Prop} {S : List Nat} {R : List Res} {K K' : Wk.Env} {N : Nat} (h : Wk.stp tab_awake11 N ops K o = some K') (n : Wk.Wk N S w0 K' R (wpList Try.prog ops Q rest)) : Wk.Wk N S w0 K R (wpList Try.prog ops Q (o :: rest)) := Wk.wP (T := tab_awake11) (by kernel_rfl) h n
set_option maxHeartbeats 16000000 in
set_option maxRecDepth 20000 in
theorem awake11  (w : World) : Calls Try.prog 32 #[] w fun e w' => e = .returned (.bool true) ∧ Off [] w w' := by
 have H := Lib.hid (Hp.start [] w)
 have q6 : ((((0 : Int) + 1) + 1) == 2) = true := rfl
 have q7 : (((0 : Int) + 1) == 1) = true := rfl
 refine wStart (args := []) Try.func32 rfl rfl rfl H ?_
 clear H
 show Wk 97 _ _ [] _ _
 have hI0 : Hid (InvB (newB smallV)) := Lib.hid (inv_new smallV)
 have hI1 : Hid (InvB w1.1) := Lib.hid w1_inv
 have q1 : ((w1.2.2) == 0) = true := by kernel_rfl
 have q2 : ((w1.1.index) == 1) = true := by kernel_rfl
 have q3 : ((((([] : List ChgV) ++ [w1.2.1]).drop (atN (([] : List ChgV) ++ [w1.2.1]) 0)).length : Int) == 1) = true := by kernel_rfl
 have q4 : ((((([] : List ChgV) ++ [w1.2.1]).length) : Int) == 1) = true := by kernel_rfl
 have q5 : ((atN (([] : List ChgV) ++ [w1.2.1]) 1) == 1) = true := by kernel_rfl
 refine wSeqK fun KK1 hK1 => ?_
 refine wReg ?_
 refine p_awake11 rfl ?_
 refine wN ?_
 refine tN (wKK hK1 ?_)
 refine wSeqK fun KK2 hK2 => ?_
 refine wReg ?_
 refine wQ (l := []) Try.func40 rfl (by kernel_rfl) (.agg (cA smallV)) (fun wc H => smallC wc) rfl rfl rfl rfl ?_
 refine wC (l := [.agg (cA smallV)]) Try.func33 rfl (by kernel_rfl) (fun wc H => newVyes smallV wc (keys_in (by kernel_rfl)) (by kernel_rfl)) rfl rfl rfl rfl ?_
 intro wc H
 rintro er wd ⟨v1_1, la1_1, lc1_1, da1_1, dc1_1, rfl, HH, hf1, hf2⟩
 have H3 := hp_fresh H HH (fresh3 hf1 hf2)
 have H2 : Hid (Hp [] w wd [rA none 0 40 11 (([] : List ChgV).map chgRow), rB v1_1 115 (vtL ((newB smallV).conf) ((newB smallV).index) ((newB smallV).room) (.slice la1_1 ((newB smallV).live.length) lc1_1) (.slice da1_1 ((newB smallV).done.length) dc1_1) ((newB smallV).modes) smallV smallV.keys 0 (.slice none 0 0) 0 0), rS la1_1 lc1_1 9 ((newB smallV).live.map rowOf), rS da1_1 dc1_1 8 ((newB smallV).done.map callRow)]) := hp_nil H3 40 11
 clear H3
 refine ⟨_, rfl, wkAt H2 ?_⟩
 clear H H2
 refine p_awake11 rfl ?_
 refine wN ?_
 refine tN (wKK hK2 ?_)
 refine wSeqK fun KK3 hK3 => ?_
 refine wReg ?_
 refine p_awake11 rfl ?_
 refine wQ (l := [.pointer (some ⟨v1_1, 0, none⟩)]) Try.func34 rfl (by kernel_rfl) (.agg (snA ((newB smallV).conf) ((newB smallV).index) ((newB smallV).room) (.slice la1_1 ((newB smallV).live.length) lc1_1) (.slice da1_1 ((newB smallV).done.length) dc1_1) ((newB smallV).modes) smallV smallV.keys 0)) (fun wc H => readC v1_1 (newB smallV) la1_1 lc1_1 da1_1 dc1_1 smallV smallV.keys 0 none 0 ([] : List ChgV) 0 0 wc (H.out.blk 1 rfl)) rfl rfl rfl rfl ?_
 refine wAl rfl rfl tyvault_Snap fun b2 => ?_
 refine wSr rfl tyvault_Snap 0 rfl rfl rfl rfl (snL ((newB smallV).conf) ((newB smallV).index) ((newB smallV).room) (.slice la1_1 ((newB smallV).live.length) lc1_1) (.slice da1_1 ((newB smallV).done.length) dc1_1) ((newB smallV).modes) smallV smallV.keys 0) (by first | rfl | (simp only [spl]; rfl)) ?_
 refine wN ?_
 refine tN (wKK hK3 ?_)
 refine wSeqK fun KK4 hK4 => ?_
 refine wReg ?_
 refine p_awake11 rfl ?_
 refine wLr rfl tybook_Book 0 rfl (bkL ((newB smallV).conf) ((newB smallV).index) ((newB smallV).room) (.slice la1_1 ((newB smallV).live.length) lc1_1) (.slice da1_1 ((newB smallV).done.length) dc1_1) ((newB smallV).modes)) rfl rfl ?_
 refine wE (.agg #[.int .i64 0, .int .i64 1, .int .i64 1, .int .i64 0, .int .i64 0, .int .i64 0, .int .i64 0, .int .i64 0]) rfl rfl rfl (fun aa ww hs _ => by simp only [execOp]; go_simp <;> first | rfl | omega) ?_
 refine wC (l := [.agg (bkA ((newB smallV).conf) ((newB smallV).index) ((newB smallV).room) (.slice la1_1 ((newB smallV).live.length) lc1_1) (.slice da1_1 ((newB smallV).done.length) dc1_1) ((newB smallV).modes)), .agg #[.int .i64 0, .int .i64 1, .int .i64 1, .int .i64 0, .int .i64 0, .int .i64 0, .int .i64 0, .int .i64 0], .int .i64 3, .int .i64 0]) Try.func13 rfl (by kernel_rfl) (fun wc H => placeC (newB smallV) la1_1 lc1_1 da1_1 dc1_1 (⟨0, 1, 1, 0, 0, 0, 0, 0⟩ : CallV) 3 0 wc (hp_held H (by (repeat (first | exact List.Mem.head _ | apply List.Mem.tail)))) (hp_held H (by (repeat (first | exact List.Mem.head _ | apply List.Mem.tail)))) (Lib.hid hI0.out.ok) ) rfl rfl rfl rfl ?_
 intro wc H
 rintro er wd ⟨la3_3, lc3_3, da3_3, dc3_3, rfl, hg⟩
 have H2 := hp_gotB H hg.2.2.2.2 hg.1 hg.2.1 (by decide) (by decide) hg.2.2.1 hg.2.2.2.1 (List.forall_mem_cons.2 ⟨(by (repeat (first | exact List.Mem.head _ | apply List.Mem.tail))), List.forall_mem_cons.2 ⟨(by (repeat (first | exact List.Mem.head _ | apply List.Mem.tail))), fun _ h => by cases h⟩⟩)
 refine ⟨_, rfl, wkAt H2 ?_⟩
 clear H H2
 iterate 4 refine p_awake11 rfl ?_
 refine wAl rfl rfl tybook_Book fun b3 => ?_
 refine wAl rfl rfl tyapi_Change fun b4 => ?_
 refine wSr rfl tybook_Book 1 rfl rfl rfl rfl (bkL ((w1.1).conf) ((w1.1).index) ((w1.1).room) (.slice la3_3 ((w1.1).live.length) lc3_3) (.slice da3_3 ((w1.1).done.length) dc3_3) ((w1.1).modes)) (by first | rfl | (simp only [spl]; rfl)) ?_
 refine wSr rfl tyapi_Change 0 rfl rfl rfl rfl (chL (w1.2.1)) (by first | rfl | (simp only [spl]; rfl)) ?_
 refine p_awake11 rfl ?_
 refine wN ?_
 refine tN (wKK hK4 ?_)
 refine wSeqK fun KK5 hK5 => ?_
 refine wReg ?_
 refine p_awake11 rfl ?_
 refine wLr rfl tyvault_Snap 4 rfl (snL ((newB smallV).conf) ((newB smallV).index) ((newB smallV).room) (.slice la1_1 ((newB smallV).live.length) lc1_1) (.slice da1_1 ((newB smallV).done.length) dc1_1) ((newB smallV).modes) smallV smallV.keys 0) rfl rfl ?_
 refine wLr rfl tybook_Book 1 rfl (bkL ((w1.1).conf) ((w1.1).index) ((w1.1).room) (.slice la3_3 ((w1.1).live.length) lc3_3) (.slice da3_3 ((w1.1).done.length) dc3_3) ((w1.1).modes)) rfl rfl ?_
 refine wLr rfl tyapi_Change 0 rfl (chL (w1.2.1)) rfl rfl ?_
 refine p_awake11 rfl ?_
 refine wLr rfl tykeys_Keys 4 rfl (kyL smallV smallV.keys) rfl rfl ?_
 refine wC (l := [.pointer (some ⟨v1_1, 0, none⟩), .agg (snA ((newB smallV).conf) ((newB smallV).index) ((newB smallV).room) (.slice la1_1 ((newB smallV).live.length) lc1_1) (.slice da1_1 ((newB smallV).done.length) dc1_1) ((newB smallV).modes) smallV smallV.keys 0), .agg (bkA ((w1.1).conf) ((w1.1).index) ((w1.1).room) (.slice la3_3 ((w1.1).live.length) lc3_3) (.slice da3_3 ((w1.1).done.length) dc3_3) ((w1.1).modes)), .agg (chA (w1.2.1)), .agg (kyA smallV smallV.keys)]) Try.func35 rfl (by kernel_rfl) (fun wc H => commitYes v1_1 (newB smallV) la1_1 lc1_1 da1_1 dc1_1 smallV smallV.keys 0 none 0 ([] : List ChgV) 0 0 (newB smallV) la1_1 lc1_1 da1_1 dc1_1 smallV smallV.keys 0 (w1.1) la3_3 lc3_3 da3_3 dc3_3 (w1.2.1) smallV smallV.keys wc (hp_rootV (hp_sel [6, 5, 7, 8, 2, 3] H (by decide) rfl) (ro_S (ro_S (ro_S (ro_S ro_nil))))) (by omega) (by first | omega | (simp; done) | (simp; omega)) (by simp) w1_is hI0 hI1) rfl rfl rfl rfl ?_
 intro wc H
 rintro er wd ⟨ga4_6, gc4_6, rfl, HH⟩
 have H1 : Hid (Hp [] w wc ([rB v1_1 115 (vtL ((newB smallV).conf) ((newB smallV).index) ((newB smallV).room) (.slice la1_1 ((newB smallV).live.length) lc1_1) (.slice da1_1 ((newB smallV).done.length) dc1_1) ((newB smallV).modes) smallV smallV.keys 0 (.slice none 0 0) 0 0), rA none 0 40 11 (([] : List ChgV).map chgRow), rS la1_1 lc1_1 9 ((newB smallV).live.map rowOf), rS da1_1 dc1_1 8 ((newB smallV).done.map callRow), rS la3_3 lc3_3 9 ((w1.1).live.map rowOf), rS da3_3 dc3_3 8 ((w1.1).done.map callRow)] ++ [rB b4 40 (chL (w1.2.1)), rB b3 33 (bkL ((w1.1).conf) ((w1.1).index) ((w1.1).room) (.slice la3_3 ((w1.1).live.length) lc3_3) (.slice da3_3 ((w1.1).done.length) dc3_3) ((w1.1).modes)), rB b2 84 (snL ((newB smallV).conf) ((newB smallV).index) ((newB smallV).room) (.slice la1_1 ((newB smallV).live.length) lc1_1) (.slice da1_1 ((newB smallV).done.length) dc1_1) ((newB smallV).modes) smallV smallV.keys 0)])) := hp_sel [6, 5, 7, 8, 2, 3, 0, 1, 4] H (by decide) rfl
 have H2 : Hid (Hp [] w wd [rB v1_1 115 (vtL ((w1.1).conf) ((w1.1).index) ((w1.1).room) (.slice la3_3 ((w1.1).live.length) lc3_3) (.slice da3_3 ((w1.1).done.length) dc3_3) ((w1.1).modes) smallV smallV.keys 0 (.slice ga4_6 ((([] : List ChgV) ++ [(w1.2.1)]).length) gc4_6) (0 + 1) 0), rA ga4_6 gc4_6 40 11 ((([] : List ChgV) ++ [(w1.2.1)]).map chgRow), rS la1_1 lc1_1 9 ((newB smallV).live.map rowOf), rS da1_1 dc1_1 8 ((newB smallV).done.map callRow), rS la3_3 lc3_3 9 ((w1.1).live.map rowOf), rS da3_3 dc3_3 8 ((w1.1).done.map callRow), rB b4 40 (chL (w1.2.1)), rB b3 33 (bkL ((w1.1).conf) ((w1.1).index) ((w1.1).room) (.slice la3_3 ((w1.1).live.length) lc3_3) (.slice da3_3 ((w1.1).done.length) dc3_3) ((w1.1).modes)), rB b2 84 (snL ((newB smallV).conf) ((newB smallV).index) ((newB smallV).room) (.slice la1_1 ((newB smallV).live.length) lc1_1) (.slice da1_1 ((newB smallV).done.length) dc1_1) ((newB smallV).modes) smallV smallV.keys 0)]) := hp_backV H1 HH (fun r hr => .inl hr)
 clear H1
 refine ⟨_, rfl, wkAt H2 ?_⟩
 clear H H2
 refine p_awake11 rfl ?_
 refine wN ?_
 refine tN (wKK hK5 ?_)
 refine wSeqK fun KK6 hK6 => ?_
 refine wReg ?_
 refine p_awake11 rfl ?_
 refine wLr rfl tyvault_Snap 8 rfl (snL ((newB smallV).conf) ((newB smallV).index) ((newB smallV).room) (.slice la1_1 ((newB smallV).live.length) lc1_1) (.slice da1_1 ((newB smallV).done.length) dc1_1) ((newB smallV).modes) smallV smallV.keys 0) rfl rfl ?_
 refine wLr rfl tybook_Book 7 rfl (bkL ((w1.1).conf) ((w1.1).index) ((w1.1).room) (.slice la3_3 ((w1.1).live.length) lc3_3) (.slice da3_3 ((w1.1).done.length) dc3_3) ((w1.1).modes)) rfl rfl ?_
 refine wLr rfl tyapi_Change 6 rfl (chL (w1.2.1)) rfl rfl ?_
 refine p_awake11 rfl ?_
 refine wLr rfl tykeys_Keys 8 rfl (kyL smallV smallV.keys) rfl rfl ?_
 refine wC (l := [.pointer (some ⟨v1_1, 0, none⟩), .agg (snA ((newB smallV).conf) ((newB smallV).index) ((newB smallV).room) (.slice la1_1 ((newB smallV).live.length) lc1_1) (.slice da1_1 ((newB smallV).done.length) dc1_1) ((newB smallV).modes) smallV smallV.keys 0), .agg (bkA ((w1.1).conf) ((w1.1).index) ((w1.1).room) (.slice la3_3 ((w1.1).live.length) lc3_3) (.slice da3_3 ((w1.1).done.length) dc3_3) ((w1.1).modes)), .agg (chA (w1.2.1)), .agg (kyA smallV smallV.keys)]) Try.func35 rfl (by kernel_rfl) (fun wc H => commitNo v1_1 (w1.1) la3_3 lc3_3 da3_3 dc3_3 smallV smallV.keys 0 ga4_6 gc4_6 (([] : List ChgV) ++ [(w1.2.1)]) (0 + 1) 0 (newB smallV) la1_1 lc1_1 da1_1 dc1_1 smallV smallV.keys 0 (w1.1) la3_3 lc3_3 da3_3 dc3_3 (w1.2.1) smallV smallV.keys wc (H.out.blk 0 rfl) (by omega) (by kernel_rfl)) rfl rfl rfl rfl ?_
 intro wc H
 rintro er wd ⟨rfl, hb, ho⟩
 have H2 := hp_turn H (i := 0) (cs' := (vtL ((w1.1).conf) ((w1.1).index) ((w1.1).room) (.slice la3_3 ((w1.1).live.length) lc3_3) (.slice da3_3 ((w1.1).done.length) dc3_3) ((w1.1).modes) smallV smallV.keys 0 (.slice ga4_6 ((([] : List ChgV) ++ [(w1.2.1)]).length) gc4_6) ((0 + 1) + 1) (0 + 1))) rfl hb ho
 refine ⟨_, rfl, wkAt H2 ?_⟩
 clear H H2
 refine p_awake11 rfl ?_
 refine wN ?_
 refine tN (wKK hK6 ?_)
 refine wSeqK fun KK7 hK7 => ?_
 refine wReg ?_
 refine p_awake11 rfl ?_
 refine wQ (l := [.pointer (some ⟨v1_1, 0, none⟩)]) Try.func61 rfl (by kernel_rfl) (.tuple #[.int .i64 ((0 + 1) + 1), .int .i64 (0 + 1)]) (fun wc H => triesC v1_1 (w1.1) la3_3 lc3_3 da3_3 dc3_3 smallV smallV.keys 0 ga4_6 gc4_6 (([] : List ChgV) ++ [(w1.2.1)]) ((0 + 1) + 1) (0 + 1) wc (H.out.blk 0 rfl)) rfl rfl rfl rfl ?_
 iterate 5 refine p_awake11 rfl ?_
 refine wN ?_
 refine tN (wKK hK7 ?_)
 refine wSeqK fun KK8 hK8 => ?_
 refine wReg ?_
 iterate 2 refine p_awake11 rfl ?_
 refine wB 42 rfl q1 ?_
 iterate 10 refine p_awake11 rfl ?_
 refine wQ (l := [.pointer (some ⟨v1_1, 0, none⟩)]) Try.func34 rfl (by kernel_rfl) (.agg (snA ((w1.1).conf) ((w1.1).index) ((w1.1).room) (.slice la3_3 ((w1.1).live.length) lc3_3) (.slice da3_3 ((w1.1).done.length) dc3_3) ((w1.1).modes) smallV smallV.keys 0)) (fun wc H => readC v1_1 (w1.1) la3_3 lc3_3 da3_3 dc3_3 smallV smallV.keys 0 ga4_6 gc4_6 (([] : List ChgV) ++ [(w1.2.1)]) ((0 + 1) + 1) (0 + 1) wc (H.out.blk 0 rfl)) rfl rfl rfl rfl ?_
 refine wE (.agg (bkA ((w1.1).conf) ((w1.1).index) ((w1.1).room) (.slice la3_3 ((w1.1).live.length) lc3_3) (.slice da3_3 ((w1.1).done.length) dc3_3) ((w1.1).modes))) rfl rfl rfl (fun aa ww hs _ => by exact exec_fld rfl (hs _ _ rfl) (by kernel_rfl)) ?_
 refine wQ (l := [.agg (bkA ((w1.1).conf) ((w1.1).index) ((w1.1).room) (.slice la3_3 ((w1.1).live.length) lc3_3) (.slice da3_3 ((w1.1).done.length) dc3_3) ((w1.1).modes))]) Try.func11 rfl (by kernel_rfl) (.int .i64 ((w1.1).index)) (fun wc H => indexN (w1.1) la3_3 lc3_3 da3_3 dc3_3 wc) rfl rfl rfl rfl ?_
 refine p_awake11 rfl ?_
 refine wB 56 rfl q2 ?_
 iterate 3 refine p_awake11 rfl ?_
 refine wC (l := [.pointer (some ⟨v1_1, 0, none⟩), .int .i64 0]) Try.func36 rfl (by kernel_rfl) (fun wc H => sinceC v1_1 (w1.1) la3_3 lc3_3 da3_3 dc3_3 smallV smallV.keys 0 ga4_6 gc4_6 (([] : List ChgV) ++ [(w1.2.1)]) ((0 + 1) + 1) (0 + 1) 0 wc (H.out.blk 0 rfl) (hp_held (hp_read H 1 rfl) (by (repeat (first | exact List.Mem.head _ | apply List.Mem.tail)))) (by first | omega | (simp; done) | (simp; omega)) (by have h := rA_cap (H.out.at 1 rfl); rwa [List.length_map] at h)) rfl rfl rfl rfl ?_
 intro wc H
 rintro er wd ⟨a7_19, c7_19, rfl, hh, hf, ho⟩
 have H2 := hp_got H (Rs := []) ho hh (by decide) (From.new hf) (fun r hr => by cases hr)
 refine ⟨_, rfl, wkAt H2 ?_⟩
 clear H H2
 refine wE (.int .i64 (((([] : List ChgV) ++ [(w1.2.1)]).drop (atN (([] : List ChgV) ++ [(w1.2.1)]) 0)).length)) rfl rfl rfl (fun aa ww hs _ => by have e60 := hs 60 _ rfl; have g60 := gt_of e60; simp only [execOp]; go_simp <;> first | rfl | omega) ?_
 refine p_awake11 rfl ?_
 refine wB 62 rfl q3 ?_
 iterate 3 refine p_awake11 rfl ?_
 refine wQ (l := [.pointer (some ⟨v1_1, 0, none⟩)]) Try.func38 rfl (by kernel_rfl) (.int .i64 ((([] : List ChgV) ++ [(w1.2.1)]).length)) (fun wc H => keptC v1_1 (w1.1) la3_3 lc3_3 da3_3 dc3_3 smallV smallV.keys 0 ga4_6 gc4_6 (([] : List ChgV) ++ [(w1.2.1)]) ((0 + 1) + 1) (0 + 1) wc (H.out.blk 1 rfl)) rfl rfl rfl rfl ?_
 refine p_awake11 rfl ?_
 refine wB 67 rfl q4 ?_
 iterate 4 refine p_awake11 rfl ?_
 refine wB 71 rfl q6 ?_
 iterate 4 refine p_awake11 rfl ?_
 refine wB 75 rfl q7 ?_
 iterate 3 refine p_awake11 rfl ?_
 refine wC (l := [.pointer (some ⟨v1_1, 0, none⟩)]) Try.func37 rfl (by kernel_rfl) (fun wc H => tickC v1_1 (w1.1) la3_3 lc3_3 da3_3 dc3_3 smallV smallV.keys 0 ga4_6 gc4_6 (([] : List ChgV) ++ [(w1.2.1)]) ((0 + 1) + 1) (0 + 1) wc (H.out.blk 1 rfl) (by omega)) rfl rfl rfl rfl ?_
 intro wc H
 rintro er wd ⟨rfl, hb, ho⟩
 have H2 := hp_turn H (i := 1) (cs' := (vtL ((w1.1).conf) ((w1.1).index) ((w1.1).room) (.slice la3_3 ((w1.1).live.length) lc3_3) (.slice da3_3 ((w1.1).done.length) dc3_3) ((w1.1).modes) smallV smallV.keys (0 + 1) (.slice ga4_6 ((([] : List ChgV) ++ [(w1.2.1)]).length) gc4_6) ((0 + 1) + 1) (0 + 1))) rfl hb ho
 refine ⟨_, rfl, wkAt H2 ?_⟩
 clear H H2
 iterate 3 refine p_awake11 rfl ?_
 refine wQ (l := [.pointer (some ⟨v1_1, 0, none⟩)]) Try.func34 rfl (by kernel_rfl) (.agg (snA ((w1.1).conf) ((w1.1).index) ((w1.1).room) (.slice la3_3 ((w1.1).live.length) lc3_3) (.slice da3_3 ((w1.1).done.length) dc3_3) ((w1.1).modes) smallV smallV.keys (0 + 1))) (fun wc H => readC v1_1 (w1.1) la3_3 lc3_3 da3_3 dc3_3 smallV smallV.keys (0 + 1) ga4_6 gc4_6 (([] : List ChgV) ++ [(w1.2.1)]) ((0 + 1) + 1) (0 + 1) wc (H.out.blk 1 rfl)) rfl rfl rfl rfl ?_
 refine wE (.int .i64 (0 + 1)) rfl rfl rfl (fun aa ww hs _ => by exact exec_fld rfl (hs _ _ rfl) (by kernel_rfl)) ?_
 refine p_awake11 rfl ?_
 refine wB 85 rfl q7 ?_
 iterate 3 refine p_awake11 rfl ?_
 refine wC (l := [.pointer (some ⟨v1_1, 0, none⟩), .int .i64 1]) Try.func39 rfl (by kernel_rfl) (fun wc H => forgetC v1_1 (w1.1) la3_3 lc3_3 da3_3 dc3_3 smallV smallV.keys (0 + 1) ga4_6 gc4_6 (([] : List ChgV) ++ [(w1.2.1)]) ((0 + 1) + 1) (0 + 1) 1 wc (hp_rootV (hp_sel [1, 2] H (by decide) rfl) ro_nil) (by first | omega | (simp; done) | (simp; omega))) rfl rfl rfl rfl ?_
 intro wc H
 rintro er wd ⟨ga7_48, gc7_48, rfl, HH⟩
 have H1 : Hid (Hp [] w wc ([rB v1_1 115 (vtL ((w1.1).conf) ((w1.1).index) ((w1.1).room) (.slice la3_3 ((w1.1).live.length) lc3_3) (.slice da3_3 ((w1.1).done.length) dc3_3) ((w1.1).modes) smallV smallV.keys (0 + 1) (.slice ga4_6 ((([] : List ChgV) ++ [(w1.2.1)]).length) gc4_6) ((0 + 1) + 1) (0 + 1)), rA ga4_6 gc4_6 40 11 ((([] : List ChgV) ++ [(w1.2.1)]).map chgRow)] ++ [rS a7_19 c7_19 11 (((([] : List ChgV) ++ [(w1.2.1)]).drop (atN (([] : List ChgV) ++ [(w1.2.1)]) 0)).map chgRow), rS la1_1 lc1_1 9 ((newB smallV).live.map rowOf), rS da1_1 dc1_1 8 ((newB smallV).done.map callRow), rS la3_3 lc3_3 9 ((w1.1).live.map rowOf), rS da3_3 dc3_3 8 ((w1.1).done.map callRow), rB b4 40 (chL (w1.2.1)), rB b3 33 (bkL ((w1.1).conf) ((w1.1).index) ((w1.1).room) (.slice la3_3 ((w1.1).live.length) lc3_3) (.slice da3_3 ((w1.1).done.length) dc3_3) ((w1.1).modes)), rB b2 84 (snL ((newB smallV).conf) ((newB smallV).index) ((newB smallV).room) (.slice la1_1 ((newB smallV).live.length) lc1_1) (.slice da1_1 ((newB smallV).done.length) dc1_1) ((newB smallV).modes) smallV smallV.keys 0)])) := hp_sel [1, 2, 0, 3, 4, 5, 6, 7, 8, 9] H (by decide) rfl
 have H2 : Hid (Hp [] w wd [rB v1_1 115 (vtL ((w1.1).conf) ((w1.1).index) ((w1.1).room) (.slice la3_3 ((w1.1).live.length) lc3_3) (.slice da3_3 ((w1.1).done.length) dc3_3) ((w1.1).modes) smallV smallV.keys (0 + 1) (.slice ga7_48 (((([] : List ChgV) ++ [(w1.2.1)]).drop (atN (([] : List ChgV) ++ [(w1.2.1)]) 1)).length) gc7_48) ((0 + 1) + 1) (0 + 1)), rA ga7_48 gc7_48 40 11 (((([] : List ChgV) ++ [(w1.2.1)]).drop (atN (([] : List ChgV) ++ [(w1.2.1)]) 1)).map chgRow), rS a7_19 c7_19 11 (((([] : List ChgV) ++ [(w1.2.1)]).drop (atN (([] : List ChgV) ++ [(w1.2.1)]) 0)).map chgRow), rS la1_1 lc1_1 9 ((newB smallV).live.map rowOf), rS da1_1 dc1_1 8 ((newB smallV).done.map callRow), rS la3_3 lc3_3 9 ((w1.1).live.map rowOf), rS da3_3 dc3_3 8 ((w1.1).done.map callRow), rB b4 40 (chL (w1.2.1)), rB b3 33 (bkL ((w1.1).conf) ((w1.1).index) ((w1.1).room) (.slice la3_3 ((w1.1).live.length) lc3_3) (.slice da3_3 ((w1.1).done.length) dc3_3) ((w1.1).modes)), rB b2 84 (snL ((newB smallV).conf) ((newB smallV).index) ((newB smallV).room) (.slice la1_1 ((newB smallV).live.length) lc1_1) (.slice da1_1 ((newB smallV).done.length) dc1_1) ((newB smallV).modes) smallV smallV.keys 0)]) := hp_backV H1 HH (fun _ h => by cases h)
 clear H1
 refine ⟨_, rfl, wkAt H2 ?_⟩
 clear H H2
 refine p_awake11 rfl ?_
 refine wB 90 rfl q5 ?_
 iterate 2 refine p_awake11 rfl ?_
 refine wE (.agg (cA zeroF)) rfl rfl rfl (fun aa ww hs _ => by simp only [execOp]; go_simp <;> first | rfl | omega) ?_
 refine wQ (l := [.agg (cA zeroF)]) Try.func33 rfl (by kernel_rfl) (.pointer none) (fun wc H => newVno (⟨0, 0, 0, 0, 0, 0, 0, 0, 0, 0, 0, 0, 0, 0, 0, 0, 0, 0⟩ : Cfg) wc (by kernel_rfl)) rfl rfl rfl rfl ?_
 refine wE (.bool true) rfl rfl rfl (fun aa ww hs _ => by exact exec_pnilnil rfl (hs _ _ rfl) rfl Try.underlying75) ?_
 iterate 2 refine p_awake11 rfl ?_
 refine wN ?_
 refine tN (wKK hK8 ?_)
 refine wRet ?_
 exact wR1 rfl rfl (fun ww H => ⟨rfl, H.out.off⟩)
end Go.Proofs.Ytnanihffljpdbaa.Bk
