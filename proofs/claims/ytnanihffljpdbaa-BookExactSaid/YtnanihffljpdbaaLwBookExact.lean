/- Every building and row of deeds: the walk. -/
import Derived.Test.YtnanihffljpdbaaProg
import Derived.Below
import Derived.WalkKit
import Derived.KernelRfl
import Derived.RowKit3
import Derived.Deep.LoopGhost
import Derived.Deep.QuietTactic
import Derived.BigQuiet
import Derived.WideLaws
import Derived.Deep.DeepCutAuto
import Derived.Deep.CutBlock
import Derived.Lib.Hide
import Derived.Laws.BitsLemmas
import Derived.Laws.Bits64
import Derived.Laws.BitsAllLaws
import Derived.IntWalk
import Derived.Outline
import Derived.WalkSpells
import Derived.Test.YtnanihffljpdbaaMem
import Derived.Test.YtnanihffljpdbaaBd
namespace Go.Proofs.Ytnanihffljpdbaa.Bk
open Go.RowKit Go.Proofs.Ytnanihffljpdbaa.Mem Go.Proofs.Ytnanihffljpdbaa.Reg Go.Proofs.Ytnanihffljpdbaa.Wk Go.Proofs.Ytnanihffljpdbaa.Si Go.Proofs.Ytnanihffljpdbaa.Ca Go.Proofs.Ytnanihffljpdbaa.Sc6
set_option linter.unusedVariables false
set_option linter.unusedSimpArgs false

def tab_exact_w : Wk.Tab := [(42, 0, 0), (42, 1, 1), (42, 2, 9), (42, 3, 10), (42, 4, 11)]
theorem p_exact_w {ops : Array Oper} {rest : List Oper} {o : Oper} {w0 : World} {Q : Exit → Act → World → Prop} {S : List Nat} {R : List Res} {K K' : Wk.Env} {N : Nat} (h : Wk.stp tab_exact_w N ops K o = some K') (n : Wk.Wk N S w0 K' R (wpList Try.prog ops Q rest)) : Wk.Wk N S w0 K R (wpList Try.prog ops Q (o :: rest)) := Wk.wP (T := tab_exact_w) (by kernel_rfl) h n
set_option maxHeartbeats 16000000 in
set_option maxRecDepth 20000 in
theorem exact_w (c : Cfg) (pa : Option Addr) (pc : Nat) (ds : List DeedV) (id : Int) (w : World) (h1 : (rS pa pc 22 (ds.map deedRow)).holds w) (hon : Hid (∀ z ∈ ds, -9223372036854775808 ≤ z.ch.index ∧ z.ch.index ≤ 9223372036854775807)) : Calls Try.prog 5 #[.agg (cA c), .slice pa ds.length pc, .int .i64 id] w fun e w' => e = .returned (.bool true) ∧ Off [] w w' := by
 have H := Lib.hid (Hp.start [] w)
 have H := hp_old H h1 (by decide)
 clear h1
 refine wStart (args := [.agg (cA c), .slice pa ds.length pc, .int .i64 id]) Try.func5 rfl rfl rfl H ?_
 clear H
 show Wk 174 _ _ [(0, .agg (cA c)), (1, .slice pa ds.length pc), (2, .int .i64 id)] _ _
 have hI0 : Hid (InvB (newB c)) := Lib.hid (inv_new c)
 refine wSeqK fun KK1 hK1 => ?_
 refine wReg ?_
 refine wBx rfl rfl rfl fun b3 => ?_
 refine p_exact_w rfl ?_
 refine wN ?_
 refine tN (wKK hK1 ?_)
 refine wSeqK fun KK2 hK2 => ?_
 refine wSeqK fun KK3 hK3 => ?_
 refine wReg ?_
 refine wQ (l := []) Try.func9 rfl (by kernel_rfl) (.bool true) (fun wc H => awake9 wc) rfl rfl rfl rfl ?_
 refine p_exact_w rfl ?_
 refine wN ?_
 refine tN (wKK hK3 ?_)
 refine wCf rfl ?_
 refine wSk ?_
 refine tN (wKK hK2 ?_)
 refine wSeqK fun KK4 hK4 => ?_
 refine wReg ?_
 refine wLr rfl tyapi_Config 0 rfl (cL c) rfl rfl ?_
 refine wC (l := [.agg (cA c)]) Try.func10 rfl (by kernel_rfl) (fun wc H => newBC c wc) rfl rfl rfl rfl ?_
 intro wc H
 rintro er wd ⟨la3_1, lc3_1, da3_1, dc3_1, rfl, hg⟩
 have H2 := hp_gotB H hg.2.2.2.2 hg.1 hg.2.1 (by decide) (by decide) hg.2.2.1 hg.2.2.2.1 (fun r hr => by cases hr)
 refine ⟨_, rfl, wkAt H2 ?_⟩
 clear H H2
 refine wAl rfl rfl tybook_Book fun b7 => ?_
 refine wSr rfl tybook_Book 0 rfl rfl rfl rfl (bkL ((newB c).conf) ((newB c).index) ((newB c).room) (.slice la3_1 ((newB c).live.length) lc3_1) (.slice da3_1 ((newB c).done.length) dc3_1) ((newB c).modes)) (by first | rfl | (simp only [spl]; rfl)) ?_
 refine wN ?_
 refine tN (wKK hK4 ?_)
 refine wSeqK fun KK5 hK5 => ?_
 refine wReg ?_
 refine wLr rfl tyapi_Config 3 rfl (cL c) rfl rfl ?_
 refine wC (l := [.agg (cA c)]) Try.func23 rfl (by kernel_rfl) (fun wc H => newT c wc) rfl rfl rfl rfl ?_
 intro wc H
 rintro er wd ⟨rla4_1, rlc4_1, rda4_1, rdc4_1, rfl, hg⟩
 have H2 := hp_gotB H hg.2.2.2.2 hg.1 hg.2.1 (by decide) (by decide) hg.2.2.1 hg.2.2.2.1 (fun r hr => by cases hr)
 refine ⟨_, rfl, wkAt H2 ?_⟩
 clear H H2
 refine wAl rfl rfl tyhoistwayref09_Book fun b8 => ?_
 refine wSr rfl tyhoistwayref09_Book 0 rfl rfl rfl rfl (rbL ((newB c).conf) ((newB c).room != 0) ((newB c).index) (.slice rla4_1 ((liveV (newB c)).length) rlc4_1) (.slice rda4_1 ((newB c).done.length) rdc4_1) ((newB c).modes)) (by first | rfl | (simp only [spl]; rfl)) ?_
 refine wN ?_
 refine tN (wKK hK5 ?_)
 refine wSeqK fun KK6 hK6 => ?_
 refine wSeqK fun KK7 hK7 => ?_
 refine wReg ?_
 refine wLr rfl tybook_Book 3 rfl (bkL ((newB c).conf) ((newB c).index) ((newB c).room) (.slice la3_1 ((newB c).live.length) lc3_1) (.slice da3_1 ((newB c).done.length) dc3_1) ((newB c).modes)) rfl rfl ?_
 refine wLr rfl tyhoistwayref09_Book 0 rfl (rbL ((newB c).conf) ((newB c).room != 0) ((newB c).index) (.slice rla4_1 ((liveV (newB c)).length) rlc4_1) (.slice rda4_1 ((newB c).done.length) rdc4_1) ((newB c).modes)) rfl rfl ?_
 refine wQ (l := [.agg (bkA ((newB c).conf) ((newB c).index) ((newB c).room) (.slice la3_1 ((newB c).live.length) lc3_1) (.slice da3_1 ((newB c).done.length) dc3_1) ((newB c).modes)), .agg (rbA ((newB c).conf) ((newB c).room != 0) ((newB c).index) (.slice rla4_1 ((liveV (newB c)).length) rlc4_1) (.slice rda4_1 ((newB c).done.length) rdc4_1) ((newB c).modes))]) Try.func24 rfl (by kernel_rfl) (.bool true) (fun wc H => alikeT (newB c) la3_1 lc3_1 da3_1 dc3_1 rla4_1 rlc4_1 rda4_1 rdc4_1 wc (hp_held H (by (repeat (first | exact List.Mem.head _ | apply List.Mem.tail)))) (hp_held H (by (repeat (first | exact List.Mem.head _ | apply List.Mem.tail)))) (hp_held H (by (repeat (first | exact List.Mem.head _ | apply List.Mem.tail)))) (hp_held H (by (repeat (first | exact List.Mem.head _ | apply List.Mem.tail)))) hI0) rfl rfl rfl rfl ?_
 refine p_exact_w rfl ?_
 refine wN ?_
 refine tN (wKK hK7 ?_)
 refine wCf rfl ?_
 refine wSk ?_
 refine tN (wKK hK6 ?_)
 refine wSeqK fun KK8 hK8 => ?_
 refine wSeqK fun KK9 hK9 => ?_
 refine wReg ?_
 refine p_exact_w rfl ?_
 refine wN ?_
 refine tN (wKK hK9 ?_)
 refine wBlk ?_
 refine wH (R' := [rB b7 33 (bkL ((newB c).conf) ((newB c).index) ((newB c).room) (.slice la3_1 ((newB c).live.length) lc3_1) (.slice da3_1 ((newB c).done.length) dc3_1) ((newB c).modes)), rB b8 61 (rbL ((newB c).conf) ((newB c).room != 0) ((newB c).index) (.slice rla4_1 ((liveV (newB c)).length) rlc4_1) (.slice rda4_1 ((newB c).done.length) rdc4_1) ((newB c).modes)), rS la3_1 lc3_1 9 ((newB c).live.map rowOf), rS da3_1 dc3_1 8 ((newB c).done.map callRow), rS rla4_1 rlc4_1 8 ((liveV (newB c)).map callRow), rS rda4_1 rdc4_1 8 ((newB c).done.map callRow), rB b3 24 (cL c), rS pa pc 22 (ds.map deedRow)]) (fun ww H => hp_sel [3, 0, 4, 5, 1, 2, 6, 7] H (by decide) rfl) ?_
 refine wLoop (fun ab wv => ∃ i : Nat, ∃ b : BookV, ∃ la : Option Addr, ∃ lc : Nat, ∃ da : Option Addr, ∃ dc : Nat, ∃ ra : Option Addr, ∃ rc : Nat, ∃ sa : Option Addr, ∃ sc : Nat, (i ≤ ds.length) ∧ (i ≤ 60) ∧ (Hid (InvB b)) ∧ (b.index ≤ (i : Int)) ∧ ab.tmps.size = 174 ∧ ab.defers = [] ∧ Sat [(0, .agg (cA c)), (1, .slice pa ds.length pc), (2, .int .i64 id), (3, .pointer (some ⟨b3, 0, none⟩)), (7, .pointer (some ⟨b7, 0, none⟩)), (8, .pointer (some ⟨b8, 0, none⟩)), (9, .int .i64 i), (22, .bool false), (30, .bool false)] ab ∧ Hid (Hp [] w wv [rB b7 33 (bkL b.conf b.index b.room (.slice la b.live.length lc) (.slice da b.done.length dc) b.modes), rB b8 61 (rbL b.conf (b.room != 0) b.index (.slice ra ((liveV b).length) rc) (.slice sa b.done.length sc) b.modes), rS la lc 9 (b.live.map rowOf), rS da dc 8 (b.done.map callRow), rS ra rc 8 ((liveV b).map callRow), rS sa sc 8 (b.done.map callRow), rB b3 24 (cL c), rS pa pc 22 (ds.map deedRow)])) (fun ab _ => 60 - (intOf (ab.eval (.tmp 9))).toNat) (fun aa ww nn dd hs H => ⟨0, (newB c), la3_1, lc3_1, da3_1, dc3_1, rla4_1, rlc4_1, rda4_1, rdc4_1, (Nat.zero_le _), (by omega), hI0, (by rw [new_ix]; exact Int.le_refl _), nn, dd, (sat_sub ⟨rfl, rfl, rfl, rfl, rfl, rfl, rfl, rfl, rfl, trivial⟩ hs), H⟩) ?_
 rintro a1 wv ⟨i, b, la, lc, da, dc, ra, rc, sa, sc, hi, hi2, hI, hix, nn, dd, hs, H⟩
 have mu1_9 := hs 9 _ rfl
 refine wIn nn dd hs H ?_
 clear nn dd hs H
 refine wSeqK fun KK10 hK10 => ?_
 refine wSeqK fun KK11 hK11 => ?_
 refine wReg ?_
 iterate 2 refine p_exact_w rfl ?_
 refine wE (.int .i64 ds.length) rfl rfl rfl (fun aa ww hs _ => by have e32 := hs 32 _ rfl; have g32 := gt_of e32; simp only [execOp]; go_simp <;> first | rfl | omega) ?_
 refine p_exact_w rfl ?_
 refine wB (c := decide (i < ds.length)) 34 rfl (by simp) ?_
 refine p_exact_w rfl ?_
 refine wCut 3 [(38, .bool ((decide (i < ds.length)) && (decide ((i : Int) < 60)))), (0, .agg (cA c)), (1, .slice pa ds.length pc), (2, .int .i64 id), (3, .pointer (some ⟨b3, 0, none⟩)), (7, .pointer (some ⟨b7, 0, none⟩)), (8, .pointer (some ⟨b8, 0, none⟩)), (9, .int .i64 i), (22, .bool false), (30, .bool false)] ?_ ?_
 · intro KK hKK
   rcases Bool.eq_false_or_eq_true (decide (i < ds.length)) with u1 | u1
   · skip
     refine wB (c := true) 35 rfl u1 ?_
     iterate 2 refine p_exact_w rfl ?_
     refine p_exact_w rfl ?_
     refine wB (c := (decide (i < ds.length)) && (decide ((i : Int) < 60))) 38 rfl (by rw [u1]; rfl) ?_
     refine wN (tN ?_)
     exact fun aa ww nn dd hs H => hKK aa ww nn dd (sat_sub ⟨rfl, rfl, rfl, rfl, rfl, rfl, rfl, rfl, rfl, rfl, trivial⟩ hs) H
   · skip
     refine wB (c := false) 35 rfl u1 ?_
     iterate 2 refine p_exact_w rfl ?_
     refine p_exact_w rfl ?_
     refine wB (c := (decide (i < ds.length)) && (decide ((i : Int) < 60))) 38 rfl (by rw [u1]; rfl) ?_
     refine wN (tN ?_)
     exact fun aa ww nn dd hs H => hKK aa ww nn dd (sat_sub ⟨rfl, rfl, rfl, rfl, rfl, rfl, rfl, rfl, rfl, rfl, trivial⟩ hs) H
 refine wN ?_
 refine tN (wKK hK11 ?_)
 refine wCond (E := (decide (i < ds.length)) && (decide ((i : Int) < 60))) rfl (fun z2 => ?_) (fun z2 => ?_)
 · skip
   have z2l : (decide (i < ds.length)) = true := Reg.bl z2
   have z2ld : i < ds.length := of_decide_eq_true z2l
   have z2r : (decide ((i : Int) < 60)) = true := Reg.br z2
   have z2rd : (i : Int) < 60 := of_decide_eq_true z2r
   intro aa ww nn dd hs H
   obtain ⟨yx, rfl⟩ := some_of_row (i := i) (hp_held H (show rS pa _ 22 (ds.map deedRow) ∈ _ by (repeat (first | exact List.Mem.head _ | apply List.Mem.tail)))) (by simp; omega)
   obtain ⟨x, hx⟩ : ∃ x, ds[i]? = some x := ⟨ds[i], List.getElem?_eq_getElem (by omega)⟩
   have HRx := Lib.hid (show (ds.map deedRow)[i]? = some [.int .i64 x.kind, .int .i64 x.x.id, .int .i64 x.x.kind, .int .i64 x.x.src, .int .i64 x.x.dst, .int .i64 x.x.car, .int .i64 x.x.state, .int .i64 x.x.owner, .int .i64 x.x.born, .int .i64 x.n, .int .i64 x.m, .int .i64 x.ch.index, .int .i64 x.ch.call.id, .int .i64 x.ch.call.kind, .int .i64 x.ch.call.src, .int .i64 x.ch.call.dst, .int .i64 x.ch.call.car, .int .i64 x.ch.call.state, .int .i64 x.ch.call.owner, .int .i64 x.ch.call.born, .int .i64 x.ch.car, .int .i64 x.ch.mode] by rw [List.getElem?_map, hx]; rfl)
   have HXx := Lib.hid hx
   clear hx
   have hchi := hon.out x (List.mem_of_getElem? HXx.out)
   have hbi := hI.out.ok.index
   refine wIn nn dd hs H ?_
   refine wSk ?_
   refine tN (wKK hK10 ?_)
   refine wSeqK fun KK12 hK12 => ?_
   refine wBlk ?_
   refine wSeqK fun KK13 hK13 => ?_
   refine wReg ?_
   iterate 2 refine p_exact_w rfl ?_
   refine wE (.pointer (some (yx.add (i * 22)))) rfl rfl rfl (fun aa ww hs _ => by have e41 := hs 41 _ rfl; have g41 := gt_of e41; have e42 := hs 42 _ rfl; have g42 := gt_of e42; simp only [execOp]; go_simp <;> first | rfl | omega) ?_
   refine wX 44 (.agg #[.int .i64 x.kind, .int .i64 x.x.id, .int .i64 x.x.kind, .int .i64 x.x.src, .int .i64 x.x.dst, .int .i64 x.x.car, .int .i64 x.x.state, .int .i64 x.x.owner, .int .i64 x.x.born, .int .i64 x.n, .int .i64 x.m, .int .i64 x.ch.index, .int .i64 x.ch.call.id, .int .i64 x.ch.call.kind, .int .i64 x.ch.call.src, .int .i64 x.ch.call.dst, .int .i64 x.ch.call.car, .int .i64 x.ch.call.state, .int .i64 x.ch.call.owner, .int .i64 x.ch.call.born, .int .i64 x.ch.car, .int .i64 x.ch.mode]) rfl (fun aa ww KK hs H _ hk => hpS_load tyhoistwaylaw09_Deed H (y := yx) rfl (hs _ _ rfl) (wnt_ok hs rfl) (by (repeat (first | exact List.Mem.head _ | apply List.Mem.tail))) HRx.out rfl hk) ?_
   refine wAl rfl rfl tyhoistwaylaw09_Deed fun b10 => ?_
   refine wSr rfl tyhoistwaylaw09_Deed 0 rfl rfl rfl rfl [.int .i64 x.kind, .int .i64 x.x.id, .int .i64 x.x.kind, .int .i64 x.x.src, .int .i64 x.x.dst, .int .i64 x.x.car, .int .i64 x.x.state, .int .i64 x.x.owner, .int .i64 x.x.born, .int .i64 x.n, .int .i64 x.m, .int .i64 x.ch.index, .int .i64 x.ch.call.id, .int .i64 x.ch.call.kind, .int .i64 x.ch.call.src, .int .i64 x.ch.call.dst, .int .i64 x.ch.call.car, .int .i64 x.ch.call.state, .int .i64 x.ch.call.owner, .int .i64 x.ch.call.born, .int .i64 x.ch.car, .int .i64 x.ch.mode] (by first | rfl | (simp only [spl]; rfl)) ?_
   refine wN ?_
   refine tN (wKK hK13 ?_)
   refine wSeqK fun KK14 hK14 => ?_
   refine wReg ?_
   refine wLr rfl tybook_Book 1 rfl (bkL b.conf b.index b.room (.slice la b.live.length lc) (.slice da b.done.length dc) b.modes) rfl rfl ?_
   refine wAl rfl rfl tybook_Book fun b11 => ?_
   refine wSr rfl tybook_Book 0 rfl rfl rfl rfl (bkL b.conf b.index b.room (.slice la b.live.length lc) (.slice da b.done.length dc) b.modes) (by first | rfl | (simp only [spl]; rfl)) ?_
   refine wN ?_
   refine tN (wKK hK14 ?_)
   refine wSeqK fun KK15 hK15 => ?_
   refine wReg ?_
   refine wLr rfl tyhoistwayref09_Book 3 rfl (rbL b.conf (b.room != 0) b.index (.slice ra ((liveV b).length) rc) (.slice sa b.done.length sc) b.modes) rfl rfl ?_
   refine wAl rfl rfl tyhoistwayref09_Book fun b12 => ?_
   refine wSr rfl tyhoistwayref09_Book 0 rfl rfl rfl rfl (rbL b.conf (b.room != 0) b.index (.slice ra ((liveV b).length) rc) (.slice sa b.done.length sc) b.modes) (by first | rfl | (simp only [spl]; rfl)) ?_
   refine wN ?_
   refine tN (wKK hK15 ?_)
   refine wSeqK fun KK16 hK16 => ?_
   refine wReg ?_
   refine wE (.agg (chA zeroCh)) rfl rfl rfl (fun aa ww hs _ => by simp only [execOp]; go_simp <;> first | rfl | omega) ?_
   refine wAl rfl rfl tyapi_Change fun b13 => ?_
   refine wSr rfl tyapi_Change 0 rfl rfl rfl rfl (chL zeroCh) (by first | rfl | (simp only [spl]; rfl)) ?_
   refine wN ?_
   refine tN (wKK hK16 ?_)
   refine wSeqK fun KK17 hK17 => ?_
   refine wReg ?_
   refine wE (.agg (chA zeroCh)) rfl rfl rfl (fun aa ww hs _ => by simp only [execOp]; go_simp <;> first | rfl | omega) ?_
   refine wAl rfl rfl tyapi_Change fun b14 => ?_
   refine wSr rfl tyapi_Change 0 rfl rfl rfl rfl (chL zeroCh) (by first | rfl | (simp only [spl]; rfl)) ?_
   refine wN ?_
   refine tN (wKK hK17 ?_)
   refine wSeqK fun KK18 hK18 => ?_
   refine wReg ?_
   refine p_exact_w rfl ?_
   refine wN ?_
   refine tN (wKK hK18 ?_)
   refine wSeqK fun KK19 hK19 => ?_
   refine wReg ?_
   refine p_exact_w rfl ?_
   refine wN ?_
   refine tN (wKK hK19 ?_)
   refine wSeqK fun KK20 hK20 => ?_
   refine wSeqK fun KK21 hK21 => ?_
   refine wReg ?_
   refine p_exact_w rfl ?_
   refine wLd rfl tyint 4 rfl rfl ?_
   refine wN ?_
   refine tN (wKK hK21 ?_)
   refine wBlk ?_
   refine wSeqK fun KK22 hK22 => ?_
   refine wSeqK fun KK23 hK23 => ?_
   refine wReg ?_
   iterate 2 refine p_exact_w rfl ?_
   refine wN ?_
   refine tN (wKK hK23 ?_)
   have hjn1 : ∀ (b2 : BookV) (la2 : Option Addr) (lc2 : Nat) (da2 : Option Addr) (dc2 : Nat) (ra2 : Option Addr) (rc2 : Nat) (sa2 : Option Addr) (sc2 : Nat) (ch : ChgV) (e : Int) , Hid (InvB b2) → b2.index ≤ b.index + 1 → Wk 174 [] w [(0, .agg (cA c)), (1, .slice (some yx) ds.length pc), (2, .int .i64 id), (3, .pointer (some ⟨b3, 0, none⟩)), (7, .pointer (some ⟨b7, 0, none⟩)), (8, .pointer (some ⟨b8, 0, none⟩)), (9, .int .i64 i), (10, .pointer (some ⟨b10, 0, none⟩)), (11, .pointer (some ⟨b11, 0, none⟩)), (12, .pointer (some ⟨b12, 0, none⟩)), (13, .pointer (some ⟨b13, 0, none⟩)), (14, .pointer (some ⟨b14, 0, none⟩)), (15, .int .i64 e), (16, .int .i64 e), (22, .bool false), (30, .bool false), (38, .bool ((decide (i < ds.length)) && (decide ((i : Int) < 60)))), (50, .int .i64 x.kind)] [rB b11 33 (bkL b2.conf b2.index b2.room (.slice la2 b2.live.length lc2) (.slice da2 b2.done.length dc2) b2.modes), rB b12 61 (rbL b2.conf (b2.room != 0) b2.index (.slice ra2 ((liveV b2).length) rc2) (.slice sa2 b2.done.length sc2) b2.modes), rB b13 40 (chL ch), rB b14 40 (chL ch), rS la2 lc2 9 (b2.live.map rowOf), rS da2 dc2 8 (b2.done.map callRow), rS ra2 rc2 8 ((liveV b2).map callRow), rS sa2 sc2 8 (b2.done.map callRow), rB b10 42 [.int .i64 x.kind, .int .i64 x.x.id, .int .i64 x.x.kind, .int .i64 x.x.src, .int .i64 x.x.dst, .int .i64 x.x.car, .int .i64 x.x.state, .int .i64 x.x.owner, .int .i64 x.x.born, .int .i64 x.n, .int .i64 x.m, .int .i64 x.ch.index, .int .i64 x.ch.call.id, .int .i64 x.ch.call.kind, .int .i64 x.ch.call.src, .int .i64 x.ch.call.dst, .int .i64 x.ch.call.car, .int .i64 x.ch.call.state, .int .i64 x.ch.call.owner, .int .i64 x.ch.call.born, .int .i64 x.ch.car, .int .i64 x.ch.mode], rB b7 33 (bkL b.conf b.index b.room (.slice la b.live.length lc) (.slice da b.done.length dc) b.modes), rB b8 61 (rbL b.conf (b.room != 0) b.index (.slice ra ((liveV b).length) rc) (.slice sa b.done.length sc) b.modes), rS la lc 9 (b.live.map rowOf), rS da dc 8 (b.done.map callRow), rS ra rc 8 ((liveV b).map callRow), rS sa sc 8 (b.done.map callRow), rB b3 24 (cL c), rS (some yx) pc 22 (ds.map deedRow)] KK20 := by
    intro b2 la2 lc2 da2 dc2 ra2 rc2 sa2 sc2 ch e hI2 hx2
    refine wKK hK20 ?_
    refine wSeqK fun KK24 hK24 => ?_
    refine wSeqK fun KK25 hK25 => ?_
    refine wReg ?_
    iterate 3 refine p_exact_w rfl ?_
    refine wB (c := false) 138 rfl (by simp) ?_
    refine p_exact_w rfl ?_
    refine wLr rfl tyapi_Change 2 rfl (chL ch) rfl rfl ?_
    refine wLr rfl tyapi_Change 3 rfl (chL ch) rfl rfl ?_
    refine wE (.bool (!true)) rfl rfl rfl (fun aa wc hs H => exec_neq rfl (hs _ _ rfl) (hs _ _ rfl) (by kernel_rfl) (run_eq_chg_same ch wc)) ?_
    refine wB (c := false) 142 rfl rfl ?_
    iterate 2 refine p_exact_w rfl ?_
    refine wLr rfl tybook_Book 0 rfl (bkL b2.conf b2.index b2.room (.slice la2 b2.live.length lc2) (.slice da2 b2.done.length dc2) b2.modes) rfl rfl ?_
    refine wLr rfl tyhoistwayref09_Book 1 rfl (rbL b2.conf (b2.room != 0) b2.index (.slice ra2 ((liveV b2).length) rc2) (.slice sa2 b2.done.length sc2) b2.modes) rfl rfl ?_
    refine wQ (l := [.agg (bkA b2.conf b2.index b2.room (.slice la2 b2.live.length lc2) (.slice da2 b2.done.length dc2) b2.modes), .agg (rbA b2.conf (b2.room != 0) b2.index (.slice ra2 ((liveV b2).length) rc2) (.slice sa2 b2.done.length sc2) b2.modes)]) Try.func24 rfl (by kernel_rfl) (.bool true) (fun wc H => alikeT b2 la2 lc2 da2 dc2 ra2 rc2 sa2 sc2 wc (hp_held H (by (repeat (first | exact List.Mem.head _ | apply List.Mem.tail)))) (hp_held H (by (repeat (first | exact List.Mem.head _ | apply List.Mem.tail)))) (hp_held H (by (repeat (first | exact List.Mem.head _ | apply List.Mem.tail)))) (hp_held H (by (repeat (first | exact List.Mem.head _ | apply List.Mem.tail)))) hI2) rfl rfl rfl rfl ?_
    iterate 2 refine p_exact_w rfl ?_
    refine wN ?_
    refine tN (wKK hK25 ?_)
    refine wCf rfl ?_
    refine wSk ?_
    refine tN (wKK hK24 ?_)
    refine wSeqK fun KK26 hK26 => ?_
    refine wSeqK fun KK27 hK27 => ?_
    refine wReg ?_
    iterate 2 refine p_exact_w rfl ?_
    refine wN ?_
    refine tN (wKK hK27 ?_)
    refine wCond (E := e == 0) rfl (fun z3 => ?_) (fun z3 => ?_)
    · skip
      have z3o : (e != 0) = false := eqq_t z3
      refine wSeqK fun KK28 hK28 => ?_
      refine wReg ?_
      refine wLr rfl tybook_Book 0 rfl (bkL b2.conf b2.index b2.room (.slice la2 b2.live.length lc2) (.slice da2 b2.done.length dc2) b2.modes) rfl rfl ?_
      refine wSr rfl tybook_Book 9 rfl rfl rfl rfl (bkL b2.conf b2.index b2.room (.slice la2 b2.live.length lc2) (.slice da2 b2.done.length dc2) b2.modes) (by first | rfl | (simp only [spl]; rfl)) ?_
      refine wN ?_
      refine tN (wKK hK28 ?_)
      refine wReg ?_
      refine wLr rfl tyhoistwayref09_Book 1 rfl (rbL b2.conf (b2.room != 0) b2.index (.slice ra2 ((liveV b2).length) rc2) (.slice sa2 b2.done.length sc2) b2.modes) rfl rfl ?_
      refine wSr rfl tyhoistwayref09_Book 10 rfl rfl rfl rfl (rbL b2.conf (b2.room != 0) b2.index (.slice ra2 ((liveV b2).length) rc2) (.slice sa2 b2.done.length sc2) b2.modes) (by first | rfl | (simp only [spl]; rfl)) ?_
      refine wN ?_
      refine tN (wKK hK26 ?_)
      refine wSeqK fun KK29 hK29 => ?_
      refine wReg ?_
      refine wLr rfl tybook_Book 9 rfl (bkL b2.conf b2.index b2.room (.slice la2 b2.live.length lc2) (.slice da2 b2.done.length dc2) b2.modes) rfl rfl ?_
      refine p_exact_w rfl ?_
      refine wQ (l := [.agg (bkA b2.conf b2.index b2.room (.slice la2 b2.live.length lc2) (.slice da2 b2.done.length dc2) b2.modes), .int .i64 id]) Try.func20 rfl (by kernel_rfl) (.tuple #[.agg (xA ((findV b2 id).1)), .bool ((findV b2 id).2)]) (fun wc H => findC b2 la2 lc2 da2 dc2 id wc (hp_held H (by (repeat (first | exact List.Mem.head _ | apply List.Mem.tail)))) (hp_held H (by (repeat (first | exact List.Mem.head _ | apply List.Mem.tail)))) (Lib.hid hI2.out.ok)) rfl rfl rfl rfl ?_
      iterate 3 refine p_exact_w rfl ?_
      refine wAl rfl rfl tyapi_Call fun b17 => ?_
      refine wSr rfl tyapi_Call 0 rfl rfl rfl rfl (xL ((findV b2 id).1)) (by first | rfl | (simp only [spl]; rfl)) ?_
      refine p_exact_w rfl ?_
      refine wN ?_
      refine tN (wKK hK29 ?_)
      refine wSeqK fun KK30 hK30 => ?_
      refine wReg ?_
      refine wLr rfl tyhoistwayref09_Book 11 rfl (rbL b2.conf (b2.room != 0) b2.index (.slice ra2 ((liveV b2).length) rc2) (.slice sa2 b2.done.length sc2) b2.modes) rfl rfl ?_
      refine p_exact_w rfl ?_
      refine wQ (l := [.agg (rbA b2.conf (b2.room != 0) b2.index (.slice ra2 ((liveV b2).length) rc2) (.slice sa2 b2.done.length sc2) b2.modes), .int .i64 id]) Try.func29 rfl (by kernel_rfl) (.tuple #[.agg (xA ((findV b2 id).1)), .bool ((findV b2 id).2)]) (fun wc H => findT b2 ra2 rc2 sa2 sc2 id wc (hp_held H (by (repeat (first | exact List.Mem.head _ | apply List.Mem.tail)))) (hp_held H (by (repeat (first | exact List.Mem.head _ | apply List.Mem.tail)))) hI2.out) rfl rfl rfl rfl ?_
      iterate 3 refine p_exact_w rfl ?_
      refine wAl rfl rfl tyapi_Call fun b19 => ?_
      refine wSr rfl tyapi_Call 0 rfl rfl rfl rfl (xL ((findV b2 id).1)) (by first | rfl | (simp only [spl]; rfl)) ?_
      refine p_exact_w rfl ?_
      refine wN ?_
      refine tN (wKK hK30 ?_)
      refine wSeqK fun KK31 hK31 => ?_
      refine wReg ?_
      refine wLr rfl tyapi_Call 1 rfl (xL ((findV b2 id).1)) rfl rfl ?_
      refine wLr rfl tyapi_Call 0 rfl (xL ((findV b2 id).1)) rfl rfl ?_
      refine wE (.bool (!true)) rfl rfl rfl (fun aa wc hs H => exec_neq rfl (hs _ _ rfl) (hs _ _ rfl) (by kernel_rfl) (run_eq_call_same ((findV b2 id).1) wc)) ?_
      refine wB (c := false) 168 rfl rfl ?_
      iterate 3 refine p_exact_w rfl ?_
      refine wE (.bool false) rfl rfl rfl (fun aa ww hs _ => by have e170 := hs 170 _ rfl; have g170 := gt_of e170; have e171 := hs 171 _ rfl; have g171 := gt_of e171; simp only [execOp]; go_simp <;> first | rfl | omega) ?_
      refine p_exact_w rfl ?_
      refine wN ?_
      refine tN (wKK hK31 ?_)
      refine wCf rfl ?_
      refine wSk ?_
      refine bN (tN (wKK hK12 ?_))
      refine wReg ?_
      iterate 2 refine p_exact_w rfl ?_
      refine wI 40 rfl (IntWalk.i64_in _ (by omega)) ?_
      refine p_exact_w rfl ?_
      refine wN ?_
      refine tN ?_
      intro aa ww nn dd hs H
      refine ⟨⟨i + 1, b2, la2, lc2, da2, dc2, ra2, rc2, sa2, sc2, (by omega), (by omega), hI2, (by omega), nn, dd, (sat_sub ⟨rfl, rfl, rfl, rfl, rfl, rfl, rfl, rfl, rfl, trivial⟩ hs), (hp_sel [11, 12, 6, 7, 8, 9, 17, 18] H (by decide) rfl)⟩, ?_⟩
      have m9 := hs 9 _ rfl
      simp only [mu1_9, m9, intOf]
      omega
    · skip
      have z3o : (e != 0) = true := eqq_f z3
      refine wSk ?_
      refine tN (wKK hK26 ?_)
      refine wSeqK fun KK32 hK32 => ?_
      refine wReg ?_
      refine wLr rfl tybook_Book 9 rfl (bkL b.conf b.index b.room (.slice la b.live.length lc) (.slice da b.done.length dc) b.modes) rfl rfl ?_
      refine p_exact_w rfl ?_
      refine wQ (l := [.agg (bkA b.conf b.index b.room (.slice la b.live.length lc) (.slice da b.done.length dc) b.modes), .int .i64 id]) Try.func20 rfl (by kernel_rfl) (.tuple #[.agg (xA ((findV b id).1)), .bool ((findV b id).2)]) (fun wc H => findC b la lc da dc id wc (hp_held H (by (repeat (first | exact List.Mem.head _ | apply List.Mem.tail)))) (hp_held H (by (repeat (first | exact List.Mem.head _ | apply List.Mem.tail)))) (Lib.hid hI.out.ok)) rfl rfl rfl rfl ?_
      iterate 3 refine p_exact_w rfl ?_
      refine wAl rfl rfl tyapi_Call fun b17 => ?_
      refine wSr rfl tyapi_Call 0 rfl rfl rfl rfl (xL ((findV b id).1)) (by first | rfl | (simp only [spl]; rfl)) ?_
      refine p_exact_w rfl ?_
      refine wN ?_
      refine tN (wKK hK32 ?_)
      refine wSeqK fun KK33 hK33 => ?_
      refine wReg ?_
      refine wLr rfl tyhoistwayref09_Book 11 rfl (rbL b.conf (b.room != 0) b.index (.slice ra ((liveV b).length) rc) (.slice sa b.done.length sc) b.modes) rfl rfl ?_
      refine p_exact_w rfl ?_
      refine wQ (l := [.agg (rbA b.conf (b.room != 0) b.index (.slice ra ((liveV b).length) rc) (.slice sa b.done.length sc) b.modes), .int .i64 id]) Try.func29 rfl (by kernel_rfl) (.tuple #[.agg (xA ((findV b id).1)), .bool ((findV b id).2)]) (fun wc H => findT b ra rc sa sc id wc (hp_held H (by (repeat (first | exact List.Mem.head _ | apply List.Mem.tail)))) (hp_held H (by (repeat (first | exact List.Mem.head _ | apply List.Mem.tail)))) hI.out) rfl rfl rfl rfl ?_
      iterate 3 refine p_exact_w rfl ?_
      refine wAl rfl rfl tyapi_Call fun b19 => ?_
      refine wSr rfl tyapi_Call 0 rfl rfl rfl rfl (xL ((findV b id).1)) (by first | rfl | (simp only [spl]; rfl)) ?_
      refine p_exact_w rfl ?_
      refine wN ?_
      refine tN (wKK hK33 ?_)
      refine wSeqK fun KK34 hK34 => ?_
      refine wReg ?_
      refine wLr rfl tyapi_Call 1 rfl (xL ((findV b id).1)) rfl rfl ?_
      refine wLr rfl tyapi_Call 0 rfl (xL ((findV b id).1)) rfl rfl ?_
      refine wE (.bool (!true)) rfl rfl rfl (fun aa wc hs H => exec_neq rfl (hs _ _ rfl) (hs _ _ rfl) (by kernel_rfl) (run_eq_call_same ((findV b id).1) wc)) ?_
      refine wB (c := false) 168 rfl rfl ?_
      iterate 3 refine p_exact_w rfl ?_
      refine wE (.bool false) rfl rfl rfl (fun aa ww hs _ => by have e170 := hs 170 _ rfl; have g170 := gt_of e170; have e171 := hs 171 _ rfl; have g171 := gt_of e171; simp only [execOp]; go_simp <;> first | rfl | omega) ?_
      refine p_exact_w rfl ?_
      refine wN ?_
      refine tN (wKK hK34 ?_)
      refine wCf rfl ?_
      refine wSk ?_
      refine bN (tN (wKK hK12 ?_))
      refine wReg ?_
      iterate 2 refine p_exact_w rfl ?_
      refine wI 40 rfl (IntWalk.i64_in _ (by omega)) ?_
      refine p_exact_w rfl ?_
      refine wN ?_
      refine tN ?_
      intro aa ww nn dd hs H
      refine ⟨⟨i + 1, b, la, lc, da, dc, ra, rc, sa, sc, (by omega), (by omega), hI, (by omega), nn, dd, (sat_sub ⟨rfl, rfl, rfl, rfl, rfl, rfl, rfl, rfl, rfl, trivial⟩ hs), (hp_sel [11, 12, 13, 14, 15, 16, 17, 18] H (by decide) rfl)⟩, ?_⟩
      have m9 := hs 9 _ rfl
      simp only [mu1_9, m9, intOf]
      omega
   refine wCond (E := x.kind == 1) rfl (fun z4 => ?_) (fun z4 => ?_)
   · skip
     have z4o : (x.kind != 1) = false := eqq_t z4
     refine wSk ?_
     refine tN (wKK hK22 ?_)
     refine wCond (E := x.kind == 1) rfl (fun _ => ?_) (fun zz => absurd (z4.symm.trans zz) (by decide))
     refine wSeqK fun KK35 hK35 => ?_
     refine wReg ?_
     refine wLr rfl tybook_Book 5 rfl (bkL b.conf b.index b.room (.slice la b.live.length lc) (.slice da b.done.length dc) b.modes) rfl rfl ?_
     refine p_exact_w rfl ?_
     refine wLr rfl tyapi_Call 4 rfl (xL x.x) rfl rfl ?_
     refine p_exact_w rfl ?_
     refine wLd rfl tyint 4 rfl rfl ?_
     refine p_exact_w rfl ?_
     refine wLd rfl tyint 4 rfl rfl ?_
     refine wC (l := [.agg (bkA b.conf b.index b.room (.slice la b.live.length lc) (.slice da b.done.length dc) b.modes), .agg (xA x.x), .int .i64 x.n, .int .i64 x.m]) Try.func13 rfl (by kernel_rfl) (fun wc H => placeC b la lc da dc x.x x.n x.m wc (hp_held H (by (repeat (first | exact List.Mem.head _ | apply List.Mem.tail)))) (hp_held H (by (repeat (first | exact List.Mem.head _ | apply List.Mem.tail)))) (Lib.hid hI.out.ok) ) rfl rfl rfl rfl ?_
     intro wc H
     rintro er wd ⟨la22_7, lc22_7, da22_7, dc22_7, rfl, hg⟩
     have H2 := hp_gotB H hg.2.2.2.2 hg.1 hg.2.1 (by decide) (by decide) hg.2.2.1 hg.2.2.2.1 (List.forall_mem_cons.2 ⟨(by (repeat (first | exact List.Mem.head _ | apply List.Mem.tail))), List.forall_mem_cons.2 ⟨(by (repeat (first | exact List.Mem.head _ | apply List.Mem.tail))), fun _ h => by cases h⟩⟩)
     refine ⟨_, rfl, wkAt H2 ?_⟩
     clear H H2
     iterate 4 refine p_exact_w rfl ?_
     refine wSr rfl tybook_Book 5 rfl rfl rfl rfl (bkL (((placeV b x.x x.n x.m).1).conf) (((placeV b x.x x.n x.m).1).index) (((placeV b x.x x.n x.m).1).room) (.slice la22_7 (((placeV b x.x x.n x.m).1).live.length) lc22_7) (.slice da22_7 (((placeV b x.x x.n x.m).1).done.length) dc22_7) (((placeV b x.x x.n x.m).1).modes)) (by first | rfl | (simp only [spl]; rfl)) ?_
     refine wSr rfl tyapi_Change 3 rfl rfl rfl rfl (chL ((placeV b x.x x.n x.m).2.1)) (by first | rfl | (simp only [spl]; rfl)) ?_
     refine p_exact_w rfl ?_
     refine wN ?_
     refine tN (wKK hK35 ?_)
     refine wReg ?_
     refine wLr rfl tyhoistwayref09_Book 8 rfl (rbL b.conf (b.room != 0) b.index (.slice ra ((liveV b).length) rc) (.slice sa b.done.length sc) b.modes) rfl rfl ?_
     refine p_exact_w rfl ?_
     refine wLr rfl tyapi_Call 6 rfl (xL x.x) rfl rfl ?_
     refine p_exact_w rfl ?_
     refine wLd rfl tyint 6 rfl rfl ?_
     refine p_exact_w rfl ?_
     refine wLd rfl tyint 6 rfl rfl ?_
     refine wC (l := [.agg (rbA b.conf (b.room != 0) b.index (.slice ra ((liveV b).length) rc) (.slice sa b.done.length sc) b.modes), .agg (xA x.x), .int .i64 x.n, .int .i64 x.m]) Try.func25 rfl (by kernel_rfl) (fun wc H => placeT b ra rc sa sc x.x x.n x.m wc (hp_held H (by (repeat (first | exact List.Mem.head _ | apply List.Mem.tail)))) (hp_held H (by (repeat (first | exact List.Mem.head _ | apply List.Mem.tail)))) hI.out (by omega)) rfl rfl rfl rfl ?_
     intro wc H
     rintro er wd ⟨rla23_7, rlc23_7, rda23_7, rdc23_7, rfl, hg⟩
     have H2 := hp_gotB H hg.2.2.2.2 hg.1 hg.2.1 (by decide) (by decide) hg.2.2.1 hg.2.2.2.1 (List.forall_mem_cons.2 ⟨(by (repeat (first | exact List.Mem.head _ | apply List.Mem.tail))), List.forall_mem_cons.2 ⟨(by (repeat (first | exact List.Mem.head _ | apply List.Mem.tail))), fun _ h => by cases h⟩⟩)
     refine ⟨_, rfl, wkAt H2 ?_⟩
     clear H H2
     iterate 4 refine p_exact_w rfl ?_
     refine wSr rfl tyhoistwayref09_Book 6 rfl rfl rfl rfl (rbL (((placeV b x.x x.n x.m).1).conf) (((placeV b x.x x.n x.m).1).room != 0) (((placeV b x.x x.n x.m).1).index) (.slice rla23_7 ((liveV ((placeV b x.x x.n x.m).1)).length) rlc23_7) (.slice rda23_7 (((placeV b x.x x.n x.m).1).done.length) rdc23_7) (((placeV b x.x x.n x.m).1).modes)) (by first | rfl | (simp only [spl]; rfl)) ?_
     refine wSr rfl tyapi_Change 4 rfl rfl rfl rfl (chL ((placeV b x.x x.n x.m).2.1)) (by first | rfl | (simp only [spl]; rfl)) ?_
     refine p_exact_w rfl ?_
     refine wN ?_
     refine bN (tN ?_)
     intro aa ww nn dd hs H
     exact hjn1 ((placeV b x.x x.n x.m).1) la22_7 lc22_7 da22_7 dc22_7 rla23_7 rlc23_7 rda23_7 rdc23_7 ((placeV b x.x x.n x.m).2.1) ((placeV b x.x x.n x.m).2.2) (Lib.hid (place_toR hI.out (by omega) _ _).2) (place_ix hbi.1 _ _) aa ww nn dd (sat_sub ⟨rfl, rfl, rfl, rfl, rfl, rfl, rfl, rfl, rfl, rfl, rfl, rfl, rfl, rfl, rfl, rfl, rfl, rfl, trivial⟩ hs) (hp_sel [7, 6, 5, 4, 2, 3, 0, 1, 8, 9, 10, 11, 12, 13, 14, 15, 16] H (by decide) rfl)
   · skip
     have z4o : (x.kind != 1) = true := eqq_f z4
     refine wReg ?_
     iterate 2 refine p_exact_w rfl ?_
     refine wN ?_
     refine tN (wKK hK22 ?_)
     refine wCond (E := x.kind == 2) rfl (fun z5 => ?_) (fun z5 => ?_)
     · skip
       have z5o : (x.kind != 2) = false := eqq_t z5
       refine wSeqK fun KK36 hK36 => ?_
       refine wReg ?_
       refine wLr rfl tybook_Book 5 rfl (bkL b.conf b.index b.room (.slice la b.live.length lc) (.slice da b.done.length dc) b.modes) rfl rfl ?_
       refine p_exact_w rfl ?_
       refine wLr rfl tyapi_Call 4 rfl (xL x.x) rfl rfl ?_
       refine p_exact_w rfl ?_
       refine wLd rfl tyint 4 rfl rfl ?_
       refine p_exact_w rfl ?_
       refine wLd rfl tyint 4 rfl rfl ?_
       refine wC (l := [.agg (bkA b.conf b.index b.room (.slice la b.live.length lc) (.slice da b.done.length dc) b.modes), .agg (xA x.x), .int .i64 x.n, .int .i64 x.m]) Try.func13 rfl (by kernel_rfl) (fun wc H => placeC b la lc da dc x.x x.n x.m wc (hp_held H (by (repeat (first | exact List.Mem.head _ | apply List.Mem.tail)))) (hp_held H (by (repeat (first | exact List.Mem.head _ | apply List.Mem.tail)))) (Lib.hid hI.out.ok) ) rfl rfl rfl rfl ?_
       intro wc H
       rintro er wd ⟨la22_7, lc22_7, da22_7, dc22_7, rfl, hg⟩
       have H2 := hp_gotB H hg.2.2.2.2 hg.1 hg.2.1 (by decide) (by decide) hg.2.2.1 hg.2.2.2.1 (List.forall_mem_cons.2 ⟨(by (repeat (first | exact List.Mem.head _ | apply List.Mem.tail))), List.forall_mem_cons.2 ⟨(by (repeat (first | exact List.Mem.head _ | apply List.Mem.tail))), fun _ h => by cases h⟩⟩)
       refine ⟨_, rfl, wkAt H2 ?_⟩
       clear H H2
       iterate 4 refine p_exact_w rfl ?_
       refine wSr rfl tybook_Book 5 rfl rfl rfl rfl (bkL (((placeV b x.x x.n x.m).1).conf) (((placeV b x.x x.n x.m).1).index) (((placeV b x.x x.n x.m).1).room) (.slice la22_7 (((placeV b x.x x.n x.m).1).live.length) lc22_7) (.slice da22_7 (((placeV b x.x x.n x.m).1).done.length) dc22_7) (((placeV b x.x x.n x.m).1).modes)) (by first | rfl | (simp only [spl]; rfl)) ?_
       refine wSr rfl tyapi_Change 3 rfl rfl rfl rfl (chL ((placeV b x.x x.n x.m).2.1)) (by first | rfl | (simp only [spl]; rfl)) ?_
       refine p_exact_w rfl ?_
       refine wN ?_
       refine tN (wKK hK36 ?_)
       refine wReg ?_
       refine wLr rfl tyhoistwayref09_Book 8 rfl (rbL b.conf (b.room != 0) b.index (.slice ra ((liveV b).length) rc) (.slice sa b.done.length sc) b.modes) rfl rfl ?_
       refine p_exact_w rfl ?_
       refine wLr rfl tyapi_Call 6 rfl (xL x.x) rfl rfl ?_
       refine p_exact_w rfl ?_
       refine wLd rfl tyint 6 rfl rfl ?_
       refine p_exact_w rfl ?_
       refine wLd rfl tyint 6 rfl rfl ?_
       refine wC (l := [.agg (rbA b.conf (b.room != 0) b.index (.slice ra ((liveV b).length) rc) (.slice sa b.done.length sc) b.modes), .agg (xA x.x), .int .i64 x.n, .int .i64 x.m]) Try.func25 rfl (by kernel_rfl) (fun wc H => placeT b ra rc sa sc x.x x.n x.m wc (hp_held H (by (repeat (first | exact List.Mem.head _ | apply List.Mem.tail)))) (hp_held H (by (repeat (first | exact List.Mem.head _ | apply List.Mem.tail)))) hI.out (by omega)) rfl rfl rfl rfl ?_
       intro wc H
       rintro er wd ⟨rla23_7, rlc23_7, rda23_7, rdc23_7, rfl, hg⟩
       have H2 := hp_gotB H hg.2.2.2.2 hg.1 hg.2.1 (by decide) (by decide) hg.2.2.1 hg.2.2.2.1 (List.forall_mem_cons.2 ⟨(by (repeat (first | exact List.Mem.head _ | apply List.Mem.tail))), List.forall_mem_cons.2 ⟨(by (repeat (first | exact List.Mem.head _ | apply List.Mem.tail))), fun _ h => by cases h⟩⟩)
       refine ⟨_, rfl, wkAt H2 ?_⟩
       clear H H2
       iterate 4 refine p_exact_w rfl ?_
       refine wSr rfl tyhoistwayref09_Book 6 rfl rfl rfl rfl (rbL (((placeV b x.x x.n x.m).1).conf) (((placeV b x.x x.n x.m).1).room != 0) (((placeV b x.x x.n x.m).1).index) (.slice rla23_7 ((liveV ((placeV b x.x x.n x.m).1)).length) rlc23_7) (.slice rda23_7 (((placeV b x.x x.n x.m).1).done.length) rdc23_7) (((placeV b x.x x.n x.m).1).modes)) (by first | rfl | (simp only [spl]; rfl)) ?_
       refine wSr rfl tyapi_Change 4 rfl rfl rfl rfl (chL ((placeV b x.x x.n x.m).2.1)) (by first | rfl | (simp only [spl]; rfl)) ?_
       refine p_exact_w rfl ?_
       refine wN ?_
       refine bN (tN ?_)
       intro aa ww nn dd hs H
       exact hjn1 ((placeV b x.x x.n x.m).1) la22_7 lc22_7 da22_7 dc22_7 rla23_7 rlc23_7 rda23_7 rdc23_7 ((placeV b x.x x.n x.m).2.1) ((placeV b x.x x.n x.m).2.2) (Lib.hid (place_toR hI.out (by omega) _ _).2) (place_ix hbi.1 _ _) aa ww nn dd (sat_sub ⟨rfl, rfl, rfl, rfl, rfl, rfl, rfl, rfl, rfl, rfl, rfl, rfl, rfl, rfl, rfl, rfl, rfl, rfl, trivial⟩ hs) (hp_sel [7, 6, 5, 4, 2, 3, 0, 1, 8, 9, 10, 11, 12, 13, 14, 15, 16] H (by decide) rfl)
     · skip
       have z5o : (x.kind != 2) = true := eqq_f z5
       refine wSeqK fun KK37 hK37 => ?_
       refine wReg ?_
       iterate 2 refine p_exact_w rfl ?_
       refine wN ?_
       refine tN (wKK hK37 ?_)
       refine wCond (E := x.kind == 3) rfl (fun z6 => ?_) (fun z6 => ?_)
       · skip
         have z6o : (x.kind != 3) = false := eqq_t z6
         refine wSeqK fun KK38 hK38 => ?_
         refine wReg ?_
         refine wLr rfl tybook_Book 5 rfl (bkL b.conf b.index b.room (.slice la b.live.length lc) (.slice da b.done.length dc) b.modes) rfl rfl ?_
         refine p_exact_w rfl ?_
         refine wLd rfl tyint 4 rfl rfl ?_
         refine p_exact_w rfl ?_
         refine wLd rfl tyint 4 rfl rfl ?_
         refine wC (l := [.agg (bkA b.conf b.index b.room (.slice la b.live.length lc) (.slice da b.done.length dc) b.modes), .int .i64 x.n, .int .i64 x.m]) Try.func14 rfl (by kernel_rfl) (fun wc H => cancelBC b la lc da dc x.n x.m wc (hp_held H (by (repeat (first | exact List.Mem.head _ | apply List.Mem.tail)))) (hp_held H (by (repeat (first | exact List.Mem.head _ | apply List.Mem.tail)))) (Lib.hid hI.out.ok) ) rfl rfl rfl rfl ?_
         intro wc H
         rintro er wd ⟨la25_5, lc25_5, da25_5, dc25_5, rfl, hg⟩
         have H2 := hp_gotB H hg.2.2.2.2 hg.1 hg.2.1 (by decide) (by decide) hg.2.2.1 hg.2.2.2.1 (List.forall_mem_cons.2 ⟨(by (repeat (first | exact List.Mem.head _ | apply List.Mem.tail))), List.forall_mem_cons.2 ⟨(by (repeat (first | exact List.Mem.head _ | apply List.Mem.tail))), fun _ h => by cases h⟩⟩)
         refine ⟨_, rfl, wkAt H2 ?_⟩
         clear H H2
         iterate 4 refine p_exact_w rfl ?_
         refine wSr rfl tybook_Book 5 rfl rfl rfl rfl (bkL (((cancelBV b x.n x.m).1).conf) (((cancelBV b x.n x.m).1).index) (((cancelBV b x.n x.m).1).room) (.slice la25_5 (((cancelBV b x.n x.m).1).live.length) lc25_5) (.slice da25_5 (((cancelBV b x.n x.m).1).done.length) dc25_5) (((cancelBV b x.n x.m).1).modes)) (by first | rfl | (simp only [spl]; rfl)) ?_
         refine wSr rfl tyapi_Change 3 rfl rfl rfl rfl (chL ((cancelBV b x.n x.m).2.1)) (by first | rfl | (simp only [spl]; rfl)) ?_
         refine p_exact_w rfl ?_
         refine wN ?_
         refine tN (wKK hK38 ?_)
         refine wReg ?_
         refine wLr rfl tyhoistwayref09_Book 8 rfl (rbL b.conf (b.room != 0) b.index (.slice ra ((liveV b).length) rc) (.slice sa b.done.length sc) b.modes) rfl rfl ?_
         refine p_exact_w rfl ?_
         refine wLd rfl tyint 6 rfl rfl ?_
         refine p_exact_w rfl ?_
         refine wLd rfl tyint 6 rfl rfl ?_
         refine wC (l := [.agg (rbA b.conf (b.room != 0) b.index (.slice ra ((liveV b).length) rc) (.slice sa b.done.length sc) b.modes), .int .i64 x.n, .int .i64 x.m]) Try.func26 rfl (by kernel_rfl) (fun wc H => cancelT b ra rc sa sc x.n x.m wc (hp_held H (by (repeat (first | exact List.Mem.head _ | apply List.Mem.tail)))) (hp_held H (by (repeat (first | exact List.Mem.head _ | apply List.Mem.tail)))) hI.out ) rfl rfl rfl rfl ?_
         intro wc H
         rintro er wd ⟨rla26_5, rlc26_5, rda26_5, rdc26_5, rfl, hg⟩
         have H2 := hp_gotB H hg.2.2.2.2 hg.1 hg.2.1 (by decide) (by decide) hg.2.2.1 hg.2.2.2.1 (List.forall_mem_cons.2 ⟨(by (repeat (first | exact List.Mem.head _ | apply List.Mem.tail))), List.forall_mem_cons.2 ⟨(by (repeat (first | exact List.Mem.head _ | apply List.Mem.tail))), fun _ h => by cases h⟩⟩)
         refine ⟨_, rfl, wkAt H2 ?_⟩
         clear H H2
         iterate 4 refine p_exact_w rfl ?_
         refine wSr rfl tyhoistwayref09_Book 6 rfl rfl rfl rfl (rbL (((cancelBV b x.n x.m).1).conf) (((cancelBV b x.n x.m).1).room != 0) (((cancelBV b x.n x.m).1).index) (.slice rla26_5 ((liveV ((cancelBV b x.n x.m).1)).length) rlc26_5) (.slice rda26_5 (((cancelBV b x.n x.m).1).done.length) rdc26_5) (((cancelBV b x.n x.m).1).modes)) (by first | rfl | (simp only [spl]; rfl)) ?_
         refine wSr rfl tyapi_Change 4 rfl rfl rfl rfl (chL ((cancelBV b x.n x.m).2.1)) (by first | rfl | (simp only [spl]; rfl)) ?_
         refine p_exact_w rfl ?_
         refine wN ?_
         refine bN (tN ?_)
         intro aa ww nn dd hs H
         exact hjn1 ((cancelBV b x.n x.m).1) la25_5 lc25_5 da25_5 dc25_5 rla26_5 rlc26_5 rda26_5 rdc26_5 ((cancelBV b x.n x.m).2.1) ((cancelBV b x.n x.m).2.2) (Lib.hid (cancel_toR hI.out _ _).2) (cancel_ix hbi.1 _ _) aa ww nn dd (sat_sub ⟨rfl, rfl, rfl, rfl, rfl, rfl, rfl, rfl, rfl, rfl, rfl, rfl, rfl, rfl, rfl, rfl, rfl, rfl, trivial⟩ hs) (hp_sel [7, 6, 5, 4, 2, 3, 0, 1, 8, 9, 10, 11, 12, 13, 14, 15, 16] H (by decide) rfl)
       · skip
         have z6o : (x.kind != 3) = true := eqq_f z6
         refine wSeqK fun KK39 hK39 => ?_
         refine wReg ?_
         iterate 2 refine p_exact_w rfl ?_
         refine wN ?_
         refine tN (wKK hK39 ?_)
         refine wCond (E := x.kind == 4) rfl (fun z7 => ?_) (fun z7 => ?_)
         · skip
           have z7o : (x.kind != 4) = false := eqq_t z7
           refine wSeqK fun KK40 hK40 => ?_
           refine wReg ?_
           refine wLr rfl tybook_Book 5 rfl (bkL b.conf b.index b.room (.slice la b.live.length lc) (.slice da b.done.length dc) b.modes) rfl rfl ?_
           refine p_exact_w rfl ?_
           refine wLd rfl tyint 4 rfl rfl ?_
           refine p_exact_w rfl ?_
           refine wLd rfl tyint 4 rfl rfl ?_
           refine wC (l := [.agg (bkA b.conf b.index b.room (.slice la b.live.length lc) (.slice da b.done.length dc) b.modes), .int .i64 x.n, .int .i64 x.m]) Try.func15 rfl (by kernel_rfl) (fun wc H => setC b la lc da dc x.n x.m wc (hp_held H (by (repeat (first | exact List.Mem.head _ | apply List.Mem.tail)))) (hp_held H (by (repeat (first | exact List.Mem.head _ | apply List.Mem.tail)))) (Lib.hid hI.out.ok) ) rfl rfl rfl rfl ?_
           intro wc H
           rintro er wd ⟨la28_5, lc28_5, da28_5, dc28_5, rfl, hg⟩
           have H2 := hp_gotB H hg.2.2.2.2 hg.1 hg.2.1 (by decide) (by decide) hg.2.2.1 hg.2.2.2.1 (List.forall_mem_cons.2 ⟨(by (repeat (first | exact List.Mem.head _ | apply List.Mem.tail))), List.forall_mem_cons.2 ⟨(by (repeat (first | exact List.Mem.head _ | apply List.Mem.tail))), fun _ h => by cases h⟩⟩)
           refine ⟨_, rfl, wkAt H2 ?_⟩
           clear H H2
           iterate 4 refine p_exact_w rfl ?_
           refine wSr rfl tybook_Book 5 rfl rfl rfl rfl (bkL (((setV b x.n x.m).1).conf) (((setV b x.n x.m).1).index) (((setV b x.n x.m).1).room) (.slice la28_5 (((setV b x.n x.m).1).live.length) lc28_5) (.slice da28_5 (((setV b x.n x.m).1).done.length) dc28_5) (((setV b x.n x.m).1).modes)) (by first | rfl | (simp only [spl]; rfl)) ?_
           refine wSr rfl tyapi_Change 3 rfl rfl rfl rfl (chL ((setV b x.n x.m).2.1)) (by first | rfl | (simp only [spl]; rfl)) ?_
           refine p_exact_w rfl ?_
           refine wN ?_
           refine tN (wKK hK40 ?_)
           refine wReg ?_
           refine wLr rfl tyhoistwayref09_Book 8 rfl (rbL b.conf (b.room != 0) b.index (.slice ra ((liveV b).length) rc) (.slice sa b.done.length sc) b.modes) rfl rfl ?_
           refine p_exact_w rfl ?_
           refine wLd rfl tyint 6 rfl rfl ?_
           refine p_exact_w rfl ?_
           refine wLd rfl tyint 6 rfl rfl ?_
           refine wC (l := [.agg (rbA b.conf (b.room != 0) b.index (.slice ra ((liveV b).length) rc) (.slice sa b.done.length sc) b.modes), .int .i64 x.n, .int .i64 x.m]) Try.func27 rfl (by kernel_rfl) (fun wc H => setT b ra rc sa sc x.n x.m wc (hp_held H (by (repeat (first | exact List.Mem.head _ | apply List.Mem.tail)))) (hp_held H (by (repeat (first | exact List.Mem.head _ | apply List.Mem.tail)))) hI.out ) rfl rfl rfl rfl ?_
           intro wc H
           rintro er wd ⟨rla29_5, rlc29_5, rda29_5, rdc29_5, rfl, hg⟩
           have H2 := hp_gotB H hg.2.2.2.2 hg.1 hg.2.1 (by decide) (by decide) hg.2.2.1 hg.2.2.2.1 (List.forall_mem_cons.2 ⟨(by (repeat (first | exact List.Mem.head _ | apply List.Mem.tail))), List.forall_mem_cons.2 ⟨(by (repeat (first | exact List.Mem.head _ | apply List.Mem.tail))), fun _ h => by cases h⟩⟩)
           refine ⟨_, rfl, wkAt H2 ?_⟩
           clear H H2
           iterate 4 refine p_exact_w rfl ?_
           refine wSr rfl tyhoistwayref09_Book 6 rfl rfl rfl rfl (rbL (((setV b x.n x.m).1).conf) (((setV b x.n x.m).1).room != 0) (((setV b x.n x.m).1).index) (.slice rla29_5 ((liveV ((setV b x.n x.m).1)).length) rlc29_5) (.slice rda29_5 (((setV b x.n x.m).1).done.length) rdc29_5) (((setV b x.n x.m).1).modes)) (by first | rfl | (simp only [spl]; rfl)) ?_
           refine wSr rfl tyapi_Change 4 rfl rfl rfl rfl (chL ((setV b x.n x.m).2.1)) (by first | rfl | (simp only [spl]; rfl)) ?_
           refine p_exact_w rfl ?_
           refine wN ?_
           refine bN (tN ?_)
           intro aa ww nn dd hs H
           exact hjn1 ((setV b x.n x.m).1) la28_5 lc28_5 da28_5 dc28_5 rla29_5 rlc29_5 rda29_5 rdc29_5 ((setV b x.n x.m).2.1) ((setV b x.n x.m).2.2) (Lib.hid (set_toR hI.out _ _).2) (set_ix hbi.1 _ _) aa ww nn dd (sat_sub ⟨rfl, rfl, rfl, rfl, rfl, rfl, rfl, rfl, rfl, rfl, rfl, rfl, rfl, rfl, rfl, rfl, rfl, rfl, trivial⟩ hs) (hp_sel [7, 6, 5, 4, 2, 3, 0, 1, 8, 9, 10, 11, 12, 13, 14, 15, 16] H (by decide) rfl)
         · skip
           have z7o : (x.kind != 4) = true := eqq_f z7
           refine wSeqK fun KK41 hK41 => ?_
           refine wReg ?_
           refine wLr rfl tybook_Book 5 rfl (bkL b.conf b.index b.room (.slice la b.live.length lc) (.slice da b.done.length dc) b.modes) rfl rfl ?_
           refine p_exact_w rfl ?_
           refine wLr rfl tyapi_Change 4 rfl (chL x.ch) rfl rfl ?_
           refine wC (l := [.agg (bkA b.conf b.index b.room (.slice la b.live.length lc) (.slice da b.done.length dc) b.modes), .agg (chA x.ch)]) Try.func16 rfl (by kernel_rfl) (fun wc H => applyC b la lc da dc x.ch wc (hp_held H (by (repeat (first | exact List.Mem.head _ | apply List.Mem.tail)))) (hp_held H (by (repeat (first | exact List.Mem.head _ | apply List.Mem.tail)))) (Lib.hid hI.out.ok) ) rfl rfl rfl rfl ?_
           intro wc H
           rintro er wd ⟨la18_3, lc18_3, da18_3, dc18_3, rfl, hg⟩
           have H2 := hp_gotB H hg.2.2.2.2 hg.1 hg.2.1 (by decide) (by decide) hg.2.2.1 hg.2.2.2.1 (List.forall_mem_cons.2 ⟨(by (repeat (first | exact List.Mem.head _ | apply List.Mem.tail))), List.forall_mem_cons.2 ⟨(by (repeat (first | exact List.Mem.head _ | apply List.Mem.tail))), fun _ h => by cases h⟩⟩)
           refine ⟨_, rfl, wkAt H2 ?_⟩
           clear H H2
           iterate 3 refine p_exact_w rfl ?_
           refine wSr rfl tybook_Book 5 rfl rfl rfl rfl (bkL (((applyV b x.ch).1).conf) (((applyV b x.ch).1).index) (((applyV b x.ch).1).room) (.slice la18_3 (((applyV b x.ch).1).live.length) lc18_3) (.slice da18_3 (((applyV b x.ch).1).done.length) dc18_3) (((applyV b x.ch).1).modes)) (by first | rfl | (simp only [spl]; rfl)) ?_
           refine p_exact_w rfl ?_
           refine wN ?_
           refine tN (wKK hK41 ?_)
           refine wReg ?_
           refine wLr rfl tyhoistwayref09_Book 8 rfl (rbL b.conf (b.room != 0) b.index (.slice ra ((liveV b).length) rc) (.slice sa b.done.length sc) b.modes) rfl rfl ?_
           refine p_exact_w rfl ?_
           refine wLr rfl tyapi_Change 6 rfl (chL x.ch) rfl rfl ?_
           refine wC (l := [.agg (rbA b.conf (b.room != 0) b.index (.slice ra ((liveV b).length) rc) (.slice sa b.done.length sc) b.modes), .agg (chA x.ch)]) Try.func28 rfl (by kernel_rfl) (fun wc H => applyT b ra rc sa sc x.ch wc (hp_held H (by (repeat (first | exact List.Mem.head _ | apply List.Mem.tail)))) (hp_held H (by (repeat (first | exact List.Mem.head _ | apply List.Mem.tail)))) hI.out (by omega) hchi) rfl rfl rfl rfl ?_
           intro wc H
           rintro er wd ⟨rla19_3, rlc19_3, rda19_3, rdc19_3, rfl, hg⟩
           have H2 := hp_gotB H hg.2.2.2.2 hg.1 hg.2.1 (by decide) (by decide) hg.2.2.1 hg.2.2.2.1 (List.forall_mem_cons.2 ⟨(by (repeat (first | exact List.Mem.head _ | apply List.Mem.tail))), List.forall_mem_cons.2 ⟨(by (repeat (first | exact List.Mem.head _ | apply List.Mem.tail))), fun _ h => by cases h⟩⟩)
           refine ⟨_, rfl, wkAt H2 ?_⟩
           clear H H2
           iterate 3 refine p_exact_w rfl ?_
           refine wSr rfl tyhoistwayref09_Book 6 rfl rfl rfl rfl (rbL (((applyV b x.ch).1).conf) (((applyV b x.ch).1).room != 0) (((applyV b x.ch).1).index) (.slice rla19_3 ((liveV ((applyV b x.ch).1)).length) rlc19_3) (.slice rda19_3 (((applyV b x.ch).1).done.length) rdc19_3) (((applyV b x.ch).1).modes)) (by first | rfl | (simp only [spl]; rfl)) ?_
           refine p_exact_w rfl ?_
           refine wN ?_
           refine bN (tN ?_)
           intro aa ww nn dd hs H
           exact hjn1 ((applyV b x.ch).1) la18_3 lc18_3 da18_3 dc18_3 rla19_3 rlc19_3 rda19_3 rdc19_3 (⟨0, (⟨0, 0, 0, 0, 0, 0, 0, 0⟩ : CallV), 0, 0⟩ : ChgV) ((applyV b x.ch).2) (Lib.hid (apply_toR hI.out (by omega) hchi).2) (apply_ix hbi.1 _) aa ww nn dd (sat_sub ⟨rfl, rfl, rfl, rfl, rfl, rfl, rfl, rfl, rfl, rfl, rfl, rfl, rfl, rfl, rfl, rfl, rfl, rfl, trivial⟩ hs) (hp_sel [7, 6, 5, 4, 2, 3, 0, 1, 8, 9, 10, 11, 12, 13, 14, 15, 16] H (by decide) rfl)
 · skip
   refine wEx ?_
   refine tX (tX (bX (tN (wKK hK8 ?_))))
   refine wSeqK fun KK42 hK42 => ?_
   refine wReg ?_
   refine p_exact_w rfl ?_
   refine wN ?_
   refine tN (wKK hK42 ?_)
   refine wRet ?_
   exact wR1 rfl rfl (fun ww H => ⟨rfl, H.out.off⟩)
end Go.Proofs.Ytnanihffljpdbaa.Bk
