/- Calls that go on: the walk. -/
import Derived.Test.YtnanihffljpdbaaProg
import Derived.Below
import Derived.WalkKit
import Derived.KernelRfl
import Derived.RowKit3
import Derived.Deep.LoopGhost
import Derived.Deep.QuietTactic
import Derived.BigQuiet
import Derived.WideLaws
import Derived.Deep.DeepCutAuto
import Derived.Deep.CutBlock
import Derived.Lib.Hide
import Derived.Laws.BitsLemmas
import Derived.Laws.Bits64
import Derived.Laws.BitsAllLaws
import Derived.IntWalk
import Derived.Outline
import Derived.WalkSpells
import Derived.Test.YtnanihffljpdbaaMem
import Derived.Test.YtnanihffljpdbaaBp3
namespace Go.Proofs.Ytnanihffljpdbaa.Bk
open Go.RowKit Go.Proofs.Ytnanihffljpdbaa.Mem Go.Proofs.Ytnanihffljpdbaa.Reg Go.Proofs.Ytnanihffljpdbaa.Wk Go.Proofs.Ytnanihffljpdbaa.Si Go.Proofs.Ytnanihffljpdbaa.Ca Go.Proofs.Ytnanihffljpdbaa.Sc6
set_option linter.unusedVariables false
set_option linter.unusedSimpArgs false

instance : Inhabited CallV := ⟨zeroC⟩
theorem exec_rem {P : Program} {o : Oper} {act : Act} {w : World} {p q : Operand} {ty yt : TypeId} {kd : IntKind} {u v : Int} (ho : o.op = .binOp .rem ty p q yt) (hp : act.eval p = .int kd u) (hq : act.eval q = .int kd v) (hv : v ≠ 0) : (execOp act.eval o).run P w = .ok (.value (.int kd (u.tmod v))) w := by
  unfold execOp
  simp [ho, hp, hq, binOp_rem, Op.intDiv, hv, eqGuard]
theorem u64_nn (n : Int) : 0 ≤ IntKind.u64.wrap n := by
  have h1 : IntKind.u64.bits = 64 := rfl
  unfold IntKind.wrap
  simp [h1, IntKind.signed]
  omega
theorem pick_is (pick : Int) (len : Nat) (h : 0 < len) (h2 : len ≤ 64) : ∃ P : Int, ∃ k q : Nat, IntKind.u64.wrap pick = P ∧ 0 ≤ P ∧ IntKind.u64.wrap (8 * (len : Int)) = 8 * (len : Int) ∧ P.tmod (8 * (len : Int)) = (k : Int) ∧ IntKind.i64.wrap (k : Int) = (k : Int) ∧ IntKind.i64.wrap ((k : Int).tdiv 8) = (q : Int) ∧ q < len := by
  have hP := u64_nn pick
  have hm : 0 ≤ (IntKind.u64.wrap pick).tmod (8 * (len : Int)) ∧ (IntKind.u64.wrap pick).tmod (8 * (len : Int)) < 8 * (len : Int) := ⟨Int.tmod_nonneg _ hP, Int.tmod_lt_of_pos _ (by omega)⟩
  have hq : ((((IntKind.u64.wrap pick).tmod (8 * (len : Int))).toNat : Int).tdiv 8) = (((((IntKind.u64.wrap pick).tmod (8 * (len : Int))).toNat / 8 : Nat)) : Int) := by rw [Int.tdiv_eq_ediv_of_nonneg (by omega)]; omega
  refine ⟨_, ((IntKind.u64.wrap pick).tmod (8 * (len : Int))).toNat, ((IntKind.u64.wrap pick).tmod (8 * (len : Int))).toNat / 8, rfl, hP, ?_, by omega, IntWalk.i64_in _ (by omega), ?_, by omega⟩
  · exact IntWalk.u64_in _ (by omega)
  · rw [hq, IntWalk.i64_in _ (by omega)]
theorem five_is (n : Int) : ∃ m : Int, IntKind.i64.wrap ((IntKind.u64.wrap n).tmod 5) = m ∧ 0 ≤ m ∧ m < 5 := by
  have hP := u64_nn n
  have hm : 0 ≤ (IntKind.u64.wrap n).tmod 5 ∧ (IntKind.u64.wrap n).tmod 5 < 5 := ⟨Int.tmod_nonneg _ hP, Int.tmod_lt_of_pos _ (by omega)⟩
  exact ⟨_, IntWalk.i64_in _ (by omega), hm⟩
def tab_nextT : Wk.Tab := [(38, 2, 2), (38, 4, 4), (38, 5, 5), (61, 2, 19), (61, 3, 20)]
theorem p_nextT {ops : Array Oper} {rest : List Oper} {o : Oper} {w0 : World} {Q : Exit → Act → World → Prop} {S : List Nat} {R : List Res} {K K' : Wk.Env} {N : Nat} (h : Wk.stp tab_nextT N ops K o = some K') (n : Wk.Wk N S w0 K' R (wpList Try.prog ops Q rest)) : Wk.Wk N S w0 K R (wpList Try.prog ops Q (o :: rest)) := Wk.wP (T := tab_nextT) (by kernel_rfl) h n
set_option maxHeartbeats 16000000 in
set_option maxRecDepth 20000 in
theorem nextT (b : BookV) (la : Option Addr) (lc : Nat) (da : Option Addr) (dc : Nat) (pick : Int) (n : Int) (w : World) (h1 : (rS la lc 8 ((liveV b).map callRow)).holds w) (h2 : (rS da dc 8 (b.done.map callRow)).holds w) (hI : InvB b) (hlp : 0 < (liveV b).length) : Calls Try.prog 31 #[.agg (rbA b.conf (b.room != 0) b.index (.slice la ((liveV b).length) lc) (.slice da b.done.length dc) b.modes), .int .i64 pick, .int .i64 n] w fun e w' => ∃ y : CallV, e = .returned (.agg #[.int .i64 (b.index + 1), .int .i64 y.id, .int .i64 y.kind, .int .i64 y.src, .int .i64 y.dst, .int .i64 y.car, .int .i64 y.state, .int .i64 y.owner, .int .i64 y.born, .int .i64 0, .int .i64 0]) ∧ Off [] w w' := by
 have H := Lib.hid (Hp.start [] w)
 have H := hp_old H h1 (by decide)
 have H := hp_old H h2 (by decide)
 clear h1 h2
 have hbi := hI.ok.index
 have hsm := hI.small
 have hll := live_len b
 obtain ⟨P, k, q, hP, hP0, hL8, hk, hkw, hq, hql⟩ := pick_is pick (liveV b).length hlp (by omega)
 obtain ⟨m, hm, hm0, hm5⟩ := five_is n
 have hq2 : IntKind.i64.wrap ((k : Int) / 8) = (q : Int) := by rw [← hq, Int.tdiv_eq_ediv_of_nonneg (by omega)]
 have hl64 : (liveV b).length ≤ 64 := by omega
 clear hll hsm
 refine wStart (args := [.agg (rbA b.conf (b.room != 0) b.index (.slice la ((liveV b).length) lc) (.slice da b.done.length dc) b.modes), .int .i64 pick, .int .i64 n]) Try.func31 rfl rfl rfl H ?_
 clear H
 show Wk 55 _ _ [(0, .agg (rbA b.conf (b.room != 0) b.index (.slice la ((liveV b).length) lc) (.slice da b.done.length dc) b.modes)), (1, .int .i64 pick), (2, .int .i64 n)] _ _
 refine wSeqK fun KK1 hK1 => ?_
 refine wReg ?_
 refine wBx rfl rfl rfl fun b3 => ?_
 refine wAl rfl rfl tyapi_Change fun b6 => ?_
 refine wN ?_
 refine tN (wKK hK1 ?_)
 refine wSeqK fun KK2 hK2 => ?_
 refine wReg ?_
 refine p_nextT rfl ?_
 refine wE (.int .u64 P) rfl rfl rfl (fun aa ww hs _ => by have e9 := hs 9 _ rfl; have g9 := gt_of e9; simp only [execOp]; go_simp <;> first | rfl | omega) ?_
 refine p_nextT rfl ?_
 refine wLd rfl tyS_api_Call 1 rfl rfl ?_
 refine wE (.int .i64 ((liveV b).length)) rfl rfl rfl (fun aa ww hs _ => by have e12 := hs 12 _ rfl; have g12 := gt_of e12; simp only [execOp]; go_simp <;> first | rfl | omega) ?_
 refine p_nextT rfl ?_
 refine wI 14 rfl (IntWalk.i64_in _ (by omega)) ?_
 refine wE (.int .u64 (8 * ((liveV b).length : Int))) rfl rfl rfl (fun aa ww hs _ => by have e14 := hs 14 _ rfl; have g14 := gt_of e14; simp only [execOp]; go_simp <;> first | rfl | omega) ?_
 refine wE (.int .u64 (P.tmod (8 * ((liveV b).length : Int)))) rfl rfl rfl (fun aa ww hs _ => exec_rem rfl (hs _ _ rfl) (hs _ _ rfl) (by omega)) ?_
 refine wI 16 rfl hk ?_
 refine wE (.int .i64 k) rfl rfl rfl (fun aa ww hs _ => by have e16 := hs 16 _ rfl; have g16 := gt_of e16; simp only [execOp]; go_simp <;> first | rfl | omega) ?_
 refine p_nextT rfl ?_
 refine wN ?_
 refine tN (wKK hK2 ?_)
 refine wSeqK fun KK3 hK3 => ?_
 intro aa ww nn dd hs H
 obtain ⟨y, rfl⟩ := some_of_row (i := q) (hp_held H (show rS la _ 8 ((liveV b).map callRow) ∈ _ by (repeat (first | exact List.Mem.head _ | apply List.Mem.tail)))) (by simp; omega)
 obtain ⟨x, hx⟩ : ∃ x, (liveV b)[q]? = some x := ⟨(liveV b)[q], List.getElem?_eq_getElem (by omega)⟩
 have HRx := Lib.hid (show ((liveV b).map callRow)[q]? = some [.int .i64 x.id, .int .i64 x.kind, .int .i64 x.src, .int .i64 x.dst, .int .i64 x.car, .int .i64 x.state, .int .i64 x.owner, .int .i64 x.born] by rw [List.getElem?_map, hx]; rfl)
 clear hx
 refine wIn nn dd hs H ?_
 refine wReg ?_
 refine p_nextT rfl ?_
 refine wLd rfl tyS_api_Call 1 rfl rfl ?_
 refine p_nextT rfl ?_
 refine wE (.int .i64 q) rfl rfl rfl (fun aa ww hs _ => by have e20 := hs 20 _ rfl; have g20 := gt_of e20; simp only [execOp]; go_simp <;> first | rfl | omega) ?_
 refine wE (.pointer (some (y.add (q * 8)))) rfl rfl rfl (fun aa ww hs _ => by have e19 := hs 19 _ rfl; have g19 := gt_of e19; have e21 := hs 21 _ rfl; have g21 := gt_of e21; simp only [execOp]; go_simp <;> first | rfl | omega) ?_
 refine wX 23 (.agg (xA x)) rfl (fun aa ww KK hs H _ hk => hpS_load tyapi_Call H (y := y) rfl (hs _ _ rfl) (wnt_ok hs rfl) (by (repeat (first | exact List.Mem.head _ | apply List.Mem.tail))) HRx.out rfl hk) ?_
 refine wAl rfl rfl tyapi_Call fun b8 => ?_
 refine wSr rfl tyapi_Call 0 rfl rfl rfl rfl (xL x) (by first | rfl | (simp only [spl]; rfl)) ?_
 refine wN ?_
 refine tN (wKK hK3 ?_)
 refine wSeqK fun KK4 hK4 => ?_
 refine wSeqK fun KK5 hK5 => ?_
 refine wReg ?_
 refine p_nextT rfl ?_
 refine wE (.int .i64 ((k : Int).tmod 8)) rfl rfl rfl (fun aa ww hs _ => exec_rem rfl (hs _ _ rfl) (rfl) (by omega)) ?_
 refine wN ?_
 refine tN (wKK hK5 ?_)
 refine wBlk ?_
 refine wSeqK fun KK6 hK6 => ?_
 refine wSeqK fun KK7 hK7 => ?_
 refine wReg ?_
 iterate 2 refine p_nextT rfl ?_
 refine wN ?_
 refine tN (wKK hK7 ?_)
 refine wCond (E := ((k : Int).tmod 8) == 0) rfl (fun z1 => ?_) (fun z1 => ?_)
 · skip
   have z1o : (((k : Int).tmod 8) != 0) = false := eqq_t z1
   refine wSk ?_
   refine tN (wKK hK6 ?_)
   refine wCond (E := ((k : Int).tmod 8) == 0) rfl (fun _ => ?_) (fun zz => absurd (z1.symm.trans zz) (by decide))
   refine wSeqK fun KK8 hK8 => ?_
   refine wReg ?_
   refine p_nextT rfl ?_
   refine wSt rfl tyint 0 rfl rfl rfl rfl ?_
   refine wN ?_
   refine tN (wKK hK8 ?_)
   refine wReg ?_
   refine p_nextT rfl ?_
   refine wSt rfl tyint 0 rfl rfl rfl rfl ?_
   refine wN ?_
   refine bN (tN (wKK hK4 ?_))
   refine wSeqK fun KK9 hK9 => ?_
   refine wReg ?_
   refine p_nextT rfl ?_
   refine wLd rfl tyint 2 rfl rfl ?_
   refine p_nextT rfl ?_
   refine wI 52 rfl (IntWalk.i64_in _ (by omega)) ?_
   refine wLr rfl tyapi_Call 0 rfl [.int .i64 x.id, .int .i64 x.kind, .int .i64 x.src, .int .i64 x.dst, .int .i64 1, .int .i64 2, .int .i64 x.owner, .int .i64 x.born] rfl rfl ?_
   refine wE (.agg #[.int .i64 (b.index + 1), .int .i64 x.id, .int .i64 x.kind, .int .i64 x.src, .int .i64 x.dst, .int .i64 1, .int .i64 2, .int .i64 x.owner, .int .i64 x.born, .int .i64 0, .int .i64 0]) rfl rfl rfl (fun aa ww hs _ => by have e52 := hs 52 _ rfl; have g52 := gt_of e52; have e53 := hs 53 _ rfl; have g53 := gt_of e53; simp only [execOp]; go_simp <;> first | rfl | omega) ?_
   refine wSr rfl tyapi_Change 1 rfl rfl rfl rfl [.int .i64 (b.index + 1), .int .i64 x.id, .int .i64 x.kind, .int .i64 x.src, .int .i64 x.dst, .int .i64 1, .int .i64 2, .int .i64 x.owner, .int .i64 x.born, .int .i64 0, .int .i64 0] (by first | rfl | (simp only [spl]; rfl)) ?_
   refine wN ?_
   refine tN (wKK hK9 ?_)
   refine wRet ?_
   exact wRc tyapi_Change rfl rfl 1 rfl rfl (fun ww H => ⟨(⟨x.id, x.kind, x.src, x.dst, 1, 2, x.owner, x.born⟩ : CallV), rfl, H.out.off⟩)
 · skip
   have z1o : (((k : Int).tmod 8) != 0) = true := eqq_f z1
   refine wSeqK fun KK10 hK10 => ?_
   refine wReg ?_
   iterate 2 refine p_nextT rfl ?_
   refine wN ?_
   refine tN (wKK hK10 ?_)
   refine wCond (E := ((k : Int).tmod 8) == 1) rfl (fun z2 => ?_) (fun z2 => ?_)
   · skip
     have z2o : (((k : Int).tmod 8) != 1) = false := eqq_t z2
     refine wSk ?_
     refine tN (wKK hK6 ?_)
     refine wCond (E := ((k : Int).tmod 8) == 1) rfl (fun _ => ?_) (fun zz => absurd (z2.symm.trans zz) (by decide))
     refine wSeqK fun KK11 hK11 => ?_
     refine wReg ?_
     refine p_nextT rfl ?_
     refine wSt rfl tyint 0 rfl rfl rfl rfl ?_
     refine wN ?_
     refine tN (wKK hK11 ?_)
     refine wReg ?_
     refine p_nextT rfl ?_
     refine wSt rfl tyint 0 rfl rfl rfl rfl ?_
     refine wN ?_
     refine bN (tN (wKK hK4 ?_))
     refine wSeqK fun KK12 hK12 => ?_
     refine wReg ?_
     refine p_nextT rfl ?_
     refine wLd rfl tyint 2 rfl rfl ?_
     refine p_nextT rfl ?_
     refine wI 52 rfl (IntWalk.i64_in _ (by omega)) ?_
     refine wLr rfl tyapi_Call 0 rfl [.int .i64 x.id, .int .i64 x.kind, .int .i64 x.src, .int .i64 x.dst, .int .i64 1, .int .i64 2, .int .i64 x.owner, .int .i64 x.born] rfl rfl ?_
     refine wE (.agg #[.int .i64 (b.index + 1), .int .i64 x.id, .int .i64 x.kind, .int .i64 x.src, .int .i64 x.dst, .int .i64 1, .int .i64 2, .int .i64 x.owner, .int .i64 x.born, .int .i64 0, .int .i64 0]) rfl rfl rfl (fun aa ww hs _ => by have e52 := hs 52 _ rfl; have g52 := gt_of e52; have e53 := hs 53 _ rfl; have g53 := gt_of e53; simp only [execOp]; go_simp <;> first | rfl | omega) ?_
     refine wSr rfl tyapi_Change 1 rfl rfl rfl rfl [.int .i64 (b.index + 1), .int .i64 x.id, .int .i64 x.kind, .int .i64 x.src, .int .i64 x.dst, .int .i64 1, .int .i64 2, .int .i64 x.owner, .int .i64 x.born, .int .i64 0, .int .i64 0] (by first | rfl | (simp only [spl]; rfl)) ?_
     refine wN ?_
     refine tN (wKK hK12 ?_)
     refine wRet ?_
     exact wRc tyapi_Change rfl rfl 1 rfl rfl (fun ww H => ⟨(⟨x.id, x.kind, x.src, x.dst, 1, 2, x.owner, x.born⟩ : CallV), rfl, H.out.off⟩)
   · skip
     have z2o : (((k : Int).tmod 8) != 1) = true := eqq_f z2
     refine wReg ?_
     iterate 2 refine p_nextT rfl ?_
     refine wN ?_
     refine tN (wKK hK6 ?_)
     refine wCond (E := ((k : Int).tmod 8) == 2) rfl (fun z3 => ?_) (fun z3 => ?_)
     · skip
       have z3o : (((k : Int).tmod 8) != 2) = false := eqq_t z3
       refine wSeqK fun KK13 hK13 => ?_
       refine wReg ?_
       refine p_nextT rfl ?_
       refine wSt rfl tyint 0 rfl rfl rfl rfl ?_
       refine wN ?_
       refine tN (wKK hK13 ?_)
       refine wReg ?_
       refine p_nextT rfl ?_
       refine wSt rfl tyint 0 rfl rfl rfl rfl ?_
       refine wN ?_
       refine bN (tN (wKK hK4 ?_))
       refine wSeqK fun KK14 hK14 => ?_
       refine wReg ?_
       refine p_nextT rfl ?_
       refine wLd rfl tyint 2 rfl rfl ?_
       refine p_nextT rfl ?_
       refine wI 52 rfl (IntWalk.i64_in _ (by omega)) ?_
       refine wLr rfl tyapi_Call 0 rfl [.int .i64 x.id, .int .i64 x.kind, .int .i64 x.src, .int .i64 x.dst, .int .i64 1, .int .i64 2, .int .i64 x.owner, .int .i64 x.born] rfl rfl ?_
       refine wE (.agg #[.int .i64 (b.index + 1), .int .i64 x.id, .int .i64 x.kind, .int .i64 x.src, .int .i64 x.dst, .int .i64 1, .int .i64 2, .int .i64 x.owner, .int .i64 x.born, .int .i64 0, .int .i64 0]) rfl rfl rfl (fun aa ww hs _ => by have e52 := hs 52 _ rfl; have g52 := gt_of e52; have e53 := hs 53 _ rfl; have g53 := gt_of e53; simp only [execOp]; go_simp <;> first | rfl | omega) ?_
       refine wSr rfl tyapi_Change 1 rfl rfl rfl rfl [.int .i64 (b.index + 1), .int .i64 x.id, .int .i64 x.kind, .int .i64 x.src, .int .i64 x.dst, .int .i64 1, .int .i64 2, .int .i64 x.owner, .int .i64 x.born, .int .i64 0, .int .i64 0] (by first | rfl | (simp only [spl]; rfl)) ?_
       refine wN ?_
       refine tN (wKK hK14 ?_)
       refine wRet ?_
       exact wRc tyapi_Change rfl rfl 1 rfl rfl (fun ww H => ⟨(⟨x.id, x.kind, x.src, x.dst, 1, 2, x.owner, x.born⟩ : CallV), rfl, H.out.off⟩)
     · skip
       have z3o : (((k : Int).tmod 8) != 2) = true := eqq_f z3
       refine wSeqK fun KK15 hK15 => ?_
       refine wReg ?_
       iterate 2 refine p_nextT rfl ?_
       refine wN ?_
       refine tN (wKK hK15 ?_)
       refine wCond (E := ((k : Int).tmod 8) == 3) rfl (fun z4 => ?_) (fun z4 => ?_)
       · skip
         have z4o : (((k : Int).tmod 8) != 3) = false := eqq_t z4
         refine wReg ?_
         refine p_nextT rfl ?_
         refine wSt rfl tyint 0 rfl rfl rfl rfl ?_
         refine wN ?_
         refine bN (tN (wKK hK4 ?_))
         refine wSeqK fun KK16 hK16 => ?_
         refine wReg ?_
         refine p_nextT rfl ?_
         refine wLd rfl tyint 2 rfl rfl ?_
         refine p_nextT rfl ?_
         refine wI 52 rfl (IntWalk.i64_in _ (by omega)) ?_
         refine wLr rfl tyapi_Call 0 rfl [.int .i64 x.id, .int .i64 x.kind, .int .i64 x.src, .int .i64 x.dst, .int .i64 x.car, .int .i64 3, .int .i64 x.owner, .int .i64 x.born] rfl rfl ?_
         refine wE (.agg #[.int .i64 (b.index + 1), .int .i64 x.id, .int .i64 x.kind, .int .i64 x.src, .int .i64 x.dst, .int .i64 x.car, .int .i64 3, .int .i64 x.owner, .int .i64 x.born, .int .i64 0, .int .i64 0]) rfl rfl rfl (fun aa ww hs _ => by have e52 := hs 52 _ rfl; have g52 := gt_of e52; have e53 := hs 53 _ rfl; have g53 := gt_of e53; simp only [execOp]; go_simp <;> first | rfl | omega) ?_
         refine wSr rfl tyapi_Change 1 rfl rfl rfl rfl [.int .i64 (b.index + 1), .int .i64 x.id, .int .i64 x.kind, .int .i64 x.src, .int .i64 x.dst, .int .i64 x.car, .int .i64 3, .int .i64 x.owner, .int .i64 x.born, .int .i64 0, .int .i64 0] (by first | rfl | (simp only [spl]; rfl)) ?_
         refine wN ?_
         refine tN (wKK hK16 ?_)
         refine wRet ?_
         exact wRc tyapi_Change rfl rfl 1 rfl rfl (fun ww H => ⟨(⟨x.id, x.kind, x.src, x.dst, x.car, 3, x.owner, x.born⟩ : CallV), rfl, H.out.off⟩)
       · skip
         have z4o : (((k : Int).tmod 8) != 3) = true := eqq_f z4
         refine wSeqK fun KK17 hK17 => ?_
         refine wSeqK fun KK18 hK18 => ?_
         refine wReg ?_
         iterate 2 refine p_nextT rfl ?_
         refine wN ?_
         refine tN (wKK hK18 ?_)
         refine wCond (E := ((k : Int).tmod 8) == 4) rfl (fun z5 => ?_) (fun z5 => ?_)
         · skip
           have z5o : (((k : Int).tmod 8) != 4) = false := eqq_t z5
           refine wSk ?_
           refine tN (wKK hK17 ?_)
           refine wCond (E := ((k : Int).tmod 8) == 4) rfl (fun _ => ?_) (fun zz => absurd (z5.symm.trans zz) (by decide))
           refine wReg ?_
           refine p_nextT rfl ?_
           refine wSt rfl tyint 0 rfl rfl rfl rfl ?_
           refine wN ?_
           refine bN (tN (wKK hK4 ?_))
           refine wSeqK fun KK19 hK19 => ?_
           refine wReg ?_
           refine p_nextT rfl ?_
           refine wLd rfl tyint 2 rfl rfl ?_
           refine p_nextT rfl ?_
           refine wI 52 rfl (IntWalk.i64_in _ (by omega)) ?_
           refine wLr rfl tyapi_Call 0 rfl [.int .i64 x.id, .int .i64 x.kind, .int .i64 x.src, .int .i64 x.dst, .int .i64 x.car, .int .i64 4, .int .i64 x.owner, .int .i64 x.born] rfl rfl ?_
           refine wE (.agg #[.int .i64 (b.index + 1), .int .i64 x.id, .int .i64 x.kind, .int .i64 x.src, .int .i64 x.dst, .int .i64 x.car, .int .i64 4, .int .i64 x.owner, .int .i64 x.born, .int .i64 0, .int .i64 0]) rfl rfl rfl (fun aa ww hs _ => by have e52 := hs 52 _ rfl; have g52 := gt_of e52; have e53 := hs 53 _ rfl; have g53 := gt_of e53; simp only [execOp]; go_simp <;> first | rfl | omega) ?_
           refine wSr rfl tyapi_Change 1 rfl rfl rfl rfl [.int .i64 (b.index + 1), .int .i64 x.id, .int .i64 x.kind, .int .i64 x.src, .int .i64 x.dst, .int .i64 x.car, .int .i64 4, .int .i64 x.owner, .int .i64 x.born, .int .i64 0, .int .i64 0] (by first | rfl | (simp only [spl]; rfl)) ?_
           refine wN ?_
           refine tN (wKK hK19 ?_)
           refine wRet ?_
           exact wRc tyapi_Change rfl rfl 1 rfl rfl (fun ww H => ⟨(⟨x.id, x.kind, x.src, x.dst, x.car, 4, x.owner, x.born⟩ : CallV), rfl, H.out.off⟩)
         · skip
           have z5o : (((k : Int).tmod 8) != 4) = true := eqq_f z5
           refine wReg ?_
           iterate 2 refine p_nextT rfl ?_
           refine wN ?_
           refine tN (wKK hK17 ?_)
           refine wCond (E := ((k : Int).tmod 8) == 5) rfl (fun z6 => ?_) (fun z6 => ?_)
           · skip
             have z6o : (((k : Int).tmod 8) != 5) = false := eqq_t z6
             refine wReg ?_
             refine p_nextT rfl ?_
             refine wSt rfl tyint 0 rfl rfl rfl rfl ?_
             refine wN ?_
             refine bN (tN (wKK hK4 ?_))
             refine wSeqK fun KK20 hK20 => ?_
             refine wReg ?_
             refine p_nextT rfl ?_
             refine wLd rfl tyint 2 rfl rfl ?_
             refine p_nextT rfl ?_
             refine wI 52 rfl (IntWalk.i64_in _ (by omega)) ?_
             refine wLr rfl tyapi_Call 0 rfl [.int .i64 x.id, .int .i64 x.kind, .int .i64 x.src, .int .i64 x.dst, .int .i64 x.car, .int .i64 4, .int .i64 x.owner, .int .i64 x.born] rfl rfl ?_
             refine wE (.agg #[.int .i64 (b.index + 1), .int .i64 x.id, .int .i64 x.kind, .int .i64 x.src, .int .i64 x.dst, .int .i64 x.car, .int .i64 4, .int .i64 x.owner, .int .i64 x.born, .int .i64 0, .int .i64 0]) rfl rfl rfl (fun aa ww hs _ => by have e52 := hs 52 _ rfl; have g52 := gt_of e52; have e53 := hs 53 _ rfl; have g53 := gt_of e53; simp only [execOp]; go_simp <;> first | rfl | omega) ?_
             refine wSr rfl tyapi_Change 1 rfl rfl rfl rfl [.int .i64 (b.index + 1), .int .i64 x.id, .int .i64 x.kind, .int .i64 x.src, .int .i64 x.dst, .int .i64 x.car, .int .i64 4, .int .i64 x.owner, .int .i64 x.born, .int .i64 0, .int .i64 0] (by first | rfl | (simp only [spl]; rfl)) ?_
             refine wN ?_
             refine tN (wKK hK20 ?_)
             refine wRet ?_
             exact wRc tyapi_Change rfl rfl 1 rfl rfl (fun ww H => ⟨(⟨x.id, x.kind, x.src, x.dst, x.car, 4, x.owner, x.born⟩ : CallV), rfl, H.out.off⟩)
           · skip
             have z6o : (((k : Int).tmod 8) != 5) = true := eqq_f z6
             refine wSeqK fun KK21 hK21 => ?_
             refine wReg ?_
             iterate 2 refine p_nextT rfl ?_
             refine wN ?_
             refine tN (wKK hK21 ?_)
             refine wCond (E := ((k : Int).tmod 8) == 6) rfl (fun z7 => ?_) (fun z7 => ?_)
             · skip
               have z7o : (((k : Int).tmod 8) != 6) = false := eqq_t z7
               refine wReg ?_
               refine p_nextT rfl ?_
               refine wSt rfl tyint 0 rfl rfl rfl rfl ?_
               refine wN ?_
               refine bN (tN (wKK hK4 ?_))
               refine wSeqK fun KK22 hK22 => ?_
               refine wReg ?_
               refine p_nextT rfl ?_
               refine wLd rfl tyint 2 rfl rfl ?_
               refine p_nextT rfl ?_
               refine wI 52 rfl (IntWalk.i64_in _ (by omega)) ?_
               refine wLr rfl tyapi_Call 0 rfl [.int .i64 x.id, .int .i64 x.kind, .int .i64 x.src, .int .i64 x.dst, .int .i64 x.car, .int .i64 5, .int .i64 x.owner, .int .i64 x.born] rfl rfl ?_
               refine wE (.agg #[.int .i64 (b.index + 1), .int .i64 x.id, .int .i64 x.kind, .int .i64 x.src, .int .i64 x.dst, .int .i64 x.car, .int .i64 5, .int .i64 x.owner, .int .i64 x.born, .int .i64 0, .int .i64 0]) rfl rfl rfl (fun aa ww hs _ => by have e52 := hs 52 _ rfl; have g52 := gt_of e52; have e53 := hs 53 _ rfl; have g53 := gt_of e53; simp only [execOp]; go_simp <;> first | rfl | omega) ?_
               refine wSr rfl tyapi_Change 1 rfl rfl rfl rfl [.int .i64 (b.index + 1), .int .i64 x.id, .int .i64 x.kind, .int .i64 x.src, .int .i64 x.dst, .int .i64 x.car, .int .i64 5, .int .i64 x.owner, .int .i64 x.born, .int .i64 0, .int .i64 0] (by first | rfl | (simp only [spl]; rfl)) ?_
               refine wN ?_
               refine tN (wKK hK22 ?_)
               refine wRet ?_
               exact wRc tyapi_Change rfl rfl 1 rfl rfl (fun ww H => ⟨(⟨x.id, x.kind, x.src, x.dst, x.car, 5, x.owner, x.born⟩ : CallV), rfl, H.out.off⟩)
             · skip
               have z7o : (((k : Int).tmod 8) != 6) = true := eqq_f z7
               refine wSeqK fun KK23 hK23 => ?_
               refine wReg ?_
               refine p_nextT rfl ?_
               refine wSt rfl tyint 0 rfl rfl rfl rfl ?_
               refine wN ?_
               refine tN (wKK hK23 ?_)
               refine wSeqK fun KK24 hK24 => ?_
               refine wReg ?_
               refine p_nextT rfl ?_
               refine wSt rfl tyint 0 rfl rfl rfl rfl ?_
               refine wN ?_
               refine tN (wKK hK24 ?_)
               refine wReg ?_
               refine p_nextT rfl ?_
               refine wE (.int .u64 (IntKind.u64.wrap n)) rfl rfl rfl (fun aa ww hs _ => by have e28 := hs 28 _ rfl; have g28 := gt_of e28; simp only [execOp]; go_simp <;> first | rfl | omega) ?_
               refine wE (.int .u64 ((IntKind.u64.wrap n).tmod 5)) rfl rfl rfl (fun aa ww hs _ => exec_rem rfl (hs _ _ rfl) (rfl) (by omega)) ?_
               refine wE (.int .i64 m) rfl rfl rfl (fun aa ww hs _ => by have e30 := hs 30 _ rfl; have g30 := gt_of e30; simp only [execOp]; go_simp <;> first | rfl | omega) ?_
               refine p_nextT rfl ?_
               refine wI 32 rfl (IntWalk.i64_in _ (by omega)) ?_
               refine p_nextT rfl ?_
               refine wSt rfl tyint 0 rfl rfl rfl rfl ?_
               refine wN ?_
               refine bN (tN (wKK hK4 ?_))
               refine wSeqK fun KK25 hK25 => ?_
               refine wReg ?_
               refine p_nextT rfl ?_
               refine wLd rfl tyint 2 rfl rfl ?_
               refine p_nextT rfl ?_
               refine wI 52 rfl (IntWalk.i64_in _ (by omega)) ?_
               refine wLr rfl tyapi_Call 0 rfl [.int .i64 x.id, .int .i64 x.kind, .int .i64 (1 + m), .int .i64 x.dst, .int .i64 0, .int .i64 1, .int .i64 x.owner, .int .i64 x.born] rfl rfl ?_
               refine wE (.agg #[.int .i64 (b.index + 1), .int .i64 x.id, .int .i64 x.kind, .int .i64 (1 + m), .int .i64 x.dst, .int .i64 0, .int .i64 1, .int .i64 x.owner, .int .i64 x.born, .int .i64 0, .int .i64 0]) rfl rfl rfl (fun aa ww hs _ => by have e52 := hs 52 _ rfl; have g52 := gt_of e52; have e53 := hs 53 _ rfl; have g53 := gt_of e53; simp only [execOp]; go_simp <;> first | rfl | omega) ?_
               refine wSr rfl tyapi_Change 1 rfl rfl rfl rfl [.int .i64 (b.index + 1), .int .i64 x.id, .int .i64 x.kind, .int .i64 (1 + m), .int .i64 x.dst, .int .i64 0, .int .i64 1, .int .i64 x.owner, .int .i64 x.born, .int .i64 0, .int .i64 0] (by first | rfl | (simp only [spl]; rfl)) ?_
               refine wN ?_
               refine tN (wKK hK25 ?_)
               refine wRet ?_
               exact wRc tyapi_Change rfl rfl 1 rfl rfl (fun ww H => ⟨(⟨x.id, x.kind, 1 + m, x.dst, 0, 1, x.owner, x.born⟩ : CallV), rfl, H.out.off⟩)
def tab_goes_w : Wk.Tab := [(42, 1, 1), (42, 2, 9), (42, 3, 10), (61, 3, 20)]
theorem p_goes_w {ops : Array Oper} {rest : List Oper} {o : Oper} {w0 : World} {Q : Exit → Act → World → Prop} {S : List Nat} {R : List Res} {K K' : Wk.Env} {N : Nat} (h : Wk.stp tab_goes_w N ops K o = some K') (n : Wk.Wk N S w0 K' R (wpList Try.prog ops Q rest)) : Wk.Wk N S w0 K R (wpList Try.prog ops Q (o :: rest)) := Wk.wP (T := tab_goes_w) (by kernel_rfl) h n
set_option maxHeartbeats 4000000 in
set_option maxRecDepth 20000 in
theorem goes_w_r14 (c : Cfg) (pc : Nat) (ds : List DeedV) (qc : Nat) (ps : List Int) (b3 : Nat) (b7 : Nat) (b8 : Nat) (i : Nat) (b : BookV) (la : Option Addr) (lc : Nat) (da : Option Addr) (dc : Nat) (ra : Option Addr) (rc : Nat) (sa : Option Addr) (sc : Nat) (hi : i ≤ ds.length) (hi2 : i ≤ 60) (hI : Hid (InvB b)) (hix : b.index ≤ (i : Int)) (z3ld : i < ds.length) (z3rd : (i : Int) < 60) (yx : Addr) (x : DeedV) (hbi : 0 ≤ b.index ∧ b.index ≤ 1073741824) (b10 : Nat) (b11 : Nat) (la12_7 : Option Addr) (lc12_7 : Nat) (da12_7 : Option Addr) (dc12_7 : Nat) (b12 : Nat) (z5ld : i < ps.length) (z5rd : 0 < ((liveV b).length : Int)) (yq : Addr) (pk : Int) (HRp : Hid ((ps.map fun k => [Value.int .i64 k])[i]? = some [.int .i64 pk])) (hlp : 0 < (liveV b).length) {wa wb : World} (H : Hid (Hp [] wa wb [rB b12 33 (bkL (((placeV b x.x x.n x.m).1).conf) (((placeV b x.x x.n x.m).1).index) (((placeV b x.x x.n x.m).1).room) (.slice la12_7 (((placeV b x.x x.n x.m).1).live.length) lc12_7) (.slice da12_7 (((placeV b x.x x.n x.m).1).done.length) dc12_7) (((placeV b x.x x.n x.m).1).modes)), rS la12_7 lc12_7 9 (((placeV b x.x x.n x.m).1).live.map rowOf), rS da12_7 dc12_7 8 (((placeV b x.x x.n x.m).1).done.map callRow), rB b11 40 (chL ((placeV b x.x x.n x.m).2.1)), rB b10 42 [.int .i64 x.kind, .int .i64 x.x.id, .int .i64 x.x.kind, .int .i64 x.x.src, .int .i64 x.x.dst, .int .i64 x.x.car, .int .i64 x.x.state, .int .i64 x.x.owner, .int .i64 x.x.born, .int .i64 x.n, .int .i64 x.m, .int .i64 x.ch.index, .int .i64 x.ch.call.id, .int .i64 x.ch.call.kind, .int .i64 x.ch.call.src, .int .i64 x.ch.call.dst, .int .i64 x.ch.call.car, .int .i64 x.ch.call.state, .int .i64 x.ch.call.owner, .int .i64 x.ch.call.born, .int .i64 x.ch.car, .int .i64 x.ch.mode], rB b7 33 (bkL b.conf b.index b.room (.slice la b.live.length lc) (.slice da b.done.length dc) b.modes), rB b8 61 (rbL b.conf (b.room != 0) b.index (.slice ra ((liveV b).length) rc) (.slice sa b.done.length sc) b.modes), rS la lc 9 (b.live.map rowOf), rS da dc 8 (b.done.map callRow), rS ra rc 8 ((liveV b).map callRow), rS sa sc 8 (b.done.map callRow), rB b3 24 (cL c), rS (some yq) qc 1 (ps.map fun k => [Value.int .i64 k]), rS (some yx) pc 22 (ds.map deedRow)])) (ac0 : Act) (hz : ac0.tmps.size = 114) (so2 : ac0.eval (.tmp 2) = .slice (some yq) ps.length qc) (so8 : ac0.eval (.tmp 8) = .pointer (some ⟨b8, 0, none⟩)) (so9 : ac0.eval (.tmp 9) = .int .i64 i) (so10 : ac0.eval (.tmp 10) = .pointer (some ⟨b10, 0, none⟩)) (so11 : ac0.eval (.tmp 11) = .pointer (some ⟨b11, 0, none⟩)) {QR : Exit → Act → World → Prop} (hfin : ∀ (y14_7 : CallV) (ac1 : Act) (wz : World), ac1.tmps.size = 114 → ac1.defers = ac0.defers → (∀ t, ([62, 63, 64, 65, 66, 67, 68, 69] : List Nat).contains t = false → ac1.eval (.tmp t) = ac0.eval (.tmp t)) →  Hid (Hp [] wa wz [rB b12 33 (bkL (((placeV b x.x x.n x.m).1).conf) (((placeV b x.x x.n x.m).1).index) (((placeV b x.x x.n x.m).1).room) (.slice la12_7 (((placeV b x.x x.n x.m).1).live.length) lc12_7) (.slice da12_7 (((placeV b x.x x.n x.m).1).done.length) dc12_7) (((placeV b x.x x.n x.m).1).modes)), rS la12_7 lc12_7 9 (((placeV b x.x x.n x.m).1).live.map rowOf), rS da12_7 dc12_7 8 (((placeV b x.x x.n x.m).1).done.map callRow), rB b11 40 [.int .i64 (b.index + 1), .int .i64 y14_7.id, .int .i64 y14_7.kind, .int .i64 y14_7.src, .int .i64 y14_7.dst, .int .i64 y14_7.car, .int .i64 y14_7.state, .int .i64 y14_7.owner, .int .i64 y14_7.born, .int .i64 0, .int .i64 0], rB b10 42 [.int .i64 x.kind, .int .i64 x.x.id, .int .i64 x.x.kind, .int .i64 x.x.src, .int .i64 x.x.dst, .int .i64 x.x.car, .int .i64 x.x.state, .int .i64 x.x.owner, .int .i64 x.x.born, .int .i64 x.n, .int .i64 x.m, .int .i64 x.ch.index, .int .i64 x.ch.call.id, .int .i64 x.ch.call.kind, .int .i64 x.ch.call.src, .int .i64 x.ch.call.dst, .int .i64 x.ch.call.car, .int .i64 x.ch.call.state, .int .i64 x.ch.call.owner, .int .i64 x.ch.call.born, .int .i64 x.ch.car, .int .i64 x.ch.mode], rB b7 33 (bkL b.conf b.index b.room (.slice la b.live.length lc) (.slice da b.done.length dc) b.modes), rB b8 61 (rbL b.conf (b.room != 0) b.index (.slice ra ((liveV b).length) rc) (.slice sa b.done.length sc) b.modes), rS la lc 9 (b.live.map rowOf), rS da dc 8 (b.done.map callRow), rS ra rc 8 ((liveV b).map callRow), rS sa sc 8 (b.done.map callRow), rB b3 24 (cL c), rS (some yq) qc 1 (ps.map fun k => [Value.int .i64 k]), rS (some yx) pc 22 (ds.map deedRow)]) → QR .normal ac1 wz) : (regAt Try.f6 14).wp Try.prog QR ac0 wb := by
  refine wp_region_st mixedP ⟨[0, 0, 0, 1, 2, 0, 1, 3, 4], by kernel_rfl⟩ [[], [], [], [1, 2], [1, 2, 3], [], [5], [0, 1, 2, 3, 4, 5, 6], [0, 1, 2, 3, 4, 5, 6, 7]] (by kernel_rfl) (by kernel_rfl) 114 hz (by kernel_rfl) (fun (xx : CallV) jx => match xx with | y14_7 => nth [.agg (rbA b.conf (b.room != 0) b.index (.slice ra ((liveV b).length) rc) (.slice sa b.done.length sc) b.modes), .slice (some yq) ps.length qc, .int .i64 i, .pointer (some (yq.add i)), .int .i64 pk, .pointer (some ⟨b10, 9, none⟩), .int .i64 x.n, .agg #[.int .i64 (b.index + 1), .int .i64 y14_7.id, .int .i64 y14_7.kind, .int .i64 y14_7.src, .int .i64 y14_7.dst, .int .i64 y14_7.car, .int .i64 y14_7.state, .int .i64 y14_7.owner, .int .i64 y14_7.born, .int .i64 0, .int .i64 0], undef] jx) (fun (LL : Nat → Bool) (xx : CallV) ww => match xx with | y14_7 => Hp [] wa ww (bif LL 7 then (bif LL 8 then [rB b12 33 (bkL (((placeV b x.x x.n x.m).1).conf) (((placeV b x.x x.n x.m).1).index) (((placeV b x.x x.n x.m).1).room) (.slice la12_7 (((placeV b x.x x.n x.m).1).live.length) lc12_7) (.slice da12_7 (((placeV b x.x x.n x.m).1).done.length) dc12_7) (((placeV b x.x x.n x.m).1).modes)), rS la12_7 lc12_7 9 (((placeV b x.x x.n x.m).1).live.map rowOf), rS da12_7 dc12_7 8 (((placeV b x.x x.n x.m).1).done.map callRow), rB b11 40 [.int .i64 (b.index + 1), .int .i64 y14_7.id, .int .i64 y14_7.kind, .int .i64 y14_7.src, .int .i64 y14_7.dst, .int .i64 y14_7.car, .int .i64 y14_7.state, .int .i64 y14_7.owner, .int .i64 y14_7.born, .int .i64 0, .int .i64 0], rB b10 42 [.int .i64 x.kind, .int .i64 x.x.id, .int .i64 x.x.kind, .int .i64 x.x.src, .int .i64 x.x.dst, .int .i64 x.x.car, .int .i64 x.x.state, .int .i64 x.x.owner, .int .i64 x.x.born, .int .i64 x.n, .int .i64 x.m, .int .i64 x.ch.index, .int .i64 x.ch.call.id, .int .i64 x.ch.call.kind, .int .i64 x.ch.call.src, .int .i64 x.ch.call.dst, .int .i64 x.ch.call.car, .int .i64 x.ch.call.state, .int .i64 x.ch.call.owner, .int .i64 x.ch.call.born, .int .i64 x.ch.car, .int .i64 x.ch.mode], rB b7 33 (bkL b.conf b.index b.room (.slice la b.live.length lc) (.slice da b.done.length dc) b.modes), rB b8 61 (rbL b.conf (b.room != 0) b.index (.slice ra ((liveV b).length) rc) (.slice sa b.done.length sc) b.modes), rS la lc 9 (b.live.map rowOf), rS da dc 8 (b.done.map callRow), rS ra rc 8 ((liveV b).map callRow), rS sa sc 8 (b.done.map callRow), rB b3 24 (cL c), rS (some yq) qc 1 (ps.map fun k => [Value.int .i64 k]), rS (some yx) pc 22 (ds.map deedRow)] else [rB b12 33 (bkL (((placeV b x.x x.n x.m).1).conf) (((placeV b x.x x.n x.m).1).index) (((placeV b x.x x.n x.m).1).room) (.slice la12_7 (((placeV b x.x x.n x.m).1).live.length) lc12_7) (.slice da12_7 (((placeV b x.x x.n x.m).1).done.length) dc12_7) (((placeV b x.x x.n x.m).1).modes)), rS la12_7 lc12_7 9 (((placeV b x.x x.n x.m).1).live.map rowOf), rS da12_7 dc12_7 8 (((placeV b x.x x.n x.m).1).done.map callRow), rB b11 40 (chL ((placeV b x.x x.n x.m).2.1)), rB b10 42 [.int .i64 x.kind, .int .i64 x.x.id, .int .i64 x.x.kind, .int .i64 x.x.src, .int .i64 x.x.dst, .int .i64 x.x.car, .int .i64 x.x.state, .int .i64 x.x.owner, .int .i64 x.x.born, .int .i64 x.n, .int .i64 x.m, .int .i64 x.ch.index, .int .i64 x.ch.call.id, .int .i64 x.ch.call.kind, .int .i64 x.ch.call.src, .int .i64 x.ch.call.dst, .int .i64 x.ch.call.car, .int .i64 x.ch.call.state, .int .i64 x.ch.call.owner, .int .i64 x.ch.call.born, .int .i64 x.ch.car, .int .i64 x.ch.mode], rB b7 33 (bkL b.conf b.index b.room (.slice la b.live.length lc) (.slice da b.done.length dc) b.modes), rB b8 61 (rbL b.conf (b.room != 0) b.index (.slice ra ((liveV b).length) rc) (.slice sa b.done.length sc) b.modes), rS la lc 9 (b.live.map rowOf), rS da dc 8 (b.done.map callRow), rS ra rc 8 ((liveV b).map callRow), rS sa sc 8 (b.done.map callRow), rB b3 24 (cL c), rS (some yq) qc 1 (ps.map fun k => [Value.int .i64 k]), rS (some yx) pc 22 (ds.map deedRow)]) else [rB b12 33 (bkL (((placeV b x.x x.n x.m).1).conf) (((placeV b x.x x.n x.m).1).index) (((placeV b x.x x.n x.m).1).room) (.slice la12_7 (((placeV b x.x x.n x.m).1).live.length) lc12_7) (.slice da12_7 (((placeV b x.x x.n x.m).1).done.length) dc12_7) (((placeV b x.x x.n x.m).1).modes)), rS la12_7 lc12_7 9 (((placeV b x.x x.n x.m).1).live.map rowOf), rS da12_7 dc12_7 8 (((placeV b x.x x.n x.m).1).done.map callRow), rB b11 40 (chL ((placeV b x.x x.n x.m).2.1)), rB b10 42 [.int .i64 x.kind, .int .i64 x.x.id, .int .i64 x.x.kind, .int .i64 x.x.src, .int .i64 x.x.dst, .int .i64 x.x.car, .int .i64 x.x.state, .int .i64 x.x.owner, .int .i64 x.x.born, .int .i64 x.n, .int .i64 x.m, .int .i64 x.ch.index, .int .i64 x.ch.call.id, .int .i64 x.ch.call.kind, .int .i64 x.ch.call.src, .int .i64 x.ch.call.dst, .int .i64 x.ch.call.car, .int .i64 x.ch.call.state, .int .i64 x.ch.call.owner, .int .i64 x.ch.call.born, .int .i64 x.ch.car, .int .i64 x.ch.mode], rB b7 33 (bkL b.conf b.index b.room (.slice la b.live.length lc) (.slice da b.done.length dc) b.modes), rB b8 61 (rbL b.conf (b.room != 0) b.index (.slice ra ((liveV b).length) rc) (.slice sa b.done.length sc) b.modes), rS la lc 9 (b.live.map rowOf), rS da dc 8 (b.done.map callRow), rS ra rc 8 ((liveV b).map callRow), rS sa sc 8 (b.done.map callRow), rB b3 24 (cL c), rS (some yq) qc 1 (ps.map fun k => [Value.int .i64 k]), rS (some yx) pc 22 (ds.map deedRow)])) default H.out.drew ?_ (steps_al ?_) ?_ ?_
  · intro L1 L2 xx ww hL sg
    have lh7 := hL 7 (by decide)
    have lh8 := hL 8 (by decide)
    simp only [lh7, lh8] at sg
    exact sg
  · refine al_cons ?_ (al_cons ?_ (al_cons ?_ (al_cons ?_ (al_cons ?_ (al_cons ?_ (al_cons ?_ (al_cons ?_ (al_cons ?_ (al_nil)))))))))
    · intro LL xx ac wc sg hst hwant QQ hgo
      revert sg hst hgo; revert xx; intro y14_7 sg hst hgo
      have H := Lib.hid hst
      simp only [sg.des 7 rfl, sg.des 8 rfl, cond_true, cond_false] at H
      refine hpA_load tyhoistwayref09_Book H rfl ((sg.free 8 (by kernel_rfl)).trans so8) hwant (by (repeat (first | exact List.Mem.head _ | apply List.Mem.tail))) (by rfl) rfl ?_
      exact hgo _ y14_7 _ (fun _ _ => rfl) rfl hst
    · intro LL xx ac wc sg hst hwant QQ hgo
      revert sg hst hgo; revert xx; intro y14_7 sg hst hgo
      exact op_val hwant hgo hst _ (exec_move rfl ((sg.free 2 (by kernel_rfl)).trans so2)) rfl
    · intro LL xx ac wc sg hst hwant QQ hgo
      revert sg hst hgo; revert xx; intro y14_7 sg hst hgo
      exact op_val hwant hgo hst _ (exec_move rfl ((sg.free 9 (by kernel_rfl)).trans so9)) rfl
    · intro LL xx ac wc sg hst hwant QQ hgo
      revert sg hst hgo; revert xx; intro y14_7 sg hst hgo
      have se63 : ac.eval (.tmp 63) = _ := (sg.slot 1 (sg.anc 1 rfl))
      have sg63 := gt_of se63
      have se64 : ac.eval (.tmp 64) = _ := (sg.slot 2 (sg.anc 2 rfl))
      have sg64 := gt_of se64
      (try simp only [nth] at se63 sg63 se64 sg64)
      exact op_val hwant hgo hst _ (by simp only [execOp, nth]; go_simp <;> omega) rfl
    · intro LL xx ac wc sg hst hwant QQ hgo
      revert sg hst hgo; revert xx; intro y14_7 sg hst hgo
      have H := Lib.hid hst
      simp only [sg.des 7 rfl, sg.des 8 rfl, cond_true, cond_false] at H
      refine hpS_load1 0 tyint H (y := yq) rfl (sg.slot 3 (sg.anc 3 rfl)) hwant (by (repeat (first | exact List.Mem.head _ | apply List.Mem.tail))) HRp.out (by rfl) (by simp [Addr.add]) ?_
      exact hgo _ y14_7 _ (fun _ _ => rfl) rfl hst
    · intro LL xx ac wc sg hst hwant QQ hgo
      revert sg hst hgo; revert xx; intro y14_7 sg hst hgo
      have se10 : ac.eval (.tmp 10) = _ := ((sg.free 10 (by kernel_rfl)).trans so10)
      have sg10 := gt_of se10
      exact op_val hwant hgo hst _ (by simp only [execOp, nth]; go_simp <;> omega) rfl
    · intro LL xx ac wc sg hst hwant QQ hgo
      revert sg hst hgo; revert xx; intro y14_7 sg hst hgo
      have H := Lib.hid hst
      simp only [sg.des 7 rfl, sg.des 8 rfl, cond_true, cond_false] at H
      refine hpA_load1 tyint H rfl (sg.slot 5 (sg.anc 5 rfl)) hwant (by (repeat (first | exact List.Mem.head _ | apply List.Mem.tail))) (by rfl) ?_
      exact hgo _ y14_7 _ (fun _ _ => rfl) rfl hst
    · intro LL xx ac wc sg hst hwant QQ hgo
      revert sg hst hgo; revert xx; intro xold sg hst hgo
      have se62 : ac.eval (.tmp 62) = _ := (sg.slot 0 (sg.anc 0 rfl))
      have sg62 := gt_of se62
      have se66 : ac.eval (.tmp 66) = _ := (sg.slot 4 (sg.anc 4 rfl))
      have sg66 := gt_of se66
      have se68 : ac.eval (.tmp 68) = _ := (sg.slot 6 (sg.anc 6 rfl))
      have sg68 := gt_of se68
      (try simp only [nth] at se62 sg62 se66 sg66 se68 sg68)
      have H := Lib.hid hst
      simp only [sg.self, sg.des 8 rfl, cond_true, cond_false] at H
      refine op_call hwant hgo 31 #[.agg (rbA b.conf (b.room != 0) b.index (.slice ra ((liveV b).length) rc) (.slice sa b.done.length sc) b.modes), .int .i64 pk, .int .i64 x.n] (by simp only [execOp]; go_simp) (nextT b ra rc sa sc pk x.n wc (hp_held H (by (repeat (first | exact List.Mem.head _ | apply List.Mem.tail)))) (hp_held H (by (repeat (first | exact List.Mem.head _ | apply List.Mem.tail)))) hI.out hlp) ?_
      rintro er wd ⟨y14_7, rfl, hof⟩
      have H2 := Lib.hid (H.out.quiet hof)
      exact ⟨_, y14_7, rfl, (sg.agree (x' := y14_7) (n := 9) rfl (by (iterate 9 (refine ix_cons (by first | exact fun _ => rfl | exact no sg.self | exact no (sg.des _ rfl)) ?_)); exact ix_nil)), rfl, (by simp only [(show upd LL 7 7 = true from rfl), (show upd LL 7 8 = LL 8 from rfl), sg.des 8 rfl, cond_true, cond_false]; exact H2.out)⟩
    · intro LL xx ac wc sg hst hwant QQ hgo
      revert sg hst hgo; revert xx; intro y14_7 sg hst hgo
      have H := Lib.hid hst
      simp only [sg.anc 7 rfl, sg.self, cond_true, cond_false] at H
      refine hpA_store tyapi_Change H rfl rfl ((sg.free 11 (by kernel_rfl)).trans so11) (sg.slot 7 (sg.anc 7 rfl)) rfl (by repeat (first | apply Put.head | apply Put.tail)) (by simp [xA, xL, cA, cL, chA, chL, bkA, bkL, rbA, rbL]) (by simp [xA, xL, cA, cL, chA, chL, bkA, bkL, rbA, rbL, Value.oneCell']) (by first | rfl | (simp only [spl]; rfl)) rfl ?_
      intro wd H2
      exact hgo _ y14_7 _ (sg.agree (x' := y14_7) (n := 9) rfl (by (iterate 9 (refine ix_cons (by first | exact fun _ => rfl | exact no sg.self | exact no (sg.des _ rfl)) ?_)); exact ix_nil)) rfl (by simp only [(show upd LL 8 7 = LL 7 from rfl), sg.anc 7 rfl, (show upd LL 8 8 = true from rfl), cond_true, cond_false]; exact H2.out)
  · exact skips [] (by kernel_rfl) (fun _ h => by cases h)
  · intro xx ac1 wz hfr hsl hst
    revert hsl hst; revert xx; intro y14_7 hsl hst
    exact hfin y14_7 ac1 wz (hfr.size.trans hz) hfr.defers (fr_keep hfr [62, 63, 64, 65, 66, 67, 68, 69] (by kernel_rfl)) (Lib.hid hst)
set_option maxHeartbeats 16000000 in
set_option maxRecDepth 20000 in
theorem goes_w (c : Cfg) (pa : Option Addr) (pc : Nat) (ds : List DeedV) (qa : Option Addr) (qc : Nat) (ps : List Int) (w : World) (h1 : (rS pa pc 22 (ds.map deedRow)).holds w) (h2 : (rS qa qc 1 (ps.map fun k => [Value.int .i64 k])).holds w) : Calls Try.prog 6 #[.agg (cA c), .slice pa ds.length pc, .slice qa ps.length qc] w fun e w' => e = .returned (.bool true) ∧ Off [] w w' := by
 have H := Lib.hid (Hp.start [] w)
 have H := hp_old H h1 (by decide)
 have H := hp_old H h2 (by decide)
 clear h1 h2
 refine wStart (args := [.agg (cA c), .slice pa ds.length pc, .slice qa ps.length qc]) Try.func6 rfl rfl rfl H ?_
 clear H
 show Wk 114 _ _ [(0, .agg (cA c)), (1, .slice pa ds.length pc), (2, .slice qa ps.length qc)] _ _
 have hI0 : Hid (InvB (newB c)) := Lib.hid (inv_new c)
 refine wSeqK fun KK1 hK1 => ?_
 refine wReg ?_
 refine wBx rfl rfl rfl fun b3 => ?_
 refine p_goes_w rfl ?_
 refine wN ?_
 refine tN (wKK hK1 ?_)
 refine wSeqK fun KK2 hK2 => ?_
 refine wSeqK fun KK3 hK3 => ?_
 refine wReg ?_
 refine wQ (l := []) Try.func9 rfl (by kernel_rfl) (.bool true) (fun wc H => awake9 wc) rfl rfl rfl rfl ?_
 refine p_goes_w rfl ?_
 refine wN ?_
 refine tN (wKK hK3 ?_)
 refine wCf rfl ?_
 refine wSk ?_
 refine tN (wKK hK2 ?_)
 refine wSeqK fun KK4 hK4 => ?_
 refine wSeqK fun KK5 hK5 => ?_
 refine wReg ?_
 refine wLr rfl tyapi_Config 0 rfl (cL c) rfl rfl ?_
 refine wQ (l := [.agg (cA c)]) Try.func30 rfl (by kernel_rfl) (.bool (checkV c == 0)) (fun wc H => goodR c wc) rfl rfl rfl rfl ?_
 refine p_goes_w rfl ?_
 refine wN ?_
 refine tN (wKK hK5 ?_)
 refine wCond (E := !(checkV c == 0)) rfl (fun z1 => ?_) (fun z1 => ?_)
 · skip
   have z1n : (checkV c == 0) = false := Reg.bn z1
   have z1no : (checkV c != 0) = true := eqq_f z1n
   refine wSeqK fun KK6 hK6 => ?_
   refine wReg ?_
   refine p_goes_w rfl ?_
   refine wN ?_
   refine tN (wKK hK6 ?_)
   refine wRet ?_
   refine tR ?_
   exact wR1 rfl rfl (fun ww H => ⟨rfl, H.out.off⟩)
 · skip
   have z1n : (checkV c == 0) = true := Reg.bt z1
   have z1no : (checkV c != 0) = false := eqq_t z1n
   refine wSk ?_
   refine tN (wKK hK4 ?_)
   refine wSeqK fun KK7 hK7 => ?_
   refine wReg ?_
   refine wLr rfl tyapi_Config 0 rfl (cL c) rfl rfl ?_
   refine wC (l := [.agg (cA c)]) Try.func10 rfl (by kernel_rfl) (fun wc H => newBC c wc) rfl rfl rfl rfl ?_
   intro wc H
   rintro er wd ⟨la5_1, lc5_1, da5_1, dc5_1, rfl, hg⟩
   have H2 := hp_gotB H hg.2.2.2.2 hg.1 hg.2.1 (by decide) (by decide) hg.2.2.1 hg.2.2.2.1 (fun r hr => by cases hr)
   refine ⟨_, rfl, wkAt H2 ?_⟩
   clear H H2
   refine wAl rfl rfl tybook_Book fun b7 => ?_
   refine wSr rfl tybook_Book 0 rfl rfl rfl rfl (bkL ((newB c).conf) ((newB c).index) ((newB c).room) (.slice la5_1 ((newB c).live.length) lc5_1) (.slice da5_1 ((newB c).done.length) dc5_1) ((newB c).modes)) (by first | rfl | (simp only [spl]; rfl)) ?_
   refine wN ?_
   refine tN (wKK hK7 ?_)
   refine wSeqK fun KK8 hK8 => ?_
   refine wReg ?_
   refine wLr rfl tyapi_Config 3 rfl (cL c) rfl rfl ?_
   refine wC (l := [.agg (cA c)]) Try.func23 rfl (by kernel_rfl) (fun wc H => newT c wc) rfl rfl rfl rfl ?_
   intro wc H
   rintro er wd ⟨rla6_1, rlc6_1, rda6_1, rdc6_1, rfl, hg⟩
   have H2 := hp_gotB H hg.2.2.2.2 hg.1 hg.2.1 (by decide) (by decide) hg.2.2.1 hg.2.2.2.1 (fun r hr => by cases hr)
   refine ⟨_, rfl, wkAt H2 ?_⟩
   clear H H2
   refine wAl rfl rfl tyhoistwayref09_Book fun b8 => ?_
   refine wSr rfl tyhoistwayref09_Book 0 rfl rfl rfl rfl (rbL ((newB c).conf) ((newB c).room != 0) ((newB c).index) (.slice rla6_1 ((liveV (newB c)).length) rlc6_1) (.slice rda6_1 ((newB c).done.length) rdc6_1) ((newB c).modes)) (by first | rfl | (simp only [spl]; rfl)) ?_
   refine wN ?_
   refine tN (wKK hK8 ?_)
   refine wSeqK fun KK9 hK9 => ?_
   refine wSeqK fun KK10 hK10 => ?_
   refine wReg ?_
   refine p_goes_w rfl ?_
   refine wN ?_
   refine tN (wKK hK10 ?_)
   refine wBlk ?_
   refine wH (R' := [rB b7 33 (bkL ((newB c).conf) ((newB c).index) ((newB c).room) (.slice la5_1 ((newB c).live.length) lc5_1) (.slice da5_1 ((newB c).done.length) dc5_1) ((newB c).modes)), rB b8 61 (rbL ((newB c).conf) ((newB c).room != 0) ((newB c).index) (.slice rla6_1 ((liveV (newB c)).length) rlc6_1) (.slice rda6_1 ((newB c).done.length) rdc6_1) ((newB c).modes)), rS la5_1 lc5_1 9 ((newB c).live.map rowOf), rS da5_1 dc5_1 8 ((newB c).done.map callRow), rS rla6_1 rlc6_1 8 ((liveV (newB c)).map callRow), rS rda6_1 rdc6_1 8 ((newB c).done.map callRow), rB b3 24 (cL c), rS qa qc 1 (ps.map fun k => [Value.int .i64 k]), rS pa pc 22 (ds.map deedRow)]) (fun ww H => hp_sel [3, 0, 4, 5, 1, 2, 6, 7, 8] H (by decide) rfl) ?_
   refine wLoop (fun ab wv => ∃ i : Nat, ∃ b : BookV, ∃ la : Option Addr, ∃ lc : Nat, ∃ da : Option Addr, ∃ dc : Nat, ∃ ra : Option Addr, ∃ rc : Nat, ∃ sa : Option Addr, ∃ sc : Nat, (i ≤ ds.length) ∧ (i ≤ 60) ∧ (Hid (InvB b)) ∧ (b.index ≤ (i : Int)) ∧ ab.tmps.size = 114 ∧ ab.defers = [] ∧ Sat [(0, .agg (cA c)), (1, .slice pa ds.length pc), (2, .slice qa ps.length qc), (3, .pointer (some ⟨b3, 0, none⟩)), (7, .pointer (some ⟨b7, 0, none⟩)), (8, .pointer (some ⟨b8, 0, none⟩)), (9, .int .i64 i), (17, .bool false), (20, .bool (!(checkV c == 0)))] ab ∧ Hid (Hp [] w wv [rB b7 33 (bkL b.conf b.index b.room (.slice la b.live.length lc) (.slice da b.done.length dc) b.modes), rB b8 61 (rbL b.conf (b.room != 0) b.index (.slice ra ((liveV b).length) rc) (.slice sa b.done.length sc) b.modes), rS la lc 9 (b.live.map rowOf), rS da dc 8 (b.done.map callRow), rS ra rc 8 ((liveV b).map callRow), rS sa sc 8 (b.done.map callRow), rB b3 24 (cL c), rS qa qc 1 (ps.map fun k => [Value.int .i64 k]), rS pa pc 22 (ds.map deedRow)])) (fun ab _ => 60 - (intOf (ab.eval (.tmp 9))).toNat) (fun aa ww nn dd hs H => ⟨0, (newB c), la5_1, lc5_1, da5_1, dc5_1, rla6_1, rlc6_1, rda6_1, rdc6_1, (Nat.zero_le _), (by omega), hI0, (by rw [new_ix]; exact Int.le_refl _), nn, dd, (sat_sub ⟨rfl, rfl, rfl, rfl, rfl, rfl, rfl, rfl, rfl, trivial⟩ hs), H⟩) ?_
   rintro a1 wv ⟨i, b, la, lc, da, dc, ra, rc, sa, sc, hi, hi2, hI, hix, nn, dd, hs, H⟩
   have mu1_9 := hs 9 _ rfl
   refine wIn nn dd hs H ?_
   clear nn dd hs H
   refine wSeqK fun KK11 hK11 => ?_
   refine wSeqK fun KK12 hK12 => ?_
   refine wReg ?_
   iterate 2 refine p_goes_w rfl ?_
   refine wE (.int .i64 ds.length) rfl rfl rfl (fun aa ww hs _ => by have e26 := hs 26 _ rfl; have g26 := gt_of e26; simp only [execOp]; go_simp <;> first | rfl | omega) ?_
   refine p_goes_w rfl ?_
   refine wB (c := decide (i < ds.length)) 28 rfl (by simp) ?_
   refine p_goes_w rfl ?_
   refine wCut 3 [(32, .bool ((decide (i < ds.length)) && (decide ((i : Int) < 60)))), (0, .agg (cA c)), (1, .slice pa ds.length pc), (2, .slice qa ps.length qc), (3, .pointer (some ⟨b3, 0, none⟩)), (7, .pointer (some ⟨b7, 0, none⟩)), (8, .pointer (some ⟨b8, 0, none⟩)), (9, .int .i64 i), (17, .bool false), (20, .bool (!(checkV c == 0)))] ?_ ?_
   · intro KK hKK
     rcases Bool.eq_false_or_eq_true (decide (i < ds.length)) with u2 | u2
     · skip
       refine wB (c := true) 29 rfl u2 ?_
       iterate 2 refine p_goes_w rfl ?_
       refine p_goes_w rfl ?_
       refine wB (c := (decide (i < ds.length)) && (decide ((i : Int) < 60))) 32 rfl (by rw [u2]; rfl) ?_
       refine wN (tN ?_)
       exact fun aa ww nn dd hs H => hKK aa ww nn dd (sat_sub ⟨rfl, rfl, rfl, rfl, rfl, rfl, rfl, rfl, rfl, rfl, trivial⟩ hs) H
     · skip
       refine wB (c := false) 29 rfl u2 ?_
       iterate 2 refine p_goes_w rfl ?_
       refine p_goes_w rfl ?_
       refine wB (c := (decide (i < ds.length)) && (decide ((i : Int) < 60))) 32 rfl (by rw [u2]; rfl) ?_
       refine wN (tN ?_)
       exact fun aa ww nn dd hs H => hKK aa ww nn dd (sat_sub ⟨rfl, rfl, rfl, rfl, rfl, rfl, rfl, rfl, rfl, rfl, trivial⟩ hs) H
   refine wN ?_
   refine tN (wKK hK12 ?_)
   refine wCond (E := (decide (i < ds.length)) && (decide ((i : Int) < 60))) rfl (fun z3 => ?_) (fun z3 => ?_)
   · skip
     have z3l : (decide (i < ds.length)) = true := Reg.bl z3
     have z3ld : i < ds.length := of_decide_eq_true z3l
     have z3r : (decide ((i : Int) < 60)) = true := Reg.br z3
     have z3rd : (i : Int) < 60 := of_decide_eq_true z3r
     intro aa ww nn dd hs H
     obtain ⟨yx, rfl⟩ := some_of_row (i := i) (hp_held H (show rS pa _ 22 (ds.map deedRow) ∈ _ by (repeat (first | exact List.Mem.head _ | apply List.Mem.tail)))) (by simp; omega)
     obtain ⟨x, hx⟩ : ∃ x, ds[i]? = some x := ⟨ds[i], List.getElem?_eq_getElem (by omega)⟩
     have HRx := Lib.hid (show (ds.map deedRow)[i]? = some [.int .i64 x.kind, .int .i64 x.x.id, .int .i64 x.x.kind, .int .i64 x.x.src, .int .i64 x.x.dst, .int .i64 x.x.car, .int .i64 x.x.state, .int .i64 x.x.owner, .int .i64 x.x.born, .int .i64 x.n, .int .i64 x.m, .int .i64 x.ch.index, .int .i64 x.ch.call.id, .int .i64 x.ch.call.kind, .int .i64 x.ch.call.src, .int .i64 x.ch.call.dst, .int .i64 x.ch.call.car, .int .i64 x.ch.call.state, .int .i64 x.ch.call.owner, .int .i64 x.ch.call.born, .int .i64 x.ch.car, .int .i64 x.ch.mode] by rw [List.getElem?_map, hx]; rfl)
     have HXx := Lib.hid hx
     clear hx
     have hbi := hI.out.ok.index
     refine wIn nn dd hs H ?_
     refine wSk ?_
     refine tN (wKK hK11 ?_)
     refine wSeqK fun KK13 hK13 => ?_
     refine wBlk ?_
     refine wSeqK fun KK14 hK14 => ?_
     refine wReg ?_
     iterate 2 refine p_goes_w rfl ?_
     refine wE (.pointer (some (yx.add (i * 22)))) rfl rfl rfl (fun aa ww hs _ => by have e35 := hs 35 _ rfl; have g35 := gt_of e35; have e36 := hs 36 _ rfl; have g36 := gt_of e36; simp only [execOp]; go_simp <;> first | rfl | omega) ?_
     refine wX 38 (.agg #[.int .i64 x.kind, .int .i64 x.x.id, .int .i64 x.x.kind, .int .i64 x.x.src, .int .i64 x.x.dst, .int .i64 x.x.car, .int .i64 x.x.state, .int .i64 x.x.owner, .int .i64 x.x.born, .int .i64 x.n, .int .i64 x.m, .int .i64 x.ch.index, .int .i64 x.ch.call.id, .int .i64 x.ch.call.kind, .int .i64 x.ch.call.src, .int .i64 x.ch.call.dst, .int .i64 x.ch.call.car, .int .i64 x.ch.call.state, .int .i64 x.ch.call.owner, .int .i64 x.ch.call.born, .int .i64 x.ch.car, .int .i64 x.ch.mode]) rfl (fun aa ww KK hs H _ hk => hpS_load tyhoistwaylaw09_Deed H (y := yx) rfl (hs _ _ rfl) (wnt_ok hs rfl) (by (repeat (first | exact List.Mem.head _ | apply List.Mem.tail))) HRx.out rfl hk) ?_
     refine wAl rfl rfl tyhoistwaylaw09_Deed fun b10 => ?_
     refine wSr rfl tyhoistwaylaw09_Deed 0 rfl rfl rfl rfl [.int .i64 x.kind, .int .i64 x.x.id, .int .i64 x.x.kind, .int .i64 x.x.src, .int .i64 x.x.dst, .int .i64 x.x.car, .int .i64 x.x.state, .int .i64 x.x.owner, .int .i64 x.x.born, .int .i64 x.n, .int .i64 x.m, .int .i64 x.ch.index, .int .i64 x.ch.call.id, .int .i64 x.ch.call.kind, .int .i64 x.ch.call.src, .int .i64 x.ch.call.dst, .int .i64 x.ch.call.car, .int .i64 x.ch.call.state, .int .i64 x.ch.call.owner, .int .i64 x.ch.call.born, .int .i64 x.ch.car, .int .i64 x.ch.mode] (by first | rfl | (simp only [spl]; rfl)) ?_
     refine wN ?_
     refine tN (wKK hK14 ?_)
     refine wSeqK fun KK15 hK15 => ?_
     refine wReg ?_
     refine wE (.agg (chA zeroCh)) rfl rfl rfl (fun aa ww hs _ => by simp only [execOp]; go_simp <;> first | rfl | omega) ?_
     refine wAl rfl rfl tyapi_Change fun b11 => ?_
     refine wSr rfl tyapi_Change 0 rfl rfl rfl rfl (chL zeroCh) (by first | rfl | (simp only [spl]; rfl)) ?_
     refine wN ?_
     refine tN (wKK hK15 ?_)
     refine wSeqK fun KK16 hK16 => ?_
     refine wReg ?_
     refine wLr rfl tybook_Book 2 rfl (bkL b.conf b.index b.room (.slice la b.live.length lc) (.slice da b.done.length dc) b.modes) rfl rfl ?_
     refine p_goes_w rfl ?_
     refine wLr rfl tyapi_Call 1 rfl (xL x.x) rfl rfl ?_
     refine p_goes_w rfl ?_
     refine wLd rfl tyint 1 rfl rfl ?_
     refine p_goes_w rfl ?_
     refine wLd rfl tyint 1 rfl rfl ?_
     refine wC (l := [.agg (bkA b.conf b.index b.room (.slice la b.live.length lc) (.slice da b.done.length dc) b.modes), .agg (xA x.x), .int .i64 x.n, .int .i64 x.m]) Try.func13 rfl (by kernel_rfl) (fun wc H => placeC b la lc da dc x.x x.n x.m wc (hp_held H (by (repeat (first | exact List.Mem.head _ | apply List.Mem.tail)))) (hp_held H (by (repeat (first | exact List.Mem.head _ | apply List.Mem.tail)))) (Lib.hid hI.out.ok) ) rfl rfl rfl rfl ?_
     intro wc H
     rintro er wd ⟨la12_7, lc12_7, da12_7, dc12_7, rfl, hg⟩
     have H2 := hp_gotB H hg.2.2.2.2 hg.1 hg.2.1 (by decide) (by decide) hg.2.2.1 hg.2.2.2.1 (List.forall_mem_cons.2 ⟨(by (repeat (first | exact List.Mem.head _ | apply List.Mem.tail))), List.forall_mem_cons.2 ⟨(by (repeat (first | exact List.Mem.head _ | apply List.Mem.tail))), fun _ h => by cases h⟩⟩)
     refine ⟨_, rfl, wkAt H2 ?_⟩
     clear H H2
     iterate 4 refine p_goes_w rfl ?_
     refine wAl rfl rfl tybook_Book fun b12 => ?_
     refine wSr rfl tybook_Book 0 rfl rfl rfl rfl (bkL (((placeV b x.x x.n x.m).1).conf) (((placeV b x.x x.n x.m).1).index) (((placeV b x.x x.n x.m).1).room) (.slice la12_7 (((placeV b x.x x.n x.m).1).live.length) lc12_7) (.slice da12_7 (((placeV b x.x x.n x.m).1).done.length) dc12_7) (((placeV b x.x x.n x.m).1).modes)) (by first | rfl | (simp only [spl]; rfl)) ?_
     refine wSr rfl tyapi_Change 3 rfl rfl rfl rfl (chL ((placeV b x.x x.n x.m).2.1)) (by first | rfl | (simp only [spl]; rfl)) ?_
     refine p_goes_w rfl ?_
     refine wN ?_
     refine tN (wKK hK16 ?_)
     refine wSeqK fun KK17 hK17 => ?_
     refine wSeqK fun KK18 hK18 => ?_
     refine wReg ?_
     iterate 2 refine p_goes_w rfl ?_
     refine wE (.int .i64 ps.length) rfl rfl rfl (fun aa ww hs _ => by have e53 := hs 53 _ rfl; have g53 := gt_of e53; simp only [execOp]; go_simp <;> first | rfl | omega) ?_
     refine p_goes_w rfl ?_
     refine wB (c := decide (i < ps.length)) 55 rfl (by simp) ?_
     refine p_goes_w rfl ?_
     refine wCut 5 [(61, .bool ((decide (i < ps.length)) && (decide (0 < ((liveV b).length : Int))))), (0, .agg (cA c)), (1, .slice (some yx) ds.length pc), (2, .slice qa ps.length qc), (3, .pointer (some ⟨b3, 0, none⟩)), (7, .pointer (some ⟨b7, 0, none⟩)), (8, .pointer (some ⟨b8, 0, none⟩)), (9, .int .i64 i), (10, .pointer (some ⟨b10, 0, none⟩)), (11, .pointer (some ⟨b11, 0, none⟩)), (12, .pointer (some ⟨b12, 0, none⟩)), (13, .int .i64 ((placeV b x.x x.n x.m).2.2)), (17, .bool false), (20, .bool (!(checkV c == 0))), (32, .bool ((decide (i < ds.length)) && (decide ((i : Int) < 60))))] ?_ ?_
     · intro KK hKK
       rcases Bool.eq_false_or_eq_true (decide (i < ps.length)) with u4 | u4
       · skip
         refine wB (c := true) 56 rfl u4 ?_
         refine p_goes_w rfl ?_
         refine wLd rfl tyS_api_Call 6 rfl rfl ?_
         refine wE (.int .i64 ((liveV b).length)) rfl rfl rfl (fun aa ww hs _ => by have e58 := hs 58 _ rfl; have g58 := gt_of e58; simp only [execOp]; go_simp <;> first | rfl | omega) ?_
         refine p_goes_w rfl ?_
         refine p_goes_w rfl ?_
         refine wB (c := (decide (i < ps.length)) && (decide (0 < ((liveV b).length : Int)))) 61 rfl (by rw [u4]; rfl) ?_
         refine wN (tN ?_)
         exact fun aa ww nn dd hs H => hKK aa ww nn dd (sat_sub ⟨rfl, rfl, rfl, rfl, rfl, rfl, rfl, rfl, rfl, rfl, rfl, rfl, rfl, rfl, rfl, trivial⟩ hs) H
       · skip
         refine wB (c := false) 56 rfl u4 ?_
         iterate 4 refine p_goes_w rfl ?_
         refine p_goes_w rfl ?_
         refine wB (c := (decide (i < ps.length)) && (decide (0 < ((liveV b).length : Int)))) 61 rfl (by rw [u4]; rfl) ?_
         refine wN (tN ?_)
         exact fun aa ww nn dd hs H => hKK aa ww nn dd (sat_sub ⟨rfl, rfl, rfl, rfl, rfl, rfl, rfl, rfl, rfl, rfl, rfl, rfl, rfl, rfl, rfl, trivial⟩ hs) H
     refine wN ?_
     refine tN (wKK hK18 ?_)
     refine wCond (E := (decide (i < ps.length)) && (decide (0 < ((liveV b).length : Int)))) rfl (fun z5 => ?_) (fun z5 => ?_)
     · skip
       have z5l : (decide (i < ps.length)) = true := Reg.bl z5
       have z5ld : i < ps.length := of_decide_eq_true z5l
       have z5r : (decide (0 < ((liveV b).length : Int))) = true := Reg.br z5
       have z5rd : 0 < ((liveV b).length : Int) := of_decide_eq_true z5r
       intro aa ww nn dd hs H
       obtain ⟨yq, rfl⟩ := some_of_row (i := i) (hp_held H (show rS qa _ 1 (ps.map fun k => [Value.int .i64 k]) ∈ _ by (repeat (first | exact List.Mem.head _ | apply List.Mem.tail)))) (by simp; omega)
       obtain ⟨pk, hpk⟩ : ∃ x, ps[i]? = some x := ⟨ps[i], List.getElem?_eq_getElem (by omega)⟩
       have HRp := Lib.hid (show (ps.map fun k => [Value.int .i64 k])[i]? = some [.int .i64 pk] by rw [List.getElem?_map, hpk]; rfl)
       clear hpk
       have hlp : 0 < (liveV b).length := by omega
       refine wIn nn dd hs H ?_
       refine wSeqK fun KK19 hK19 => ?_
       intro aa ww nn dd hs H
       refine goes_w_r14 c pc ds qc ps b3 b7 b8 i b la lc da dc ra rc sa sc hi hi2 hI hix z3ld z3rd yx x hbi b10 b11 la12_7 lc12_7 da12_7 dc12_7 b12 z5ld z5rd yq pk HRp hlp H aa nn (hs 2 _ rfl) (hs 8 _ rfl) (hs 9 _ rfl) (hs 10 _ rfl) (hs 11 _ rfl) ?_
       intro y14_7 ab wv nn2 dd2 kp H2
       refine wIn nn2 (dd2.trans dd) (Sat.cons (Sat.cons (Sat.cons (Sat.cons (Sat.cons (Sat.cons (Sat.cons (Sat.cons (Sat.cons (Sat.cons (Sat.cons (Sat.cons (Sat.cons (Sat.cons (Sat.cons (sat_nil ab) ((kp 61 rfl).trans (hs 61 _ rfl))) ((kp 32 rfl).trans (hs 32 _ rfl))) ((kp 20 rfl).trans (hs 20 _ rfl))) ((kp 17 rfl).trans (hs 17 _ rfl))) ((kp 13 rfl).trans (hs 13 _ rfl))) ((kp 12 rfl).trans (hs 12 _ rfl))) ((kp 11 rfl).trans (hs 11 _ rfl))) ((kp 10 rfl).trans (hs 10 _ rfl))) ((kp 9 rfl).trans (hs 9 _ rfl))) ((kp 8 rfl).trans (hs 8 _ rfl))) ((kp 7 rfl).trans (hs 7 _ rfl))) ((kp 3 rfl).trans (hs 3 _ rfl))) ((kp 2 rfl).trans (hs 2 _ rfl))) ((kp 1 rfl).trans (hs 1 _ rfl))) ((kp 0 rfl).trans (hs 0 _ rfl))) H2 ?_
       clear hs H kp H2 dd dd2 nn nn2
       refine tN (wKK hK19 ?_)
       refine wReg ?_
       refine wLr rfl tybook_Book 5 rfl (bkL b.conf b.index b.room (.slice la b.live.length lc) (.slice da b.done.length dc) b.modes) rfl rfl ?_
       refine wLr rfl tyapi_Change 3 rfl [.int .i64 (b.index + 1), .int .i64 y14_7.id, .int .i64 y14_7.kind, .int .i64 y14_7.src, .int .i64 y14_7.dst, .int .i64 y14_7.car, .int .i64 y14_7.state, .int .i64 y14_7.owner, .int .i64 y14_7.born, .int .i64 0, .int .i64 0] rfl rfl ?_
       refine wC (l := [.agg (bkA b.conf b.index b.room (.slice la b.live.length lc) (.slice da b.done.length dc) b.modes), .agg #[.int .i64 (b.index + 1), .int .i64 y14_7.id, .int .i64 y14_7.kind, .int .i64 y14_7.src, .int .i64 y14_7.dst, .int .i64 y14_7.car, .int .i64 y14_7.state, .int .i64 y14_7.owner, .int .i64 y14_7.born, .int .i64 0, .int .i64 0]]) Try.func16 rfl (by kernel_rfl) (fun wc H => applyC b la lc da dc (⟨b.index + 1, y14_7, 0, 0⟩ : ChgV) wc (hp_held H (by (repeat (first | exact List.Mem.head _ | apply List.Mem.tail)))) (hp_held H (by (repeat (first | exact List.Mem.head _ | apply List.Mem.tail)))) (Lib.hid hI.out.ok) ) rfl rfl rfl rfl ?_
       intro wc H
       rintro er wd ⟨la15_2, lc15_2, da15_2, dc15_2, rfl, hg⟩
       have H2 := hp_gotB H hg.2.2.2.2 hg.1 hg.2.1 (by decide) (by decide) hg.2.2.1 hg.2.2.2.1 (List.forall_mem_cons.2 ⟨(by (repeat (first | exact List.Mem.head _ | apply List.Mem.tail))), List.forall_mem_cons.2 ⟨(by (repeat (first | exact List.Mem.head _ | apply List.Mem.tail))), fun _ h => by cases h⟩⟩)
       refine ⟨_, rfl, wkAt H2 ?_⟩
       clear H H2
       iterate 3 refine p_goes_w rfl ?_
       refine wSr rfl tybook_Book 2 rfl rfl rfl rfl (bkL (((applyV b (⟨b.index + 1, y14_7, 0, 0⟩ : ChgV)).1).conf) (((applyV b (⟨b.index + 1, y14_7, 0, 0⟩ : ChgV)).1).index) (((applyV b (⟨b.index + 1, y14_7, 0, 0⟩ : ChgV)).1).room) (.slice la15_2 (((applyV b (⟨b.index + 1, y14_7, 0, 0⟩ : ChgV)).1).live.length) lc15_2) (.slice da15_2 (((applyV b (⟨b.index + 1, y14_7, 0, 0⟩ : ChgV)).1).done.length) dc15_2) (((applyV b (⟨b.index + 1, y14_7, 0, 0⟩ : ChgV)).1).modes)) (by first | rfl | (simp only [spl]; rfl)) ?_
       refine p_goes_w rfl ?_
       refine wN ?_
       refine tN (wKK hK17 ?_)
       refine wSeqK fun KK20 hK20 => ?_
       intro aa ww nn dd hs H
       have hchi : -9223372036854775808 ≤ b.index + 1 ∧ b.index + 1 ≤ 9223372036854775807 := by omega
       refine wIn nn dd hs H ?_
       refine wReg ?_
       refine wLr rfl tyhoistwayref09_Book 8 rfl (rbL b.conf (b.room != 0) b.index (.slice ra ((liveV b).length) rc) (.slice sa b.done.length sc) b.modes) rfl rfl ?_
       refine wLr rfl tyapi_Change 5 rfl [.int .i64 (b.index + 1), .int .i64 y14_7.id, .int .i64 y14_7.kind, .int .i64 y14_7.src, .int .i64 y14_7.dst, .int .i64 y14_7.car, .int .i64 y14_7.state, .int .i64 y14_7.owner, .int .i64 y14_7.born, .int .i64 0, .int .i64 0] rfl rfl ?_
       refine wC (l := [.agg (rbA b.conf (b.room != 0) b.index (.slice ra ((liveV b).length) rc) (.slice sa b.done.length sc) b.modes), .agg #[.int .i64 (b.index + 1), .int .i64 y14_7.id, .int .i64 y14_7.kind, .int .i64 y14_7.src, .int .i64 y14_7.dst, .int .i64 y14_7.car, .int .i64 y14_7.state, .int .i64 y14_7.owner, .int .i64 y14_7.born, .int .i64 0, .int .i64 0]]) Try.func28 rfl (by kernel_rfl) (fun wc H => applyT b ra rc sa sc (⟨b.index + 1, y14_7, 0, 0⟩ : ChgV) wc (hp_held H (by (repeat (first | exact List.Mem.head _ | apply List.Mem.tail)))) (hp_held H (by (repeat (first | exact List.Mem.head _ | apply List.Mem.tail)))) hI.out (by omega) hchi) rfl rfl rfl rfl ?_
       intro wc H
       rintro er wd ⟨rla16_2, rlc16_2, rda16_2, rdc16_2, rfl, hg⟩
       have H2 := hp_gotB H hg.2.2.2.2 hg.1 hg.2.1 (by decide) (by decide) hg.2.2.1 hg.2.2.2.1 (List.forall_mem_cons.2 ⟨(by (repeat (first | exact List.Mem.head _ | apply List.Mem.tail))), List.forall_mem_cons.2 ⟨(by (repeat (first | exact List.Mem.head _ | apply List.Mem.tail))), fun _ h => by cases h⟩⟩)
       refine ⟨_, rfl, wkAt H2 ?_⟩
       clear H H2
       iterate 3 refine p_goes_w rfl ?_
       refine wAl rfl rfl tyhoistwayref09_Book fun b14 => ?_
       refine wSr rfl tyhoistwayref09_Book 0 rfl rfl rfl rfl (rbL (((applyV b (⟨b.index + 1, y14_7, 0, 0⟩ : ChgV)).1).conf) (((applyV b (⟨b.index + 1, y14_7, 0, 0⟩ : ChgV)).1).room != 0) (((applyV b (⟨b.index + 1, y14_7, 0, 0⟩ : ChgV)).1).index) (.slice rla16_2 ((liveV ((applyV b (⟨b.index + 1, y14_7, 0, 0⟩ : ChgV)).1)).length) rlc16_2) (.slice rda16_2 (((applyV b (⟨b.index + 1, y14_7, 0, 0⟩ : ChgV)).1).done.length) rdc16_2) (((applyV b (⟨b.index + 1, y14_7, 0, 0⟩ : ChgV)).1).modes)) (by first | rfl | (simp only [spl]; rfl)) ?_
       refine p_goes_w rfl ?_
       refine wN ?_
       refine tN (wKK hK20 ?_)
       refine wSeqK fun KK21 hK21 => ?_
       refine wSeqK fun KK22 hK22 => ?_
       rcases Bool.eq_false_or_eq_true (((applyV b (⟨b.index + 1, y14_7, 0, 0⟩ : ChgV)).2) == 0) with y6 | y6
       · skip
         have y6o : (((applyV b (⟨b.index + 1, y14_7, 0, 0⟩ : ChgV)).2) != 0) = false := eqq_t y6
         refine wReg ?_
         iterate 2 refine p_goes_w rfl ?_
         refine wB 83 rfl y6 ?_
         iterate 3 refine p_goes_w rfl ?_
         refine wB 86 rfl y6o ?_
         refine p_goes_w rfl ?_
         refine wLr rfl tybook_Book 5 rfl (bkL (((applyV b (⟨b.index + 1, y14_7, 0, 0⟩ : ChgV)).1).conf) (((applyV b (⟨b.index + 1, y14_7, 0, 0⟩ : ChgV)).1).index) (((applyV b (⟨b.index + 1, y14_7, 0, 0⟩ : ChgV)).1).room) (.slice la15_2 (((applyV b (⟨b.index + 1, y14_7, 0, 0⟩ : ChgV)).1).live.length) lc15_2) (.slice da15_2 (((applyV b (⟨b.index + 1, y14_7, 0, 0⟩ : ChgV)).1).done.length) dc15_2) (((applyV b (⟨b.index + 1, y14_7, 0, 0⟩ : ChgV)).1).modes)) rfl rfl ?_
         refine wLr rfl tyhoistwayref09_Book 0 rfl (rbL (((applyV b (⟨b.index + 1, y14_7, 0, 0⟩ : ChgV)).1).conf) (((applyV b (⟨b.index + 1, y14_7, 0, 0⟩ : ChgV)).1).room != 0) (((applyV b (⟨b.index + 1, y14_7, 0, 0⟩ : ChgV)).1).index) (.slice rla16_2 ((liveV ((applyV b (⟨b.index + 1, y14_7, 0, 0⟩ : ChgV)).1)).length) rlc16_2) (.slice rda16_2 (((applyV b (⟨b.index + 1, y14_7, 0, 0⟩ : ChgV)).1).done.length) rdc16_2) (((applyV b (⟨b.index + 1, y14_7, 0, 0⟩ : ChgV)).1).modes)) rfl rfl ?_
         refine wQ (l := [.agg (bkA (((applyV b (⟨b.index + 1, y14_7, 0, 0⟩ : ChgV)).1).conf) (((applyV b (⟨b.index + 1, y14_7, 0, 0⟩ : ChgV)).1).index) (((applyV b (⟨b.index + 1, y14_7, 0, 0⟩ : ChgV)).1).room) (.slice la15_2 (((applyV b (⟨b.index + 1, y14_7, 0, 0⟩ : ChgV)).1).live.length) lc15_2) (.slice da15_2 (((applyV b (⟨b.index + 1, y14_7, 0, 0⟩ : ChgV)).1).done.length) dc15_2) (((applyV b (⟨b.index + 1, y14_7, 0, 0⟩ : ChgV)).1).modes)), .agg (rbA (((applyV b (⟨b.index + 1, y14_7, 0, 0⟩ : ChgV)).1).conf) (((applyV b (⟨b.index + 1, y14_7, 0, 0⟩ : ChgV)).1).room != 0) (((applyV b (⟨b.index + 1, y14_7, 0, 0⟩ : ChgV)).1).index) (.slice rla16_2 ((liveV ((applyV b (⟨b.index + 1, y14_7, 0, 0⟩ : ChgV)).1)).length) rlc16_2) (.slice rda16_2 (((applyV b (⟨b.index + 1, y14_7, 0, 0⟩ : ChgV)).1).done.length) rdc16_2) (((applyV b (⟨b.index + 1, y14_7, 0, 0⟩ : ChgV)).1).modes))]) Try.func24 rfl (by kernel_rfl) (.bool true) (fun wc H => alikeT ((applyV b (⟨b.index + 1, y14_7, 0, 0⟩ : ChgV)).1) la15_2 lc15_2 da15_2 dc15_2 rla16_2 rlc16_2 rda16_2 rdc16_2 wc (hp_held H (by (repeat (first | exact List.Mem.head _ | apply List.Mem.tail)))) (hp_held H (by (repeat (first | exact List.Mem.head _ | apply List.Mem.tail)))) (hp_held H (by (repeat (first | exact List.Mem.head _ | apply List.Mem.tail)))) (hp_held H (by (repeat (first | exact List.Mem.head _ | apply List.Mem.tail)))) (show Hid (InvB ((applyV b (⟨b.index + 1, y14_7, 0, 0⟩ : ChgV)).1)) from Lib.hid (apply_toR hI.out (by omega) hchi).2)) rfl rfl rfl rfl ?_
         iterate 6 refine p_goes_w rfl ?_
         refine wB 96 rfl y6o ?_
         iterate 10 refine p_goes_w rfl ?_
         refine wN ?_
         refine tN (wKK hK22 ?_)
         refine wCf rfl ?_
         refine wSk ?_
         refine tN (wKK hK21 ?_)
         refine wSeqK fun KK23 hK23 => ?_
         refine wReg ?_
         iterate 2 refine p_goes_w rfl ?_
         refine wB 108 rfl y6 ?_
         refine wN ?_
         refine tN (wKK hK23 ?_)
         refine wCt rfl ?_
         refine wSeqK fun KK24 hK24 => ?_
         refine wReg ?_
         refine wLr rfl tybook_Book 5 rfl (bkL (((applyV b (⟨b.index + 1, y14_7, 0, 0⟩ : ChgV)).1).conf) (((applyV b (⟨b.index + 1, y14_7, 0, 0⟩ : ChgV)).1).index) (((applyV b (⟨b.index + 1, y14_7, 0, 0⟩ : ChgV)).1).room) (.slice la15_2 (((applyV b (⟨b.index + 1, y14_7, 0, 0⟩ : ChgV)).1).live.length) lc15_2) (.slice da15_2 (((applyV b (⟨b.index + 1, y14_7, 0, 0⟩ : ChgV)).1).done.length) dc15_2) (((applyV b (⟨b.index + 1, y14_7, 0, 0⟩ : ChgV)).1).modes)) rfl rfl ?_
         refine wSr rfl tybook_Book 10 rfl rfl rfl rfl (bkL (((applyV b (⟨b.index + 1, y14_7, 0, 0⟩ : ChgV)).1).conf) (((applyV b (⟨b.index + 1, y14_7, 0, 0⟩ : ChgV)).1).index) (((applyV b (⟨b.index + 1, y14_7, 0, 0⟩ : ChgV)).1).room) (.slice la15_2 (((applyV b (⟨b.index + 1, y14_7, 0, 0⟩ : ChgV)).1).live.length) lc15_2) (.slice da15_2 (((applyV b (⟨b.index + 1, y14_7, 0, 0⟩ : ChgV)).1).done.length) dc15_2) (((applyV b (⟨b.index + 1, y14_7, 0, 0⟩ : ChgV)).1).modes)) (by first | rfl | (simp only [spl]; rfl)) ?_
         refine wN ?_
         refine tN (wKK hK24 ?_)
         refine wReg ?_
         refine wLr rfl tyhoistwayref09_Book 0 rfl (rbL (((applyV b (⟨b.index + 1, y14_7, 0, 0⟩ : ChgV)).1).conf) (((applyV b (⟨b.index + 1, y14_7, 0, 0⟩ : ChgV)).1).room != 0) (((applyV b (⟨b.index + 1, y14_7, 0, 0⟩ : ChgV)).1).index) (.slice rla16_2 ((liveV ((applyV b (⟨b.index + 1, y14_7, 0, 0⟩ : ChgV)).1)).length) rlc16_2) (.slice rda16_2 (((applyV b (⟨b.index + 1, y14_7, 0, 0⟩ : ChgV)).1).done.length) rdc16_2) (((applyV b (⟨b.index + 1, y14_7, 0, 0⟩ : ChgV)).1).modes)) rfl rfl ?_
         refine wSr rfl tyhoistwayref09_Book 11 rfl rfl rfl rfl (rbL (((applyV b (⟨b.index + 1, y14_7, 0, 0⟩ : ChgV)).1).conf) (((applyV b (⟨b.index + 1, y14_7, 0, 0⟩ : ChgV)).1).room != 0) (((applyV b (⟨b.index + 1, y14_7, 0, 0⟩ : ChgV)).1).index) (.slice rla16_2 ((liveV ((applyV b (⟨b.index + 1, y14_7, 0, 0⟩ : ChgV)).1)).length) rlc16_2) (.slice rda16_2 (((applyV b (⟨b.index + 1, y14_7, 0, 0⟩ : ChgV)).1).done.length) rdc16_2) (((applyV b (⟨b.index + 1, y14_7, 0, 0⟩ : ChgV)).1).modes)) (by first | rfl | (simp only [spl]; rfl)) ?_
         refine wN ?_
         refine bN (tN (wKK hK13 ?_))
         refine wReg ?_
         iterate 2 refine p_goes_w rfl ?_
         refine wI 34 rfl (IntWalk.i64_in _ (by omega)) ?_
         refine p_goes_w rfl ?_
         refine wN ?_
         refine tN ?_
         intro aa ww nn dd hs H
         refine ⟨⟨i + 1, ((applyV b (⟨b.index + 1, y14_7, 0, 0⟩ : ChgV)).1), la15_2, lc15_2, da15_2, dc15_2, rla16_2, rlc16_2, rda16_2, rdc16_2, (by omega), (by omega), (Lib.hid (apply_toR hI.out (by omega) hchi).2), (by have h := apply_ix (b := b) hbi.1 (⟨b.index + 1, y14_7, 0, 0⟩ : ChgV); omega), nn, dd, (sat_sub ⟨rfl, rfl, rfl, rfl, rfl, rfl, rfl, rfl, rfl, trivial⟩ hs), (hp_sel [10, 11, 3, 4, 1, 2, 16, 17, 18] H (by decide) rfl)⟩, ?_⟩
         have m9 := hs 9 _ rfl
         simp only [mu1_9, m9, intOf]
         omega
       · skip
         have y6o : (((applyV b (⟨b.index + 1, y14_7, 0, 0⟩ : ChgV)).2) != 0) = true := eqq_f y6
         refine wReg ?_
         iterate 2 refine p_goes_w rfl ?_
         refine wB 83 rfl y6 ?_
         iterate 13 refine p_goes_w rfl ?_
         refine wB 96 rfl y6o ?_
         refine p_goes_w rfl ?_
         refine wLr rfl tyapi_Change 8 rfl [.int .i64 (b.index + 1), .int .i64 y14_7.id, .int .i64 y14_7.kind, .int .i64 y14_7.src, .int .i64 y14_7.dst, .int .i64 y14_7.car, .int .i64 y14_7.state, .int .i64 y14_7.owner, .int .i64 y14_7.born, .int .i64 0, .int .i64 0] rfl rfl ?_
         refine wE (.agg (chA zeroCh)) rfl rfl rfl (fun aa ww hs _ => by simp only [execOp]; go_simp <;> first | rfl | omega) ?_
         refine wE (.bool (!(decide ((⟨b.index + 1, y14_7, 0, 0⟩ : ChgV) = (⟨0, (⟨0, 0, 0, 0, 0, 0, 0, 0⟩ : CallV), 0, 0⟩ : ChgV))))) rfl rfl rfl (fun aa wc hs H => exec_neq rfl (hs _ _ rfl) (hs _ _ rfl) (by kernel_rfl) (run_eq_chg (⟨b.index + 1, y14_7, 0, 0⟩ : ChgV) (⟨0, (⟨0, 0, 0, 0, 0, 0, 0, 0⟩ : CallV), 0, 0⟩ : ChgV) wc)) ?_
         iterate 2 refine p_goes_w rfl ?_
         refine wCut 3 [(105, .bool ((!(decide ((⟨b.index + 1, y14_7, 0, 0⟩ : ChgV) = (⟨0, (⟨0, 0, 0, 0, 0, 0, 0, 0⟩ : CallV), 0, 0⟩ : ChgV)))) && false)), (0, .agg (cA c)), (1, .slice (some yx) ds.length pc), (2, .slice (some yq) ps.length qc), (3, .pointer (some ⟨b3, 0, none⟩)), (7, .pointer (some ⟨b7, 0, none⟩)), (8, .pointer (some ⟨b8, 0, none⟩)), (9, .int .i64 i), (10, .pointer (some ⟨b10, 0, none⟩)), (11, .pointer (some ⟨b11, 0, none⟩)), (12, .pointer (some ⟨b12, 0, none⟩)), (13, .int .i64 ((applyV b (⟨b.index + 1, y14_7, 0, 0⟩ : ChgV)).2)), (14, .pointer (some ⟨b14, 0, none⟩)), (15, .int .i64 ((applyV b (⟨b.index + 1, y14_7, 0, 0⟩ : ChgV)).2)), (17, .bool false), (20, .bool (!(checkV c == 0))), (32, .bool ((decide (i < ds.length)) && (decide ((i : Int) < 60)))), (61, .bool ((decide (i < ps.length)) && (decide (0 < ((liveV b).length : Int))))), (94, .bool false)] ?_ ?_
         · intro KK hKK
           rcases Bool.eq_false_or_eq_true (!(decide ((⟨b.index + 1, y14_7, 0, 0⟩ : ChgV) = (⟨0, (⟨0, 0, 0, 0, 0, 0, 0, 0⟩ : CallV), 0, 0⟩ : ChgV)))) with u7 | u7
           · skip
             refine wB (c := true) 102 rfl u7 ?_
             iterate 2 refine p_goes_w rfl ?_
             refine wB 104 rfl y6 ?_
             refine p_goes_w rfl ?_
             refine wB (c := (!(decide ((⟨b.index + 1, y14_7, 0, 0⟩ : ChgV) = (⟨0, (⟨0, 0, 0, 0, 0, 0, 0, 0⟩ : CallV), 0, 0⟩ : ChgV)))) && false) 105 rfl (by rw [u7]; rfl) ?_
             refine wN (tN ?_)
             exact fun aa ww nn dd hs H => hKK aa ww nn dd (sat_sub ⟨rfl, rfl, rfl, rfl, rfl, rfl, rfl, rfl, rfl, rfl, rfl, rfl, rfl, rfl, rfl, rfl, rfl, rfl, rfl, trivial⟩ hs) H
           · skip
             refine wB (c := false) 102 rfl u7 ?_
             iterate 2 refine p_goes_w rfl ?_
             refine p_goes_w rfl ?_
             refine wB (c := (!(decide ((⟨b.index + 1, y14_7, 0, 0⟩ : ChgV) = (⟨0, (⟨0, 0, 0, 0, 0, 0, 0, 0⟩ : CallV), 0, 0⟩ : ChgV)))) && false) 105 rfl (by rw [u7]; rfl) ?_
             refine wN (tN ?_)
             exact fun aa ww nn dd hs H => hKK aa ww nn dd (sat_sub ⟨rfl, rfl, rfl, rfl, rfl, rfl, rfl, rfl, rfl, rfl, rfl, rfl, rfl, rfl, rfl, rfl, rfl, rfl, rfl, trivial⟩ hs) H
         refine wB (c := false) 105 rfl (by simp) ?_
         refine p_goes_w rfl ?_
         refine wN ?_
         refine tN (wKK hK22 ?_)
         refine wCf rfl ?_
         refine wSk ?_
         refine tN (wKK hK21 ?_)
         refine wSeqK fun KK25 hK25 => ?_
         refine wReg ?_
         iterate 2 refine p_goes_w rfl ?_
         refine wB 108 rfl y6 ?_
         refine wN ?_
         refine tN (wKK hK25 ?_)
         refine wCf rfl ?_
         refine wSk ?_
         refine bN (tN (wKK hK13 ?_))
         refine wReg ?_
         iterate 2 refine p_goes_w rfl ?_
         refine wI 34 rfl (IntWalk.i64_in _ (by omega)) ?_
         refine p_goes_w rfl ?_
         refine wN ?_
         refine tN ?_
         intro aa ww nn dd hs H
         refine ⟨⟨i + 1, b, la, lc, da, dc, ra, rc, sa, sc, (by omega), (by omega), hI, (by omega), nn, dd, (sat_sub ⟨rfl, rfl, rfl, rfl, rfl, rfl, rfl, rfl, rfl, trivial⟩ hs), (hp_sel [10, 11, 12, 13, 14, 15, 16, 17, 18] H (by decide) rfl)⟩, ?_⟩
         have m9 := hs 9 _ rfl
         simp only [mu1_9, m9, intOf]
         omega
     · skip
       refine wSk ?_
       refine tN (wKK hK17 ?_)
       refine wSeqK fun KK26 hK26 => ?_
       rcases Bool.eq_false_or_eq_true ((placeV b x.x x.n x.m).2.2 == 0) with y8 | y8
       · skip
         have y8o : ((placeV b x.x x.n x.m).2.2 != 0) = false := eqq_t y8
         intro aa ww nn dd hs H
         have hpt := place_told b x.x x.n x.m
         have hrp := replay_place hI.out (by omega) (by simpa using y8)
         have hchi : -9223372036854775808 ≤ (placeV b x.x x.n x.m).2.1.index ∧ (placeV b x.x x.n x.m).2.1.index ≤ 9223372036854775807 := by have h := (hpt.2 (by simpa using y8)).2; omega
         refine wIn nn dd hs H ?_
         refine wReg ?_
         refine wLr rfl tyhoistwayref09_Book 6 rfl (rbL b.conf (b.room != 0) b.index (.slice ra ((liveV b).length) rc) (.slice sa b.done.length sc) b.modes) rfl rfl ?_
         refine wLr rfl tyapi_Change 3 rfl (chL ((placeV b x.x x.n x.m).2.1)) rfl rfl ?_
         refine wC (l := [.agg (rbA b.conf (b.room != 0) b.index (.slice ra ((liveV b).length) rc) (.slice sa b.done.length sc) b.modes), .agg (chA ((placeV b x.x x.n x.m).2.1))]) Try.func28 rfl (by kernel_rfl) (fun wc H => by have h := applyT b ra rc sa sc ((placeV b x.x x.n x.m).2.1) wc (hp_held H (by (repeat (first | exact List.Mem.head _ | apply List.Mem.tail)))) (hp_held H (by (repeat (first | exact List.Mem.head _ | apply List.Mem.tail)))) hI.out (by omega) hchi; rw [hrp] at h; exact h) rfl rfl rfl rfl ?_
         intro wc H
         rintro er wd ⟨rla16_2, rlc16_2, rda16_2, rdc16_2, rfl, hg⟩
         have H2 := hp_gotB H hg.2.2.2.2 hg.1 hg.2.1 (by decide) (by decide) hg.2.2.1 hg.2.2.2.1 (List.forall_mem_cons.2 ⟨(by (repeat (first | exact List.Mem.head _ | apply List.Mem.tail))), List.forall_mem_cons.2 ⟨(by (repeat (first | exact List.Mem.head _ | apply List.Mem.tail))), fun _ h => by cases h⟩⟩)
         refine ⟨_, rfl, wkAt H2 ?_⟩
         clear H H2
         iterate 3 refine p_goes_w rfl ?_
         refine wAl rfl rfl tyhoistwayref09_Book fun b14 => ?_
         refine wSr rfl tyhoistwayref09_Book 0 rfl rfl rfl rfl (rbL (((placeV b x.x x.n x.m).1).conf) (((placeV b x.x x.n x.m).1).room != 0) (((placeV b x.x x.n x.m).1).index) (.slice rla16_2 ((liveV ((placeV b x.x x.n x.m).1)).length) rlc16_2) (.slice rda16_2 (((placeV b x.x x.n x.m).1).done.length) rdc16_2) (((placeV b x.x x.n x.m).1).modes)) (by first | rfl | (simp only [spl]; rfl)) ?_
         refine p_goes_w rfl ?_
         refine wN ?_
         refine tN (wKK hK26 ?_)
         refine wSeqK fun KK27 hK27 => ?_
         refine wSeqK fun KK28 hK28 => ?_
         refine wReg ?_
         iterate 2 refine p_goes_w rfl ?_
         refine wB 83 rfl y8 ?_
         iterate 4 refine p_goes_w rfl ?_
         refine wLr rfl tybook_Book 3 rfl (bkL (((placeV b x.x x.n x.m).1).conf) (((placeV b x.x x.n x.m).1).index) (((placeV b x.x x.n x.m).1).room) (.slice la12_7 (((placeV b x.x x.n x.m).1).live.length) lc12_7) (.slice da12_7 (((placeV b x.x x.n x.m).1).done.length) dc12_7) (((placeV b x.x x.n x.m).1).modes)) rfl rfl ?_
         refine wLr rfl tyhoistwayref09_Book 0 rfl (rbL (((placeV b x.x x.n x.m).1).conf) (((placeV b x.x x.n x.m).1).room != 0) (((placeV b x.x x.n x.m).1).index) (.slice rla16_2 ((liveV ((placeV b x.x x.n x.m).1)).length) rlc16_2) (.slice rda16_2 (((placeV b x.x x.n x.m).1).done.length) rdc16_2) (((placeV b x.x x.n x.m).1).modes)) rfl rfl ?_
         refine wQ (l := [.agg (bkA (((placeV b x.x x.n x.m).1).conf) (((placeV b x.x x.n x.m).1).index) (((placeV b x.x x.n x.m).1).room) (.slice la12_7 (((placeV b x.x x.n x.m).1).live.length) lc12_7) (.slice da12_7 (((placeV b x.x x.n x.m).1).done.length) dc12_7) (((placeV b x.x x.n x.m).1).modes)), .agg (rbA (((placeV b x.x x.n x.m).1).conf) (((placeV b x.x x.n x.m).1).room != 0) (((placeV b x.x x.n x.m).1).index) (.slice rla16_2 ((liveV ((placeV b x.x x.n x.m).1)).length) rlc16_2) (.slice rda16_2 (((placeV b x.x x.n x.m).1).done.length) rdc16_2) (((placeV b x.x x.n x.m).1).modes))]) Try.func24 rfl (by kernel_rfl) (.bool true) (fun wc H => alikeT ((placeV b x.x x.n x.m).1) la12_7 lc12_7 da12_7 dc12_7 rla16_2 rlc16_2 rda16_2 rdc16_2 wc (hp_held H (by (repeat (first | exact List.Mem.head _ | apply List.Mem.tail)))) (hp_held H (by (repeat (first | exact List.Mem.head _ | apply List.Mem.tail)))) (hp_held H (by (repeat (first | exact List.Mem.head _ | apply List.Mem.tail)))) (hp_held H (by (repeat (first | exact List.Mem.head _ | apply List.Mem.tail)))) (show Hid (InvB ((placeV b x.x x.n x.m).1)) from Lib.hid (place_toR hI.out (by omega) _ _).2)) rfl rfl rfl rfl ?_
         iterate 6 refine p_goes_w rfl ?_
         refine wB 96 rfl y8o ?_
         iterate 10 refine p_goes_w rfl ?_
         refine wN ?_
         refine tN (wKK hK28 ?_)
         refine wCf rfl ?_
         refine wSk ?_
         refine tN (wKK hK27 ?_)
         refine wSeqK fun KK29 hK29 => ?_
         refine wReg ?_
         iterate 2 refine p_goes_w rfl ?_
         refine wB 108 rfl y8 ?_
         refine wN ?_
         refine tN (wKK hK29 ?_)
         refine wCt rfl ?_
         refine wSeqK fun KK30 hK30 => ?_
         refine wReg ?_
         refine wLr rfl tybook_Book 3 rfl (bkL (((placeV b x.x x.n x.m).1).conf) (((placeV b x.x x.n x.m).1).index) (((placeV b x.x x.n x.m).1).room) (.slice la12_7 (((placeV b x.x x.n x.m).1).live.length) lc12_7) (.slice da12_7 (((placeV b x.x x.n x.m).1).done.length) dc12_7) (((placeV b x.x x.n x.m).1).modes)) rfl rfl ?_
         refine wSr rfl tybook_Book 8 rfl rfl rfl rfl (bkL (((placeV b x.x x.n x.m).1).conf) (((placeV b x.x x.n x.m).1).index) (((placeV b x.x x.n x.m).1).room) (.slice la12_7 (((placeV b x.x x.n x.m).1).live.length) lc12_7) (.slice da12_7 (((placeV b x.x x.n x.m).1).done.length) dc12_7) (((placeV b x.x x.n x.m).1).modes)) (by first | rfl | (simp only [spl]; rfl)) ?_
         refine wN ?_
         refine tN (wKK hK30 ?_)
         refine wReg ?_
         refine wLr rfl tyhoistwayref09_Book 0 rfl (rbL (((placeV b x.x x.n x.m).1).conf) (((placeV b x.x x.n x.m).1).room != 0) (((placeV b x.x x.n x.m).1).index) (.slice rla16_2 ((liveV ((placeV b x.x x.n x.m).1)).length) rlc16_2) (.slice rda16_2 (((placeV b x.x x.n x.m).1).done.length) rdc16_2) (((placeV b x.x x.n x.m).1).modes)) rfl rfl ?_
         refine wSr rfl tyhoistwayref09_Book 9 rfl rfl rfl rfl (rbL (((placeV b x.x x.n x.m).1).conf) (((placeV b x.x x.n x.m).1).room != 0) (((placeV b x.x x.n x.m).1).index) (.slice rla16_2 ((liveV ((placeV b x.x x.n x.m).1)).length) rlc16_2) (.slice rda16_2 (((placeV b x.x x.n x.m).1).done.length) rdc16_2) (((placeV b x.x x.n x.m).1).modes)) (by first | rfl | (simp only [spl]; rfl)) ?_
         refine wN ?_
         refine bN (tN (wKK hK13 ?_))
         refine wReg ?_
         iterate 2 refine p_goes_w rfl ?_
         refine wI 34 rfl (IntWalk.i64_in _ (by omega)) ?_
         refine p_goes_w rfl ?_
         refine wN ?_
         refine tN ?_
         intro aa ww nn dd hs H
         refine ⟨⟨i + 1, ((placeV b x.x x.n x.m).1), la12_7, lc12_7, da12_7, dc12_7, rla16_2, rlc16_2, rda16_2, rdc16_2, (by omega), (by omega), (Lib.hid (place_toR hI.out (by omega) _ _).2), (by have h := place_ix (b := b) (x := x.x) hbi.1 x.n x.m; omega), nn, dd, (sat_sub ⟨rfl, rfl, rfl, rfl, rfl, rfl, rfl, rfl, rfl, trivial⟩ hs), (hp_sel [8, 9, 4, 5, 1, 2, 14, 15, 16] H (by decide) rfl)⟩, ?_⟩
         have m9 := hs 9 _ rfl
         simp only [mu1_9, m9, intOf]
         omega
       · skip
         have y8o : (((placeV b x.x x.n x.m).2.2) != 0) = true := eqq_f y8
         intro aa ww nn dd hs H
         have hpt := place_told b x.x x.n x.m
         have hzc : (placeV b x.x x.n x.m).2.1 = zeroCh := (hpt.1 (by simpa using y8)).2
         have hchi : -9223372036854775808 ≤ (placeV b x.x x.n x.m).2.1.index ∧ (placeV b x.x x.n x.m).2.1.index ≤ 9223372036854775807 := by rw [hzc]; decide
         have hzd : decide ((placeV b x.x x.n x.m).2.1 = (⟨0, (⟨0, 0, 0, 0, 0, 0, 0, 0⟩ : CallV), 0, 0⟩ : ChgV)) = true := decide_eq_true hzc
         refine wIn nn dd hs H ?_
         refine wReg ?_
         refine wLr rfl tyhoistwayref09_Book 6 rfl (rbL b.conf (b.room != 0) b.index (.slice ra ((liveV b).length) rc) (.slice sa b.done.length sc) b.modes) rfl rfl ?_
         refine wLr rfl tyapi_Change 3 rfl (chL ((placeV b x.x x.n x.m).2.1)) rfl rfl ?_
         refine wC (l := [.agg (rbA b.conf (b.room != 0) b.index (.slice ra ((liveV b).length) rc) (.slice sa b.done.length sc) b.modes), .agg (chA ((placeV b x.x x.n x.m).2.1))]) Try.func28 rfl (by kernel_rfl) (fun wc H => applyT b ra rc sa sc ((placeV b x.x x.n x.m).2.1) wc (hp_held H (by (repeat (first | exact List.Mem.head _ | apply List.Mem.tail)))) (hp_held H (by (repeat (first | exact List.Mem.head _ | apply List.Mem.tail)))) hI.out (by omega) hchi) rfl rfl rfl rfl ?_
         intro wc H
         rintro er wd ⟨rla16_2, rlc16_2, rda16_2, rdc16_2, rfl, hg⟩
         have H2 := hp_gotB H hg.2.2.2.2 hg.1 hg.2.1 (by decide) (by decide) hg.2.2.1 hg.2.2.2.1 (List.forall_mem_cons.2 ⟨(by (repeat (first | exact List.Mem.head _ | apply List.Mem.tail))), List.forall_mem_cons.2 ⟨(by (repeat (first | exact List.Mem.head _ | apply List.Mem.tail))), fun _ h => by cases h⟩⟩)
         refine ⟨_, rfl, wkAt H2 ?_⟩
         clear H H2
         iterate 3 refine p_goes_w rfl ?_
         refine wAl rfl rfl tyhoistwayref09_Book fun b14 => ?_
         refine wSr rfl tyhoistwayref09_Book 0 rfl rfl rfl rfl (rbL (((applyV b ((placeV b x.x x.n x.m).2.1)).1).conf) (((applyV b ((placeV b x.x x.n x.m).2.1)).1).room != 0) (((applyV b ((placeV b x.x x.n x.m).2.1)).1).index) (.slice rla16_2 ((liveV ((applyV b ((placeV b x.x x.n x.m).2.1)).1)).length) rlc16_2) (.slice rda16_2 (((applyV b ((placeV b x.x x.n x.m).2.1)).1).done.length) rdc16_2) (((applyV b ((placeV b x.x x.n x.m).2.1)).1).modes)) (by first | rfl | (simp only [spl]; rfl)) ?_
         refine p_goes_w rfl ?_
         refine wN ?_
         refine tN (wKK hK26 ?_)
         refine wSeqK fun KK31 hK31 => ?_
         refine wSeqK fun KK32 hK32 => ?_
         refine wReg ?_
         iterate 2 refine p_goes_w rfl ?_
         refine wB 83 rfl y8 ?_
         iterate 13 refine p_goes_w rfl ?_
         refine wB 96 rfl y8o ?_
         refine p_goes_w rfl ?_
         refine wLr rfl tyapi_Change 6 rfl (chL ((placeV b x.x x.n x.m).2.1)) rfl rfl ?_
         refine wE (.agg (chA zeroCh)) rfl rfl rfl (fun aa ww hs _ => by simp only [execOp]; go_simp <;> first | rfl | omega) ?_
         refine wE (.bool (!(decide (((placeV b x.x x.n x.m).2.1) = (⟨0, (⟨0, 0, 0, 0, 0, 0, 0, 0⟩ : CallV), 0, 0⟩ : ChgV))))) rfl rfl rfl (fun aa wc hs H => exec_neq rfl (hs _ _ rfl) (hs _ _ rfl) (by kernel_rfl) (run_eq_chg ((placeV b x.x x.n x.m).2.1) (⟨0, (⟨0, 0, 0, 0, 0, 0, 0, 0⟩ : CallV), 0, 0⟩ : ChgV) wc)) ?_
         refine wB 100 rfl (by rw [hzd] <;> rfl) ?_
         iterate 6 refine p_goes_w rfl ?_
         refine wN ?_
         refine tN (wKK hK32 ?_)
         refine wCf rfl ?_
         refine wSk ?_
         refine tN (wKK hK31 ?_)
         refine wSeqK fun KK33 hK33 => ?_
         refine wReg ?_
         iterate 2 refine p_goes_w rfl ?_
         refine wB 108 rfl y8 ?_
         refine wN ?_
         refine tN (wKK hK33 ?_)
         refine wCf rfl ?_
         refine wSk ?_
         refine bN (tN (wKK hK13 ?_))
         refine wReg ?_
         iterate 2 refine p_goes_w rfl ?_
         refine wI 34 rfl (IntWalk.i64_in _ (by omega)) ?_
         refine p_goes_w rfl ?_
         refine wN ?_
         refine tN ?_
         intro aa ww nn dd hs H
         refine ⟨⟨i + 1, b, la, lc, da, dc, ra, rc, sa, sc, (by omega), (by omega), hI, (by omega), nn, dd, (sat_sub ⟨rfl, rfl, rfl, rfl, rfl, rfl, rfl, rfl, rfl, trivial⟩ hs), (hp_sel [8, 9, 10, 11, 12, 13, 14, 15, 16] H (by decide) rfl)⟩, ?_⟩
         have m9 := hs 9 _ rfl
         simp only [mu1_9, m9, intOf]
         omega
   · skip
     refine wEx ?_
     refine tX (tX (bX (tN (wKK hK9 ?_))))
     refine wSeqK fun KK34 hK34 => ?_
     refine wReg ?_
     refine wLr rfl tybook_Book 0 rfl (bkL b.conf b.index b.room (.slice la b.live.length lc) (.slice da b.done.length dc) b.modes) rfl rfl ?_
     refine wLr rfl tyhoistwayref09_Book 1 rfl (rbL b.conf (b.room != 0) b.index (.slice ra ((liveV b).length) rc) (.slice sa b.done.length sc) b.modes) rfl rfl ?_
     refine wQ (l := [.agg (bkA b.conf b.index b.room (.slice la b.live.length lc) (.slice da b.done.length dc) b.modes), .agg (rbA b.conf (b.room != 0) b.index (.slice ra ((liveV b).length) rc) (.slice sa b.done.length sc) b.modes)]) Try.func24 rfl (by kernel_rfl) (.bool true) (fun wc H => alikeT b la lc da dc ra rc sa sc wc (hp_held H (by (repeat (first | exact List.Mem.head _ | apply List.Mem.tail)))) (hp_held H (by (repeat (first | exact List.Mem.head _ | apply List.Mem.tail)))) (hp_held H (by (repeat (first | exact List.Mem.head _ | apply List.Mem.tail)))) (hp_held H (by (repeat (first | exact List.Mem.head _ | apply List.Mem.tail)))) hI) rfl rfl rfl rfl ?_
     refine p_goes_w rfl ?_
     refine wN ?_
     refine tN (wKK hK34 ?_)
     refine wRet ?_
     exact wR1 rfl rfl (fun ww H => ⟨rfl, H.out.off⟩)
end Go.Proofs.Ytnanihffljpdbaa.Bk
