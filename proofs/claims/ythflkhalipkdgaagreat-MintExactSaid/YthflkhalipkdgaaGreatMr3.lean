/- Layer 35: numbers, nil mints. -/
import Derived.Test.YthflkhalipkdgaaGreatProg
import Derived.Below
import Derived.WalkKit
import Derived.KernelRfl
import Derived.RowKit3
import Derived.Deep.LoopGhost
import Derived.Deep.QuietTactic
import Derived.BigQuiet
import Derived.WideLaws
import Derived.Deep.DeepCutAuto
import Derived.Deep.CutBlock
import Derived.Lib.Hide
import Derived.Laws.BitsLemmas
import Derived.Laws.Bits64
import Derived.Laws.BitsAllLaws
import Derived.IntWalk
import Derived.Outline
import Derived.WalkSpells
import Derived.Test.YthflkhalipkdgaaGreatGA
import Derived.Test.YthflkhalipkdgaaGreatMr2
import Derived.Test.YthflkhalipkdgaaGreatArr
namespace Go.Proofs.YthflkhalipkdgaaGreat.Mn
set_option maxRecDepth 20000
open Go.RowKit Go.Proofs.YthflkhalipkdgaaGreat.Mem Go.Proofs.YthflkhalipkdgaaGreat.Reg Go.Proofs.YthflkhalipkdgaaGreat.Wk Go.Proofs.YthflkhalipkdgaaGreat.Si Go.Proofs.YthflkhalipkdgaaGreat.Ca Go.Proofs.YthflkhalipkdgaaGreat.Ms Go.Proofs.YthflkhalipkdgaaGreat.Fr Go.Proofs.YthflkhalipkdgaaGreat.Bld
set_option linter.unusedVariables false
set_option linter.unusedSimpArgs false

theorem exec_pnilnil {P : Program} {o : Oper} {act : Act} {w : World} {p q : Operand} {t yt e : TypeId} (ho : o.op = .binOp .eql t p q yt) (hp : act.eval p = .pointer none) (hq : act.eval q = .pointer none) (hu : P.underlying t = some (.pointer e)) : (execOp act.eval o).run P w = .ok (.value (.bool true)) w := by
  have h1 : ∀ d, (Op.equalIn (d + 1) t (.pointer none) (.pointer none)).run P w = .ok true w := fun d => by simp [Op.equalIn, run_underlying hu]
  have h2 : (binOp .eql t (.pointer none) (.pointer none)).run P w = .ok (.bool true) w := by
    simp only [binOp]
    simp [Op.equal, Op.maxDepth, h1 9999]
  unfold execOp
  simp only [ho, hp, hq]
  rw [Sem.run_bind, Sem.run_bind]
  simp [eqGuard, h2]
theorem eventsRI (m s : Nat) (c : Cfg) (n : Int) (w : World) (hm : Blk w m #[.int .u64 s] 63) (hsl : s < 18446744073709551616) (hck : (checkV c != 0) = false) (hnn : 0 ≤ n ∧ n ≤ 16384) (hsec : 0 ≤ c.secret ∧ c.secret ≤ 4294967295) : Calls Tryz.prog 17 #[.pointer (some ⟨m, 0, none⟩), .agg (cA c), .int .i64 n] w fun e w' => ∃ a' c', e = .returned (.slice a' (evAll s c n).length c') ∧ (rS a' c' 3 ((evAll s c n).map evRow)).holds w' ∧ (∀ q ∈ (rS a' c' 3 ((evAll s c n).map evRow)).foot, w.heap.size ≤ q) ∧ Off [m] w w' := by
  obtain ⟨k, rfl⟩ := Int.eq_ofNat_of_zero_le hnn.1
  exact eventsRC m s c k w hm hsl hck (by omega) hsec
set_option maxRecDepth 20000 in
set_option maxHeartbeats 16000000 in
theorem run_eq_arr (X : List Int) (w : World) : (Op.equalIn 10000 37 (.agg #[.int .i64 (X.getD 0 0), .int .i64 (X.getD 1 0), .int .i64 (X.getD 2 0), .int .i64 (X.getD 3 0), .int .i64 (X.getD 4 0), .int .i64 (X.getD 5 0), .int .i64 (X.getD 6 0), .int .i64 (X.getD 7 0), .int .i64 (X.getD 8 0), .int .i64 (X.getD 9 0), .int .i64 (X.getD 10 0), .int .i64 (X.getD 11 0), .int .i64 (X.getD 12 0), .int .i64 (X.getD 13 0), .int .i64 (X.getD 14 0), .int .i64 (X.getD 15 0)]) (.agg #[.int .i64 (X.getD 0 0), .int .i64 (X.getD 1 0), .int .i64 (X.getD 2 0), .int .i64 (X.getD 3 0), .int .i64 (X.getD 4 0), .int .i64 (X.getD 5 0), .int .i64 (X.getD 6 0), .int .i64 (X.getD 7 0), .int .i64 (X.getD 8 0), .int .i64 (X.getD 9 0), .int .i64 (X.getD 10 0), .int .i64 (X.getD 11 0), .int .i64 (X.getD 12 0), .int .i64 (X.getD 13 0), .int .i64 (X.getD 14 0), .int .i64 (X.getD 15 0)])).run Tryz.prog w = .ok true w := by
  have h := run_equalIn_ints (P := Tryz.prog) w 9998 37 3 16 .i64 Tryz.underlying37 Tryz.underlying3 (fun w => by go_simp) [X.getD 0 0, X.getD 1 0, X.getD 2 0, X.getD 3 0, X.getD 4 0, X.getD 5 0, X.getD 6 0, X.getD 7 0, X.getD 8 0, X.getD 9 0, X.getD 10 0, X.getD 11 0, X.getD 12 0, X.getD 13 0, X.getD 14 0, X.getD 15 0] [X.getD 0 0, X.getD 1 0, X.getD 2 0, X.getD 3 0, X.getD 4 0, X.getD 5 0, X.getD 6 0, X.getD 7 0, X.getD 8 0, X.getD 9 0, X.getD 10 0, X.getD 11 0, X.getD 12 0, X.getD 13 0, X.getD 14 0, X.getD 15 0] rfl rfl
  rw [decide_eq_true rfl] at h
  exact h
def tab_numbersE : Wk.Tab := [(40, 1, 1), (40, 2, 2), (40, 3, 3), (40, 4, 4), (41, 0, 0), (41, 1, 1), (43, 0, 0), (43, 1, 1), (43, 2, 2), (43, 3, 3), (43, 4, 4), (43, 5, 5), (43, 6, 6), (43, 7, 14), (43, 8, 15), (43, 9, 16), (43, 10, 17)]
theorem p_numbersE {ops : Array Oper} {rest : List Oper} {o : Oper} {w0 : World} {Q : Exit → Act → World → Prop} {S : List Nat} {R : List Res} {K K' : Wk.Env} {N : Nat} (h : Wk.stp tab_numbersE N ops K o = some K') (n : Wk.Wk N S w0 K' R (wpList Tryz.prog ops Q rest)) : Wk.Wk N S w0 K R (wpList Tryz.prog ops Q (o :: rest)) := Wk.wP (T := tab_numbersE) (by kernel_rfl) h n
set_option maxHeartbeats 16000000 in
set_option maxRecDepth 20000 in
theorem numbersE (q : ReqV) (w : World) (hq : okReq q) : Calls Tryz.prog 12 #[.agg #[.int .i64 q.kind, .int .i64 q.seq, .int .i64 q.who, .int .i64 q.role, .int .u32 q.token, .int .u64 q.key, .int .i64 q.call.id, .int .i64 q.call.kind, .int .i64 q.call.src, .int .i64 q.call.dst, .int .i64 q.call.car, .int .i64 q.call.state, .int .i64 q.call.owner, .int .i64 q.call.born, .int .i64 q.id, .int .i64 q.car, .int .i64 q.mode, .int .i64 q.filter.kind, .int .i64 q.filter.n]] w fun e w' => e = .returned (.agg #[.int .i64 q.kind, .int .i64 q.seq, .int .i64 q.who, .int .i64 q.role, .int .i64 q.token, .int .i64 (q.key / 4294967296), .int .i64 (q.key % 4294967296), .int .i64 q.call.kind, .int .i64 q.call.src, .int .i64 q.call.dst, .int .i64 q.call.car, .int .i64 q.id, .int .i64 q.car, .int .i64 q.mode, .int .i64 q.filter.kind, .int .i64 q.filter.n]) ∧ Off [] w w' := by
 have H := Lib.hid (Hp.start [] w)
 have hq1 := hq.1
 have hq2 := hq.2
 have e1 : IntKind.i64.wrap q.token = q.token := IntWalk.i64_in _ (by omega)
 have e2 : IntKind.u64.wrap (q.key.tdiv 4294967296) = q.key / 4294967296 := by rw [Int.tdiv_eq_ediv_of_nonneg hq.2.1]; exact IntWalk.u64_in _ (by omega)
 have e3 : IntKind.i64.wrap (q.key / 4294967296) = q.key / 4294967296 := IntWalk.i64_in _ (by omega)
 have e4 : q.key.tmod 4294967296 = q.key % 4294967296 := Int.tmod_eq_emod_of_nonneg hq.2.1
 have e5 : IntKind.i64.wrap (q.key % 4294967296) = q.key % 4294967296 := IntWalk.i64_in _ (by omega)
 refine wStart (args := [.agg #[.int .i64 q.kind, .int .i64 q.seq, .int .i64 q.who, .int .i64 q.role, .int .u32 q.token, .int .u64 q.key, .int .i64 q.call.id, .int .i64 q.call.kind, .int .i64 q.call.src, .int .i64 q.call.dst, .int .i64 q.call.car, .int .i64 q.call.state, .int .i64 q.call.owner, .int .i64 q.call.born, .int .i64 q.id, .int .i64 q.car, .int .i64 q.mode, .int .i64 q.filter.kind, .int .i64 q.filter.n]]) Tryz.func12 rfl rfl rfl H ?_
 clear H
 show Wk 46 _ _ [(0, .agg #[.int .i64 q.kind, .int .i64 q.seq, .int .i64 q.who, .int .i64 q.role, .int .u32 q.token, .int .u64 q.key, .int .i64 q.call.id, .int .i64 q.call.kind, .int .i64 q.call.src, .int .i64 q.call.dst, .int .i64 q.call.car, .int .i64 q.call.state, .int .i64 q.call.owner, .int .i64 q.call.born, .int .i64 q.id, .int .i64 q.car, .int .i64 q.mode, .int .i64 q.filter.kind, .int .i64 q.filter.n])] _ _
 refine wSeqK fun KK1 hK1 => ?_
 refine wReg ?_
 refine wBx rfl rfl rfl fun b1 => ?_
 refine wAl rfl rfl tyhoistwayref14_Request fun b2 => ?_
 refine wN ?_
 refine tN (wKK hK1 ?_)
 refine wSeqK fun KK2 hK2 => ?_
 refine wReg ?_
 refine p_numbersE rfl ?_
 refine wLr rfl tyapi_Call 1 rfl [.int .i64 q.call.id, .int .i64 q.call.kind, .int .i64 q.call.src, .int .i64 q.call.dst, .int .i64 q.call.car, .int .i64 q.call.state, .int .i64 q.call.owner, .int .i64 q.call.born] rfl rfl ?_
 refine wAl rfl rfl tyapi_Call fun b3 => ?_
 refine wSr rfl tyapi_Call 0 rfl rfl rfl rfl [.int .i64 q.call.id, .int .i64 q.call.kind, .int .i64 q.call.src, .int .i64 q.call.dst, .int .i64 q.call.car, .int .i64 q.call.state, .int .i64 q.call.owner, .int .i64 q.call.born] (by first | rfl | (simp only [spl]; rfl)) ?_
 refine wN ?_
 refine tN (wKK hK2 ?_)
 refine wSeqK fun KK3 hK3 => ?_
 refine wReg ?_
 refine p_numbersE rfl ?_
 refine wLd rfl tyint 2 rfl rfl ?_
 refine p_numbersE rfl ?_
 refine wLd rfl tyint 2 rfl rfl ?_
 refine p_numbersE rfl ?_
 refine wLd rfl tyint 2 rfl rfl ?_
 refine p_numbersE rfl ?_
 refine wLd rfl tyint 2 rfl rfl ?_
 refine p_numbersE rfl ?_
 refine wLd rfl tyuint32 2 rfl rfl ?_
 refine wE (.int .i64 q.token) rfl rfl rfl (fun aa ww hs _ => by have e15 := hs 15 _ rfl; have g15 := gt_of e15; simp only [execOp]; go_simp <;> first | rfl | omega) ?_
 refine p_numbersE rfl ?_
 refine wLd rfl tyuint64 2 rfl rfl ?_
 refine wE (.int .u64 (q.key / 4294967296)) rfl rfl rfl (fun aa ww hs _ => by have e18 := hs 18 _ rfl; have g18 := gt_of e18; simp only [execOp]; go_simp <;> first | rfl | omega) ?_
 refine wE (.int .i64 (q.key / 4294967296)) rfl rfl rfl (fun aa ww hs _ => by have e19 := hs 19 _ rfl; have g19 := gt_of e19; simp only [execOp]; go_simp <;> first | rfl | omega) ?_
 refine p_numbersE rfl ?_
 refine wLd rfl tyuint64 2 rfl rfl ?_
 refine wE (.int .u64 (q.key % 4294967296)) rfl rfl rfl (fun aa ww hs _ => by have e22 := hs 22 _ rfl; have g22 := gt_of e22; simp only [execOp]; go_simp <;> first | rfl | omega) ?_
 refine wE (.int .i64 (q.key % 4294967296)) rfl rfl rfl (fun aa ww hs _ => by have e23 := hs 23 _ rfl; have g23 := gt_of e23; simp only [execOp]; go_simp <;> first | rfl | omega) ?_
 refine p_numbersE rfl ?_
 refine wLd rfl tyint 0 rfl rfl ?_
 refine p_numbersE rfl ?_
 refine wLd rfl tyint 0 rfl rfl ?_
 refine p_numbersE rfl ?_
 refine wLd rfl tyint 0 rfl rfl ?_
 refine p_numbersE rfl ?_
 refine wLd rfl tyint 0 rfl rfl ?_
 refine p_numbersE rfl ?_
 refine wLd rfl tyint 2 rfl rfl ?_
 refine p_numbersE rfl ?_
 refine wLd rfl tyint 2 rfl rfl ?_
 refine p_numbersE rfl ?_
 refine wLd rfl tyint 2 rfl rfl ?_
 iterate 2 refine p_numbersE rfl ?_
 refine wLd rfl tyint 2 rfl rfl ?_
 iterate 2 refine p_numbersE rfl ?_
 refine wLd rfl tyint 2 rfl rfl ?_
 refine wE (.agg #[.int .i64 q.kind, .int .i64 q.seq, .int .i64 q.who, .int .i64 q.role, .int .i64 q.token, .int .i64 (q.key / 4294967296), .int .i64 (q.key % 4294967296), .int .i64 q.call.kind, .int .i64 q.call.src, .int .i64 q.call.dst, .int .i64 q.call.car, .int .i64 q.id, .int .i64 q.car, .int .i64 q.mode, .int .i64 q.filter.kind, .int .i64 q.filter.n]) rfl rfl rfl (fun aa ww hs _ => by have e7 := hs 7 _ rfl; have g7 := gt_of e7; have e9 := hs 9 _ rfl; have g9 := gt_of e9; have e11 := hs 11 _ rfl; have g11 := gt_of e11; have e13 := hs 13 _ rfl; have g13 := gt_of e13; have e16 := hs 16 _ rfl; have g16 := gt_of e16; have e20 := hs 20 _ rfl; have g20 := gt_of e20; have e24 := hs 24 _ rfl; have g24 := gt_of e24; have e26 := hs 26 _ rfl; have g26 := gt_of e26; have e28 := hs 28 _ rfl; have g28 := gt_of e28; have e30 := hs 30 _ rfl; have g30 := gt_of e30; have e32 := hs 32 _ rfl; have g32 := gt_of e32; have e34 := hs 34 _ rfl; have g34 := gt_of e34; have e36 := hs 36 _ rfl; have g36 := gt_of e36; have e38 := hs 38 _ rfl; have g38 := gt_of e38; have e41 := hs 41 _ rfl; have g41 := gt_of e41; have e44 := hs 44 _ rfl; have g44 := gt_of e44; simp only [execOp]; go_simp <;> first | rfl | omega) ?_
 refine wSr rfl tyhoistwayref14_Request 1 rfl rfl rfl rfl [.int .i64 q.kind, .int .i64 q.seq, .int .i64 q.who, .int .i64 q.role, .int .i64 q.token, .int .i64 (q.key / 4294967296), .int .i64 (q.key % 4294967296), .int .i64 q.call.kind, .int .i64 q.call.src, .int .i64 q.call.dst, .int .i64 q.call.car, .int .i64 q.id, .int .i64 q.car, .int .i64 q.mode, .int .i64 q.filter.kind, .int .i64 q.filter.n] (by first | rfl | (simp only [spl]; rfl)) ?_
 refine wN ?_
 refine tN (wKK hK3 ?_)
 refine wRet ?_
 exact wRc tyhoistwayref14_Request rfl rfl 1 rfl rfl (fun ww H => ⟨rfl, H.out.off⟩)
theorem numbersC (q : ReqV) (w : World) (hq : okReq q) : Calls Tryz.prog 12 #[.agg #[.int .i64 q.kind, .int .i64 q.seq, .int .i64 q.who, .int .i64 q.role, .int .u32 q.token, .int .u64 q.key, .int .i64 q.call.id, .int .i64 q.call.kind, .int .i64 q.call.src, .int .i64 q.call.dst, .int .i64 q.call.car, .int .i64 q.call.state, .int .i64 q.call.owner, .int .i64 q.call.born, .int .i64 q.id, .int .i64 q.car, .int .i64 q.mode, .int .i64 q.filter.kind, .int .i64 q.filter.n]] w fun e w' => e = .returned (.agg #[.int .i64 ((numsQ q).getD 0 0), .int .i64 ((numsQ q).getD 1 0), .int .i64 ((numsQ q).getD 2 0), .int .i64 ((numsQ q).getD 3 0), .int .i64 ((numsQ q).getD 4 0), .int .i64 ((numsQ q).getD 5 0), .int .i64 ((numsQ q).getD 6 0), .int .i64 ((numsQ q).getD 7 0), .int .i64 ((numsQ q).getD 8 0), .int .i64 ((numsQ q).getD 9 0), .int .i64 ((numsQ q).getD 10 0), .int .i64 ((numsQ q).getD 11 0), .int .i64 ((numsQ q).getD 12 0), .int .i64 ((numsQ q).getD 13 0), .int .i64 ((numsQ q).getD 14 0), .int .i64 ((numsQ q).getD 15 0)]) ∧ Off [] w w' := numbersE q w hq
def tab_nextNil : Wk.Tab := []
theorem p_nextNil {ops : Array Oper} {rest : List Oper} {o : Oper} {w0 : World} {Q : Exit → Act → World → Prop} {S : List Nat} {R : List Res} {K K' : Wk.Env} {N : Nat} (h : Wk.stp tab_nextNil N ops K o = some K') (n : Wk.Wk N S w0 K' R (wpList Tryz.prog ops Q rest)) : Wk.Wk N S w0 K R (wpList Tryz.prog ops Q (o :: rest)) := Wk.wP (T := tab_nextNil) (by kernel_rfl) h n
set_option maxHeartbeats 16000000 in
set_option maxRecDepth 20000 in
theorem nextNil  (w : World) : Calls Tryz.prog 8 #[.pointer none] w fun e w' => e = .returned (.int .u64 0) ∧ Off [] w w' := by
 have H := Lib.hid (Hp.start [] w)
 refine wStart (args := [.pointer none]) Tryz.func8 rfl rfl rfl H ?_
 clear H
 show Wk 27 _ _ [(0, .pointer none)] _ _
 refine wSeqK fun KK1 hK1 => ?_
 refine wReg ?_
 refine p_nextNil rfl ?_
 refine wN ?_
 refine tN (wKK hK1 ?_)
 refine wSeqK fun KK2 hK2 => ?_
 refine wSeqK fun KK3 hK3 => ?_
 refine wReg ?_
 refine p_nextNil rfl ?_
 refine wE (.bool true) rfl rfl rfl (fun aa ww hs _ => exec_pnilnil rfl (hs _ _ rfl) (rfl) Tryz.underlying28) ?_
 refine wN ?_
 refine tN (wKK hK3 ?_)
 refine wCt rfl ?_
 refine wSeqK fun KK4 hK4 => ?_
 refine wReg ?_
 refine p_nextNil rfl ?_
 refine wN ?_
 refine tN (wKK hK4 ?_)
 refine wRet ?_
 refine tR ?_
 exact wR1 rfl rfl (fun ww H => ⟨rfl, H.out.off⟩)
def tab_belowNil : Wk.Tab := []
theorem p_belowNil {ops : Array Oper} {rest : List Oper} {o : Oper} {w0 : World} {Q : Exit → Act → World → Prop} {S : List Nat} {R : List Res} {K K' : Wk.Env} {N : Nat} (h : Wk.stp tab_belowNil N ops K o = some K') (n : Wk.Wk N S w0 K' R (wpList Tryz.prog ops Q rest)) : Wk.Wk N S w0 K R (wpList Tryz.prog ops Q (o :: rest)) := Wk.wP (T := tab_belowNil) (by kernel_rfl) h n
set_option maxHeartbeats 16000000 in
set_option maxRecDepth 20000 in
theorem belowNil (n : Int) (w : World) : Calls Tryz.prog 10 #[.pointer none, .int .i64 n] w fun e w' => e = .returned (.int .i64 0) ∧ Off [] w w' := by
 have H := Lib.hid (Hp.start [] w)
 refine wStart (args := [.pointer none, .int .i64 n]) Tryz.func10 rfl rfl rfl H ?_
 clear H
 show Wk 21 _ _ [(0, .pointer none), (1, .int .i64 n)] _ _
 refine wSeqK fun KK1 hK1 => ?_
 refine wReg ?_
 refine p_belowNil rfl ?_
 refine wN ?_
 refine tN (wKK hK1 ?_)
 refine wSeqK fun KK2 hK2 => ?_
 refine wSeqK fun KK3 hK3 => ?_
 refine wReg ?_
 refine p_belowNil rfl ?_
 refine wE (.bool true) rfl rfl rfl (fun aa ww hs _ => exec_pnilnil rfl (hs _ _ rfl) (rfl) Tryz.underlying28) ?_
 iterate 8 refine p_belowNil rfl ?_
 refine wN ?_
 refine tN (wKK hK3 ?_)
 refine wCt rfl ?_
 refine wSeqK fun KK4 hK4 => ?_
 refine wReg ?_
 refine p_belowNil rfl ?_
 refine wN ?_
 refine tN (wKK hK4 ?_)
 refine wRet ?_
 refine tR ?_
 exact wR1 rfl rfl (fun ww H => ⟨rfl, H.out.off⟩)
def tab_reqNil : Wk.Tab := []
theorem p_reqNil {ops : Array Oper} {rest : List Oper} {o : Oper} {w0 : World} {Q : Exit → Act → World → Prop} {S : List Nat} {R : List Res} {K K' : Wk.Env} {N : Nat} (h : Wk.stp tab_reqNil N ops K o = some K') (n : Wk.Wk N S w0 K' R (wpList Tryz.prog ops Q rest)) : Wk.Wk N S w0 K R (wpList Tryz.prog ops Q (o :: rest)) := Wk.wP (T := tab_reqNil) (by kernel_rfl) h n
set_option maxHeartbeats 16000000 in
set_option maxRecDepth 20000 in
theorem reqNil (c : Cfg) (now : Int) (w : World) : Calls Tryz.prog 13 #[.pointer none, .agg (cA c), .int .i64 now] w fun e w' => e = .returned (.agg #[.int .i64 0, .int .i64 0, .int .i64 0, .int .i64 0, .int .u32 0, .int .u64 0, .int .i64 0, .int .i64 0, .int .i64 0, .int .i64 0, .int .i64 0, .int .i64 0, .int .i64 0, .int .i64 0, .int .i64 0, .int .i64 0, .int .i64 0, .int .i64 0, .int .i64 0]) ∧ Off [] w w' := by
 have H := Lib.hid (Hp.start [] w)
 refine wStart (args := [.pointer none, .agg (cA c), .int .i64 now]) Tryz.func13 rfl rfl rfl H ?_
 clear H
 show Wk 77 _ _ [(0, .pointer none), (1, .agg (cA c)), (2, .int .i64 now)] _ _
 refine wSeqK fun KK1 hK1 => ?_
 refine wReg ?_
 refine wBx rfl rfl rfl fun b4 => ?_
 refine wAl rfl rfl tymsg_Request fun b6 => ?_
 refine wN ?_
 refine tN (wKK hK1 ?_)
 refine wSeqK fun KK2 hK2 => ?_
 refine wSeqK fun KK3 hK3 => ?_
 refine wReg ?_
 refine p_reqNil rfl ?_
 refine wE (.bool true) rfl rfl rfl (fun aa ww hs _ => exec_pnilnil rfl (hs _ _ rfl) (rfl) Tryz.underlying28) ?_
 iterate 13 refine p_reqNil rfl ?_
 refine wN ?_
 refine tN (wKK hK3 ?_)
 refine wCt rfl ?_
 refine wSeqK fun KK4 hK4 => ?_
 refine wReg ?_
 refine wE (.agg #[.int .i64 0, .int .i64 0, .int .i64 0, .int .i64 0, .int .u32 0, .int .u64 0, .int .i64 0, .int .i64 0, .int .i64 0, .int .i64 0, .int .i64 0, .int .i64 0, .int .i64 0, .int .i64 0, .int .i64 0, .int .i64 0, .int .i64 0, .int .i64 0, .int .i64 0]) rfl rfl rfl (fun aa ww hs _ => by simp only [execOp]; go_simp <;> first | rfl | omega) ?_
 refine wSr rfl tymsg_Request 0 rfl rfl rfl rfl [.int .i64 0, .int .i64 0, .int .i64 0, .int .i64 0, .int .u32 0, .int .u64 0, .int .i64 0, .int .i64 0, .int .i64 0, .int .i64 0, .int .i64 0, .int .i64 0, .int .i64 0, .int .i64 0, .int .i64 0, .int .i64 0, .int .i64 0, .int .i64 0, .int .i64 0] (by first | rfl | (simp only [spl]; rfl)) ?_
 refine wN ?_
 refine tN (wKK hK4 ?_)
 refine wRet ?_
 refine tR ?_
 exact wRc tymsg_Request rfl rfl 0 rfl rfl (fun ww H => ⟨rfl, H.out.off⟩)
def tab_eventsNil : Wk.Tab := []
theorem p_eventsNil {ops : Array Oper} {rest : List Oper} {o : Oper} {w0 : World} {Q : Exit → Act → World → Prop} {S : List Nat} {R : List Res} {K K' : Wk.Env} {N : Nat} (h : Wk.stp tab_eventsNil N ops K o = some K') (n : Wk.Wk N S w0 K' R (wpList Tryz.prog ops Q rest)) : Wk.Wk N S w0 K R (wpList Tryz.prog ops Q (o :: rest)) := Wk.wP (T := tab_eventsNil) (by kernel_rfl) h n
set_option maxHeartbeats 16000000 in
set_option maxRecDepth 20000 in
theorem eventsNil (c : Cfg) (n : Int) (w : World) : Calls Tryz.prog 15 #[.pointer none, .agg (cA c), .int .i64 n] w fun e w' => e = .returned (.slice none 0 0) ∧ Off [] w w' := by
 have H := Lib.hid (Hp.start [] w)
 refine wStart (args := [.pointer none, .agg (cA c), .int .i64 n]) Tryz.func15 rfl rfl rfl H ?_
 clear H
 show Wk 47 _ _ [(0, .pointer none), (1, .agg (cA c)), (2, .int .i64 n)] _ _
 refine wSeqK fun KK1 hK1 => ?_
 refine wReg ?_
 refine wBx rfl rfl rfl fun b4 => ?_
 refine p_eventsNil rfl ?_
 refine wN ?_
 refine tN (wKK hK1 ?_)
 refine wSeqK fun KK2 hK2 => ?_
 refine wSeqK fun KK3 hK3 => ?_
 refine wReg ?_
 refine p_eventsNil rfl ?_
 refine wE (.bool true) rfl rfl rfl (fun aa ww hs _ => exec_pnilnil rfl (hs _ _ rfl) (rfl) Tryz.underlying28) ?_
 iterate 13 refine p_eventsNil rfl ?_
 refine wN ?_
 refine tN (wKK hK3 ?_)
 refine wCt rfl ?_
 refine wSeqK fun KK4 hK4 => ?_
 refine wReg ?_
 refine p_eventsNil rfl ?_
 refine wN ?_
 refine tN (wKK hK4 ?_)
 refine wRet ?_
 refine tR ?_
 exact wR1 rfl rfl (fun ww H => ⟨rfl, H.out.off⟩)
end Go.Proofs.YthflkhalipkdgaaGreat.Mn
