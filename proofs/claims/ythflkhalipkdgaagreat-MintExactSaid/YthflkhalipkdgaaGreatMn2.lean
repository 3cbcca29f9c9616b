/- Layer 35: mint: requests that are drawn. -/
import Derived.Test.YthflkhalipkdgaaGreatProg
import Derived.Below
import Derived.WalkKit
import Derived.KernelRfl
import Derived.RowKit3
import Derived.Deep.LoopGhost
import Derived.Deep.QuietTactic
import Derived.BigQuiet
import Derived.WideLaws
import Derived.Deep.DeepCutAuto
import Derived.Deep.CutBlock
import Derived.Lib.Hide
import Derived.Laws.BitsLemmas
import Derived.Laws.Bits64
import Derived.Laws.BitsAllLaws
import Derived.IntWalk
import Derived.Outline
import Derived.WalkSpells
import Derived.Test.YthflkhalipkdgaaGreatGA
import Derived.Test.YthflkhalipkdgaaGreatMn1
namespace Go.Proofs.YthflkhalipkdgaaGreat.Mn
set_option maxRecDepth 20000
open Go.RowKit Go.Proofs.YthflkhalipkdgaaGreat.Mem Go.Proofs.YthflkhalipkdgaaGreat.Reg Go.Proofs.YthflkhalipkdgaaGreat.Wk Go.Proofs.YthflkhalipkdgaaGreat.Si Go.Proofs.YthflkhalipkdgaaGreat.Ca Go.Proofs.YthflkhalipkdgaaGreat.Ms
set_option linter.unusedVariables false
set_option linter.unusedSimpArgs false

def keyV (now n : Int) : Int := now * 4294967296 + n
def drawCall (s : Nat) (c : Cfg) : CallV × Nat :=
  bif (1 + (belN s 4 : Int)) == 1 then (⟨0, (1 + (belN s 4 : Int)), 1 + belV (nextN s) (c.floors - 1), 0, 0, 0, 0, 0⟩, (nextN (nextN s)))
  else bif (1 + (belN s 4 : Int)) == 2 then (⟨0, (1 + (belN s 4 : Int)), 2 + belV (nextN s) (c.floors - 1), 0, 0, 0, 0, 0⟩, (nextN (nextN s)))
  else bif (1 + (belN s 4 : Int)) == 3 then (⟨0, (1 + (belN s 4 : Int)), 0, 1 + belV (nextN (nextN s)) c.floors, 1 + belV (nextN s) c.cars, 0, 0, 0⟩, (nextN (nextN (nextN s))))
  else (⟨0, (1 + (belN s 4 : Int)), 1 + belV (nextN s) c.floors, 1 + belV (nextN (nextN s)) c.floors, 0, 0, 0, 0⟩, (nextN (nextN (nextN s))))
def drawFilter (s : Nat) : FilterV × Nat := bif (belN s 4 : Int) != 0 then (⟨belN s 4, 1 + (belN (nextN s) 8 : Int)⟩, nextN (nextN s)) else (⟨belN s 4, 0⟩, nextN s)
def drawMode (s : Nat) : Int := bif (belN s 8 : Int) == 0 then 2 else 1
def kindsL : List Int := [4, 4, 4, 4, 5, 6, 7, 8, 9, 10]
theorem kinds_at {i : Nat} (h : i < 10) : (kindsL.map fun k => [Value.int .i64 k])[i]? = some [.int .i64 (kindsL.getD i 0)] := by
  rw [List.getElem?_map, List.getElem?_eq_getElem (by exact h), List.getD_eq_getElem?_getD, List.getElem?_eq_getElem (by exact h)]
  rfl
def kindOf (s : Nat) : Int := kindsL.getD (belN s 10) 0
def seqOf (s : Nat) : Int := ((belN (nextN s) 1000 : Nat) : Int)
def drawOk (s : Nat) (c : Cfg) (now : Int) : ReqV × Nat :=
  bif kindOf s == 4 then (⟨kindOf s, seqOf s, 0, 0, 0, keyV now (belN (nextN (nextN s)) 8), (drawCall (nextN (nextN (nextN s))) c).1, 0, 0, 0, ⟨0, 0⟩⟩, (drawCall (nextN (nextN (nextN s))) c).2)
  else bif kindOf s == 5 then (⟨kindOf s, seqOf s, 0, 0, 0, keyV now (belN (nextN (nextN s)) 8), ⟨0, 0, 0, 0, 0, 0, 0, 0⟩, 1 + (belN (nextN (nextN (nextN s))) 20 : Int), 0, 0, ⟨0, 0⟩⟩, nextN (nextN (nextN (nextN s))))
  else bif kindOf s == 6 then (⟨kindOf s, seqOf s, 0, 0, 0, 0, ⟨0, 0, 0, 0, 0, 0, 0, 0⟩, 1 + (belN (nextN (nextN s)) 20 : Int), 0, 0, ⟨0, 0⟩⟩, (nextN (nextN (nextN s))))
  else bif kindOf s == 8 then (⟨kindOf s, seqOf s, 0, 0, 0, 0, ⟨0, 0, 0, 0, 0, 0, 0, 0⟩, 0, 0, 0, (drawFilter (nextN (nextN s))).1⟩, (drawFilter (nextN (nextN s))).2)
  else bif kindOf s == 10 then (⟨kindOf s, seqOf s, 0, 0, 0, 0, ⟨0, 0, 0, 0, 0, 0, 0, 0⟩, 0, 1 + belV (nextN (nextN s)) c.cars, drawMode (nextN (nextN (nextN s))), ⟨0, 0⟩⟩, nextN (nextN (nextN (nextN s))))
  else (⟨kindOf s, seqOf s, 0, 0, 0, 0, ⟨0, 0, 0, 0, 0, 0, 0, 0⟩, 0, 0, 0, ⟨0, 0⟩⟩, (nextN (nextN s)))
def drawReq (s : Nat) (c : Cfg) (now : Int) : ReqV × Nat :=
  bif ((checkV c != 0) || decide (now < 0)) || decide (1073741824 < now) then (⟨0, 0, 0, 0, 0, 0, ⟨0, 0, 0, 0, 0, 0, 0, 0⟩, 0, 0, 0, ⟨0, 0⟩⟩, s) else drawOk s c now
theorem drawCall_lt {s : Nat} {c : Cfg} (h : s < 18446744073709551616) : (drawCall s c).2 < 18446744073709551616 := by
  have h1 := nextN_lt h
  have h2 := nextN_lt h1
  have h3 := nextN_lt h2
  unfold drawCall
  cases ((1 + (belN s 4 : Int)) == 1) <;> cases ((1 + (belN s 4 : Int)) == 2) <;> cases ((1 + (belN s 4 : Int)) == 3) <;> assumption
theorem drawFilter_lt {s : Nat} (h : s < 18446744073709551616) : (drawFilter s).2 < 18446744073709551616 := by
  have h1 := nextN_lt h
  have h2 := nextN_lt h1
  unfold drawFilter
  cases ((belN s 4 : Int) != 0) <;> assumption
theorem cfg_rng {c : Cfg} (h : (checkV c != 0) = false) : (2 ≤ c.floors ∧ c.floors ≤ 32) ∧ (1 ≤ c.cars ∧ c.cars ≤ 4) ∧ 1 ≤ c.lines ∧ c.lines ≤ 8 := by
  have h1 : cfgOk c = true := by
    cases e : cfgOk c with
    | true => rfl
    | false => rw [checkV_bad e] at h; cases h
  unfold cfgOk at h1
  simp only [Bool.and_eq_true, decide_eq_true_eq] at h1
  omega
theorem key_or (s n : Int) (h0 : 0 ≤ s) (h1 : s ≤ 4294967295) (h2 : 0 ≤ n) (h3 : n ≤ 4294967295) : bits BinOp.or IntKind.u64 (s * 4294967296) n = s * 4294967296 + n := by
  have h := key_join s.toNat n.toNat (by omega) (by omega)
  rwa [show ((s.toNat : Nat) : Int) = s by omega, show ((n.toNat : Nat) : Int) = n by omega] at h
theorem tyapi_Config : TyI Tryz.prog 25 18 true [.int .i64 0, .int .i64 0, .int .i64 0, .int .i64 0, .int .i64 0, .int .i64 0, .int .i64 0, .int .i64 0, .int .i64 0, .int .i64 0, .int .i64 0, .int .i64 0, .int .i64 0, .int .i64 0, .int .i64 0, .int .i64 0, .int .i64 0, .int .u32 0] := ⟨by kernel_rfl, by kernel_rfl, by kernel_rfl⟩
theorem tyapi_Call : TyI Tryz.prog 40 8 true [.int .i64 0, .int .i64 0, .int .i64 0, .int .i64 0, .int .i64 0, .int .i64 0, .int .i64 0, .int .i64 0] := ⟨by kernel_rfl, by kernel_rfl, by kernel_rfl⟩
theorem tymsg_Filter : TyI Tryz.prog 41 2 true [.int .i64 0, .int .i64 0] := ⟨by kernel_rfl, by kernel_rfl, by kernel_rfl⟩
theorem tymsg_Request : TyI Tryz.prog 43 19 true [.int .i64 0, .int .i64 0, .int .i64 0, .int .i64 0, .int .u32 0, .int .u64 0, .int .i64 0, .int .i64 0, .int .i64 0, .int .i64 0, .int .i64 0, .int .i64 0, .int .i64 0, .int .i64 0, .int .i64 0, .int .i64 0, .int .i64 0, .int .i64 0, .int .i64 0] := ⟨by kernel_rfl, by kernel_rfl, by kernel_rfl⟩
def tab_keyOk : Wk.Tab := []
theorem p_keyOk {ops : Array Oper} {rest : List Oper} {o : Oper} {w0 : World} {Q : Exit → Act → World → Prop} {S : List Nat} {R : List Res} {K K' : Wk.Env} {N : Nat} (h : Wk.stp tab_keyOk N ops K o = some K') (n : Wk.Wk N S w0 K' R (wpList Tryz.prog ops Q rest)) : Wk.Wk N S w0 K R (wpList Tryz.prog ops Q (o :: rest)) := Wk.wP (T := tab_keyOk) (by kernel_rfl) h n
set_option maxHeartbeats 16000000 in
set_option maxRecDepth 20000 in
theorem keyOk (s : Int) (n : Int) (w : World) (h0 : 0 ≤ s ∧ s ≤ 1073741824) (h2 : 0 ≤ n ∧ n ≤ 1000) : Calls Tryz.prog 39 #[.int .i64 s, .int .i64 n] w fun e w' => e = .returned (.int .u64 (keyV s n)) ∧ Off [] w w' := by
 have H := Lib.hid (Hp.start [] w)
 have hw1 : IntKind.u64.wrap s = s := IntWalk.u64_in _ (by omega)
 have hw2 : IntKind.u64.wrap n = n := IntWalk.u64_in _ (by omega)
 have hw3 : IntKind.u64.wrap (s * 4294967296) = s * 4294967296 := IntWalk.u64_in _ (by omega)
 have hor : bits BinOp.or IntKind.u64 (s * 4294967296) n = keyV s n := key_or s n (by omega) (by omega) (by omega) (by omega)
 have k1 : decide (s < 0) = false := decide_eq_false (by omega)
 have k2 : decide (n < 0) = false := decide_eq_false (by omega)
 have k3 : (max s n) / 4294967296 = 0 := by omega
 refine wStart (args := [.int .i64 s, .int .i64 n]) Tryz.func39 rfl rfl rfl H ?_
 clear H
 show Wk 24 _ _ [(0, .int .i64 s), (1, .int .i64 n)] _ _
 refine wSeqK fun KK1 hK1 => ?_
 refine wReg ?_
 refine p_keyOk rfl ?_
 refine wN ?_
 refine tN (wKK hK1 ?_)
 refine wSeqK fun KK2 hK2 => ?_
 refine wSeqK fun KK3 hK3 => ?_
 refine wReg ?_
 iterate 2 refine p_keyOk rfl ?_
 refine wB 6 rfl k1 ?_
 iterate 3 refine p_keyOk rfl ?_
 refine wB 9 rfl k2 ?_
 iterate 4 refine p_keyOk rfl ?_
 refine wE (.int .i64 (max s n)) rfl rfl rfl (fun aa ww hs _ => by have e12 := hs 12 _ rfl; have g12 := gt_of e12; have e13 := hs 13 _ rfl; have g13 := gt_of e13; simp only [execOp]; go_simp <;> first | rfl | omega) ?_
 refine wE (.int .i64 0) rfl rfl rfl (fun aa ww hs _ => by have e14 := hs 14 _ rfl; have g14 := gt_of e14; simp only [execOp]; go_simp <;> first | rfl | omega) ?_
 iterate 2 refine p_keyOk rfl ?_
 refine wN ?_
 refine tN (wKK hK3 ?_)
 refine wCf rfl ?_
 refine wSk ?_
 refine tN (wKK hK2 ?_)
 refine wSeqK fun KK4 hK4 => ?_
 refine wReg ?_
 refine p_keyOk rfl ?_
 refine wE (.int .u64 s) rfl rfl rfl (fun aa ww hs _ => by have e18 := hs 18 _ rfl; have g18 := gt_of e18; simp only [execOp]; go_simp <;> first | rfl | omega) ?_
 refine wE (.int .u64 (s * 4294967296)) rfl rfl rfl (fun aa ww hs _ => by have e19 := hs 19 _ rfl; have g19 := gt_of e19; simp only [execOp]; go_simp <;> first | rfl | omega) ?_
 refine p_keyOk rfl ?_
 refine wE (.int .u64 n) rfl rfl rfl (fun aa ww hs _ => by have e21 := hs 21 _ rfl; have g21 := gt_of e21; simp only [execOp]; go_simp <;> first | rfl | omega) ?_
 refine wE (.int .u64 (keyV s n)) rfl rfl rfl (fun aa ww hs _ => by have e20 := hs 20 _ rfl; have g20 := gt_of e20; have e22 := hs 22 _ rfl; have g22 := gt_of e22; simp only [execOp]; go_simp <;> first | rfl | omega) ?_
 refine p_keyOk rfl ?_
 refine wN ?_
 refine tN (wKK hK4 ?_)
 refine wRet ?_
 exact wR1 rfl rfl (fun ww H => ⟨rfl, H.out.off⟩)
def tab_keyDraw : Wk.Tab := []
theorem p_keyDraw {ops : Array Oper} {rest : List Oper} {o : Oper} {w0 : World} {Q : Exit → Act → World → Prop} {S : List Nat} {R : List Res} {K K' : Wk.Env} {N : Nat} (h : Wk.stp tab_keyDraw N ops K o = some K') (n : Wk.Wk N S w0 K' R (wpList Tryz.prog ops Q rest)) : Wk.Wk N S w0 K R (wpList Tryz.prog ops Q (o :: rest)) := Wk.wP (T := tab_keyDraw) (by kernel_rfl) h n
set_option maxHeartbeats 16000000 in
set_option maxRecDepth 20000 in
theorem keyDraw (m : Nat) (s : Nat) (now : Int) (w : World) (hm : Blk w m #[.int .u64 s] 61) (hsl : s < 18446744073709551616) (hn : 0 ≤ now ∧ now ≤ 1073741824) : Calls Tryz.prog 24 #[.pointer (some ⟨m, 0, none⟩), .int .i64 now] w fun e w' => e = .returned (.int .u64 (keyV now (belN s 8))) ∧ Blk w' m #[.int .u64 (nextN s)] 61 ∧ Off [m] w w' := by
 have H := Lib.hid (Hp.start [] w)
 have H := hp_one hm
 clear hm
 have hb8 := belN_lt s (n := 8) (by decide)
 refine wStart (args := [.pointer (some ⟨m, 0, none⟩), .int .i64 now]) Tryz.func24 rfl rfl rfl H ?_
 clear H
 show Wk 9 _ _ [(0, .pointer (some ⟨m, 0, none⟩)), (1, .int .i64 now)] _ _
 refine wSeqK fun KK1 hK1 => ?_
 refine wReg ?_
 refine p_keyDraw rfl ?_
 refine wN ?_
 refine tN (wKK hK1 ?_)
 refine wSeqK fun KK2 hK2 => ?_
 refine wReg ?_
 iterate 2 refine p_keyDraw rfl ?_
 refine wC (l := [.pointer (some ⟨m, 0, none⟩), .int .i64 8]) Tryz.func10 rfl (by kernel_rfl) (fun wc H => belowN m s 8 wc (H.out.blk 0 rfl) hsl (by decide)) rfl rfl rfl rfl ?_
 intro wc H
 rintro er wd ⟨rfl, hb, ho⟩
 have H2 := hp_turn H (i := 0) (cs' := [.int .u64 (nextN s)]) rfl hb ho
 refine ⟨_, rfl, wkAt H2 ?_⟩
 clear H H2
 refine wQ (l := [.int .i64 now, .int .i64 (belN s 8)]) Tryz.func39 rfl (by kernel_rfl) (.int .u64 (keyV now (belN s 8))) (fun wc H => keyOk now (belN s 8) wc (by omega) (by omega)) rfl rfl rfl rfl ?_
 refine p_keyDraw rfl ?_
 refine wN ?_
 refine tN (wKK hK2 ?_)
 refine wRet ?_
 exact wR1 rfl rfl (fun ww H => ⟨rfl, H.out.blk 0 rfl, H.out.off⟩)
def tab_callDraw : Wk.Tab := [(25, 0, 0), (25, 1, 1), (40, 1, 1), (40, 2, 2), (40, 3, 3), (40, 4, 4)]
theorem p_callDraw {ops : Array Oper} {rest : List Oper} {o : Oper} {w0 : World} {Q : Exit → Act → World → Prop} {S : List Nat} {R : List Res} {K K' : Wk.Env} {N : Nat} (h : Wk.stp tab_callDraw N ops K o = some K') (n : Wk.Wk N S w0 K' R (wpList Tryz.prog ops Q rest)) : Wk.Wk N S w0 K R (wpList Tryz.prog ops Q (o :: rest)) := Wk.wP (T := tab_callDraw) (by kernel_rfl) h n
set_option maxHeartbeats 16000000 in
set_option maxRecDepth 20000 in
theorem callDraw (m : Nat) (s : Nat) (c : Cfg) (w : World) (hm : Blk w m #[.int .u64 s] 61) (hsl : s < 18446744073709551616) (hck : (checkV c != 0) = false) : Calls Tryz.prog 25 #[.pointer (some ⟨m, 0, none⟩), .agg (cA c)] w fun e w' => e = .returned (.agg #[.int .i64 (((drawCall s c).1).id), .int .i64 (((drawCall s c).1).kind), .int .i64 (((drawCall s c).1).src), .int .i64 (((drawCall s c).1).dst), .int .i64 (((drawCall s c).1).car), .int .i64 (((drawCall s c).1).state), .int .i64 (((drawCall s c).1).owner), .int .i64 (((drawCall s c).1).born)]) ∧ Blk w' m #[.int .u64 ((drawCall s c).2)] 61 ∧ Off [m] w w' := by
 have H := Lib.hid (Hp.start [] w)
 have H := hp_one hm
 clear hm
 have hr := cfg_rng hck
 refine wStart (args := [.pointer (some ⟨m, 0, none⟩), .agg (cA c)]) Tryz.func25 rfl rfl rfl H ?_
 clear H
 show Wk 50 _ _ [(0, .pointer (some ⟨m, 0, none⟩)), (1, .agg (cA c))] _ _
 refine wSeqK fun KK1 hK1 => ?_
 refine wReg ?_
 refine wBx rfl rfl rfl fun b3 => ?_
 refine wAl rfl rfl tyapi_Call fun b4 => ?_
 refine wN ?_
 refine tN (wKK hK1 ?_)
 refine wSeqK fun KK2 hK2 => ?_
 refine wReg ?_
 refine p_callDraw rfl ?_
 refine wC (l := [.pointer (some ⟨m, 0, none⟩), .int .i64 1, .int .i64 4]) Tryz.func26 rfl (by kernel_rfl) (fun wc H => fromN m s 1 4 wc (H.out.blk 2 rfl) hsl (by decide) (by decide)) rfl rfl rfl rfl ?_
 intro wc H
 rintro er wd ⟨rfl, hb, ho⟩
 have H2 := hp_turn H (i := 2) (cs' := [.int .u64 (nextN s)]) rfl hb ho
 refine ⟨_, rfl, wkAt H2 ?_⟩
 clear H H2
 refine wE (.agg #[.int .i64 0, .int .i64 (1 + (belN s 4 : Int)), .int .i64 0, .int .i64 0, .int .i64 0, .int .i64 0, .int .i64 0, .int .i64 0]) rfl rfl rfl (fun aa ww hs _ => by have e7 := hs 7 _ rfl; have g7 := gt_of e7; simp only [execOp]; go_simp <;> first | rfl | omega) ?_
 refine wAl rfl rfl tyapi_Call fun b5 => ?_
 refine wSr rfl tyapi_Call 0 rfl rfl rfl rfl [.int .i64 0, .int .i64 (1 + (belN s 4 : Int)), .int .i64 0, .int .i64 0, .int .i64 0, .int .i64 0, .int .i64 0, .int .i64 0] (by first | rfl | (simp only [spl]; rfl)) ?_
 refine wN ?_
 refine tN (wKK hK2 ?_)
 refine wSeqK fun KK3 hK3 => ?_
 refine wSeqK fun KK4 hK4 => ?_
 refine wReg ?_
 refine p_callDraw rfl ?_
 refine wLd rfl tyint 0 rfl rfl ?_
 refine wN ?_
 refine tN (wKK hK4 ?_)
 refine wBlk ?_
 refine wSeqK fun KK5 hK5 => ?_
 refine wReg ?_
 iterate 2 refine p_callDraw rfl ?_
 refine wN ?_
 refine tN (wKK hK5 ?_)
 refine wCond (E := (1 + (belN s 4 : Int)) == 1) rfl (fun z1 => ?_) (fun z1 => ?_)
 · skip
   have z1o : ((1 + (belN s 4 : Int)) != 1) = false := eqq_t z1
   refine wReg ?_
   iterate 2 refine p_callDraw rfl ?_
   refine wLd rfl tyint 2 rfl rfl ?_
   refine p_callDraw rfl ?_
   refine wI 26 rfl (IntWalk.i64_in _ (by omega)) ?_
   refine wC (l := [.pointer (some ⟨m, 0, none⟩), .int .i64 1, .int .i64 (c.floors - 1)]) Tryz.func26 rfl (by kernel_rfl) (fun wc H => fromOk m (nextN s) 1 (c.floors - 1) wc (H.out.blk 3 rfl) (nextN_lt hsl) (by decide) (by omega)) rfl rfl rfl rfl ?_
   intro wc H
   rintro er wd ⟨rfl, hb, ho⟩
   have H2 := hp_turn H (i := 3) (cs' := [.int .u64 (nextN (nextN s))]) rfl hb ho
   refine ⟨_, rfl, wkAt H2 ?_⟩
   clear H H2
   refine p_callDraw rfl ?_
   refine wSt rfl tyint 0 rfl rfl rfl rfl ?_
   refine wN ?_
   refine bN (tN (wKK hK3 ?_))
   refine wSeqK fun KK6 hK6 => ?_
   refine wReg ?_
   refine wLr rfl tyapi_Call 0 rfl [.int .i64 0, .int .i64 (1 + (belN s 4 : Int)), .int .i64 (1 + belV (nextN s) (c.floors - 1)), .int .i64 0, .int .i64 0, .int .i64 0, .int .i64 0, .int .i64 0] rfl rfl ?_
   refine wSr rfl tyapi_Call 1 rfl rfl rfl rfl [.int .i64 0, .int .i64 (1 + (belN s 4 : Int)), .int .i64 (1 + belV (nextN s) (c.floors - 1)), .int .i64 0, .int .i64 0, .int .i64 0, .int .i64 0, .int .i64 0] (by first | rfl | (simp only [spl]; rfl)) ?_
   refine wN ?_
   refine tN (wKK hK6 ?_)
   refine wRet ?_
   exact wRc tyapi_Call rfl rfl 1 rfl rfl (fun ww H => (by simp only [drawCall, z1, z1o, cond_true, cond_false, Bool.not_true, Bool.not_false, Bool.true_and, Bool.and_true, Bool.false_and, Bool.and_false, Bool.true_or, Bool.or_true, Bool.false_or, Bool.or_false]; exact ⟨by first | rfl | trivial, H.out.blk 3 rfl, H.out.off⟩))
 · skip
   have z1o : ((1 + (belN s 4 : Int)) != 1) = true := eqq_f z1
   refine wSeqK fun KK7 hK7 => ?_
   refine wReg ?_
   iterate 2 refine p_callDraw rfl ?_
   refine wN ?_
   refine tN (wKK hK7 ?_)
   refine wCond (E := (1 + (belN s 4 : Int)) == 2) rfl (fun z2 => ?_) (fun z2 => ?_)
   · skip
     have z2o : ((1 + (belN s 4 : Int)) != 2) = false := eqq_t z2
     refine wReg ?_
     iterate 2 refine p_callDraw rfl ?_
     refine wLd rfl tyint 2 rfl rfl ?_
     refine p_callDraw rfl ?_
     refine wI 34 rfl (IntWalk.i64_in _ (by omega)) ?_
     refine wC (l := [.pointer (some ⟨m, 0, none⟩), .int .i64 2, .int .i64 (c.floors - 1)]) Tryz.func26 rfl (by kernel_rfl) (fun wc H => fromOk m (nextN s) 2 (c.floors - 1) wc (H.out.blk 3 rfl) (nextN_lt hsl) (by decide) (by omega)) rfl rfl rfl rfl ?_
     intro wc H
     rintro er wd ⟨rfl, hb, ho⟩
     have H2 := hp_turn H (i := 3) (cs' := [.int .u64 (nextN (nextN s))]) rfl hb ho
     refine ⟨_, rfl, wkAt H2 ?_⟩
     clear H H2
     refine p_callDraw rfl ?_
     refine wSt rfl tyint 0 rfl rfl rfl rfl ?_
     refine wN ?_
     refine bN (tN (wKK hK3 ?_))
     refine wSeqK fun KK8 hK8 => ?_
     refine wReg ?_
     refine wLr rfl tyapi_Call 0 rfl [.int .i64 0, .int .i64 (1 + (belN s 4 : Int)), .int .i64 (2 + belV (nextN s) (c.floors - 1)), .int .i64 0, .int .i64 0, .int .i64 0, .int .i64 0, .int .i64 0] rfl rfl ?_
     refine wSr rfl tyapi_Call 1 rfl rfl rfl rfl [.int .i64 0, .int .i64 (1 + (belN s 4 : Int)), .int .i64 (2 + belV (nextN s) (c.floors - 1)), .int .i64 0, .int .i64 0, .int .i64 0, .int .i64 0, .int .i64 0] (by first | rfl | (simp only [spl]; rfl)) ?_
     refine wN ?_
     refine tN (wKK hK8 ?_)
     refine wRet ?_
     exact wRc tyapi_Call rfl rfl 1 rfl rfl (fun ww H => (by simp only [drawCall, z1, z1o, z2, z2o, cond_true, cond_false, Bool.not_true, Bool.not_false, Bool.true_and, Bool.and_true, Bool.false_and, Bool.and_false, Bool.true_or, Bool.or_true, Bool.false_or, Bool.or_false]; exact ⟨by first | rfl | trivial, H.out.blk 3 rfl, H.out.off⟩))
   · skip
     have z2o : ((1 + (belN s 4 : Int)) != 2) = true := eqq_f z2
     refine wSeqK fun KK9 hK9 => ?_
     refine wReg ?_
     iterate 2 refine p_callDraw rfl ?_
     refine wN ?_
     refine tN (wKK hK9 ?_)
     refine wCond (E := (1 + (belN s 4 : Int)) == 3) rfl (fun z3 => ?_) (fun z3 => ?_)
     · skip
       have z3o : ((1 + (belN s 4 : Int)) != 3) = false := eqq_t z3
       refine wSeqK fun KK10 hK10 => ?_
       refine wReg ?_
       iterate 2 refine p_callDraw rfl ?_
       refine wLd rfl tyint 2 rfl rfl ?_
       refine wC (l := [.pointer (some ⟨m, 0, none⟩), .int .i64 1, .int .i64 c.cars]) Tryz.func26 rfl (by kernel_rfl) (fun wc H => fromOk m (nextN s) 1 c.cars wc (H.out.blk 3 rfl) (nextN_lt hsl) (by decide) (by omega)) rfl rfl rfl rfl ?_
       intro wc H
       rintro er wd ⟨rfl, hb, ho⟩
       have H2 := hp_turn H (i := 3) (cs' := [.int .u64 (nextN (nextN s))]) rfl hb ho
       refine ⟨_, rfl, wkAt H2 ?_⟩
       clear H H2
       refine p_callDraw rfl ?_
       refine wSt rfl tyint 0 rfl rfl rfl rfl ?_
       refine wN ?_
       refine tN (wKK hK10 ?_)
       refine wReg ?_
       iterate 2 refine p_callDraw rfl ?_
       refine wLd rfl tyint 2 rfl rfl ?_
       refine wC (l := [.pointer (some ⟨m, 0, none⟩), .int .i64 1, .int .i64 c.floors]) Tryz.func26 rfl (by kernel_rfl) (fun wc H => fromOk m (nextN (nextN s)) 1 c.floors wc (H.out.blk 3 rfl) (nextN_lt (nextN_lt hsl)) (by decide) (by omega)) rfl rfl rfl rfl ?_
       intro wc H
       rintro er wd ⟨rfl, hb, ho⟩
       have H2 := hp_turn H (i := 3) (cs' := [.int .u64 (nextN (nextN (nextN s)))]) rfl hb ho
       refine ⟨_, rfl, wkAt H2 ?_⟩
       clear H H2
       refine p_callDraw rfl ?_
       refine wSt rfl tyint 0 rfl rfl rfl rfl ?_
       refine wN ?_
       refine bN (tN (wKK hK3 ?_))
       refine wSeqK fun KK11 hK11 => ?_
       refine wReg ?_
       refine wLr rfl tyapi_Call 0 rfl [.int .i64 0, .int .i64 (1 + (belN s 4 : Int)), .int .i64 0, .int .i64 (1 + belV (nextN (nextN s)) c.floors), .int .i64 (1 + belV (nextN s) c.cars), .int .i64 0, .int .i64 0, .int .i64 0] rfl rfl ?_
       refine wSr rfl tyapi_Call 1 rfl rfl rfl rfl [.int .i64 0, .int .i64 (1 + (belN s 4 : Int)), .int .i64 0, .int .i64 (1 + belV (nextN (nextN s)) c.floors), .int .i64 (1 + belV (nextN s) c.cars), .int .i64 0, .int .i64 0, .int .i64 0] (by first | rfl | (simp only [spl]; rfl)) ?_
       refine wN ?_
       refine tN (wKK hK11 ?_)
       refine wRet ?_
       exact wRc tyapi_Call rfl rfl 1 rfl rfl (fun ww H => (by simp only [drawCall, z1, z1o, z2, z2o, z3, z3o, cond_true, cond_false, Bool.not_true, Bool.not_false, Bool.true_and, Bool.and_true, Bool.false_and, Bool.and_false, Bool.true_or, Bool.or_true, Bool.false_or, Bool.or_false]; exact ⟨by first | rfl | trivial, H.out.blk 3 rfl, H.out.off⟩))
     · skip
       have z3o : ((1 + (belN s 4 : Int)) != 3) = true := eqq_f z3
       refine wSeqK fun KK12 hK12 => ?_
       refine wReg ?_
       iterate 2 refine p_callDraw rfl ?_
       refine wLd rfl tyint 2 rfl rfl ?_
       refine wC (l := [.pointer (some ⟨m, 0, none⟩), .int .i64 1, .int .i64 c.floors]) Tryz.func26 rfl (by kernel_rfl) (fun wc H => fromOk m (nextN s) 1 c.floors wc (H.out.blk 3 rfl) (nextN_lt hsl) (by decide) (by omega)) rfl rfl rfl rfl ?_
       intro wc H
       rintro er wd ⟨rfl, hb, ho⟩
       have H2 := hp_turn H (i := 3) (cs' := [.int .u64 (nextN (nextN s))]) rfl hb ho
       refine ⟨_, rfl, wkAt H2 ?_⟩
       clear H H2
       refine p_callDraw rfl ?_
       refine wSt rfl tyint 0 rfl rfl rfl rfl ?_
       refine wN ?_
       refine tN (wKK hK12 ?_)
       refine wReg ?_
       iterate 2 refine p_callDraw rfl ?_
       refine wLd rfl tyint 2 rfl rfl ?_
       refine wC (l := [.pointer (some ⟨m, 0, none⟩), .int .i64 1, .int .i64 c.floors]) Tryz.func26 rfl (by kernel_rfl) (fun wc H => fromOk m (nextN (nextN s)) 1 c.floors wc (H.out.blk 3 rfl) (nextN_lt (nextN_lt hsl)) (by decide) (by omega)) rfl rfl rfl rfl ?_
       intro wc H
       rintro er wd ⟨rfl, hb, ho⟩
       have H2 := hp_turn H (i := 3) (cs' := [.int .u64 (nextN (nextN (nextN s)))]) rfl hb ho
       refine ⟨_, rfl, wkAt H2 ?_⟩
       clear H H2
       refine p_callDraw rfl ?_
       refine wSt rfl tyint 0 rfl rfl rfl rfl ?_
       refine wN ?_
       refine bN (tN (wKK hK3 ?_))
       refine wSeqK fun KK13 hK13 => ?_
       refine wReg ?_
       refine wLr rfl tyapi_Call 0 rfl [.int .i64 0, .int .i64 (1 + (belN s 4 : Int)), .int .i64 (1 + belV (nextN s) c.floors), .int .i64 (1 + belV (nextN (nextN s)) c.floors), .int .i64 0, .int .i64 0, .int .i64 0, .int .i64 0] rfl rfl ?_
       refine wSr rfl tyapi_Call 1 rfl rfl rfl rfl [.int .i64 0, .int .i64 (1 + (belN s 4 : Int)), .int .i64 (1 + belV (nextN s) c.floors), .int .i64 (1 + belV (nextN (nextN s)) c.floors), .int .i64 0, .int .i64 0, .int .i64 0, .int .i64 0] (by first | rfl | (simp only [spl]; rfl)) ?_
       refine wN ?_
       refine tN (wKK hK13 ?_)
       refine wRet ?_
       exact wRc tyapi_Call rfl rfl 1 rfl rfl (fun ww H => (by simp only [drawCall, z1, z1o, z2, z2o, z3, z3o, cond_true, cond_false, Bool.not_true, Bool.not_false, Bool.true_and, Bool.and_true, Bool.false_and, Bool.and_false, Bool.true_or, Bool.or_true, Bool.false_or, Bool.or_false]; exact ⟨by first | rfl | trivial, H.out.blk 3 rfl, H.out.off⟩))
def tab_filterDraw : Wk.Tab := [(41, 0, 0), (41, 1, 1)]
theorem p_filterDraw {ops : Array Oper} {rest : List Oper} {o : Oper} {w0 : World} {Q : Exit → Act → World → Prop} {S : List Nat} {R : List Res} {K K' : Wk.Env} {N : Nat} (h : Wk.stp tab_filterDraw N ops K o = some K') (n : Wk.Wk N S w0 K' R (wpList Tryz.prog ops Q rest)) : Wk.Wk N S w0 K R (wpList Tryz.prog ops Q (o :: rest)) := Wk.wP (T := tab_filterDraw) (by kernel_rfl) h n
set_option maxHeartbeats 16000000 in
set_option maxRecDepth 20000 in
theorem filterDraw (m : Nat) (s : Nat) (w : World) (hm : Blk w m #[.int .u64 s] 61) (hsl : s < 18446744073709551616) : Calls Tryz.prog 27 #[.pointer (some ⟨m, 0, none⟩)] w fun e w' => e = .returned (.agg #[.int .i64 (((drawFilter s).1).kind), .int .i64 (((drawFilter s).1).n)]) ∧ Blk w' m #[.int .u64 ((drawFilter s).2)] 61 ∧ Off [m] w w' := by
 have H := Lib.hid (Hp.start [] w)
 have H := hp_one hm
 clear hm
 refine wStart (args := [.pointer (some ⟨m, 0, none⟩)]) Tryz.func27 rfl rfl rfl H ?_
 clear H
 show Wk 14 _ _ [(0, .pointer (some ⟨m, 0, none⟩))] _ _
 refine wSeqK fun KK1 hK1 => ?_
 refine wReg ?_
 refine wAl rfl rfl tymsg_Filter fun b2 => ?_
 refine wN ?_
 refine tN (wKK hK1 ?_)
 refine wSeqK fun KK2 hK2 => ?_
 refine wReg ?_
 refine p_filterDraw rfl ?_
 refine wC (l := [.pointer (some ⟨m, 0, none⟩), .int .i64 4]) Tryz.func10 rfl (by kernel_rfl) (fun wc H => belowN m s 4 wc (H.out.blk 1 rfl) hsl (by decide)) rfl rfl rfl rfl ?_
 intro wc H
 rintro er wd ⟨rfl, hb, ho⟩
 have H2 := hp_turn H (i := 1) (cs' := [.int .u64 (nextN s)]) rfl hb ho
 refine ⟨_, rfl, wkAt H2 ?_⟩
 clear H H2
 refine wE (.agg #[.int .i64 (belN s 4), .int .i64 0]) rfl rfl rfl (fun aa ww hs _ => by have e5 := hs 5 _ rfl; have g5 := gt_of e5; simp only [execOp]; go_simp <;> first | rfl | omega) ?_
 refine wAl rfl rfl tymsg_Filter fun b3 => ?_
 refine wSr rfl tymsg_Filter 0 rfl rfl rfl rfl [.int .i64 (belN s 4), .int .i64 0] (by first | rfl | (simp only [spl]; rfl)) ?_
 refine wN ?_
 refine tN (wKK hK2 ?_)
 refine wSeqK fun KK3 hK3 => ?_
 refine wSeqK fun KK4 hK4 => ?_
 refine wReg ?_
 refine p_filterDraw rfl ?_
 refine wLd rfl tyint 0 rfl rfl ?_
 refine p_filterDraw rfl ?_
 refine wN ?_
 refine tN (wKK hK4 ?_)
 refine wCond (E := ((belN s 4) : Int) != 0) rfl (fun z1 => ?_) (fun z1 => ?_)
 · skip
   have z1o : (((belN s 4) : Int) == 0) = false := neq_t z1
   refine wReg ?_
   refine p_filterDraw rfl ?_
   refine wC (l := [.pointer (some ⟨m, 0, none⟩), .int .i64 1, .int .i64 8]) Tryz.func26 rfl (by kernel_rfl) (fun wc H => fromN m (nextN s) 1 8 wc (H.out.blk 2 rfl) (nextN_lt hsl) (by decide) (by decide)) rfl rfl rfl rfl ?_
   intro wc H
   rintro er wd ⟨rfl, hb, ho⟩
   have H2 := hp_turn H (i := 2) (cs' := [.int .u64 (nextN (nextN s))]) rfl hb ho
   refine ⟨_, rfl, wkAt H2 ?_⟩
   clear H H2
   refine p_filterDraw rfl ?_
   refine wSt rfl tyint 0 rfl rfl rfl rfl ?_
   refine wN ?_
   refine tN (wKK hK3 ?_)
   refine wSeqK fun KK5 hK5 => ?_
   refine wReg ?_
   refine wLr rfl tymsg_Filter 0 rfl [.int .i64 (belN s 4), .int .i64 (1 + (belN (nextN s) 8 : Int))] rfl rfl ?_
   refine wSr rfl tymsg_Filter 1 rfl rfl rfl rfl [.int .i64 (belN s 4), .int .i64 (1 + (belN (nextN s) 8 : Int))] (by first | rfl | (simp only [spl]; rfl)) ?_
   refine wN ?_
   refine tN (wKK hK5 ?_)
   refine wRet ?_
   exact wRc tymsg_Filter rfl rfl 1 rfl rfl (fun ww H => (by simp only [drawFilter, z1, z1o, cond_true, cond_false, Bool.not_true, Bool.not_false, Bool.true_and, Bool.and_true, Bool.false_and, Bool.and_false, Bool.true_or, Bool.or_true, Bool.false_or, Bool.or_false]; exact ⟨by first | rfl | trivial, H.out.blk 2 rfl, H.out.off⟩))
 · skip
   have z1o : (((belN s 4) : Int) == 0) = true := neq_f z1
   refine wSk ?_
   refine tN (wKK hK3 ?_)
   refine wSeqK fun KK6 hK6 => ?_
   refine wReg ?_
   refine wLr rfl tymsg_Filter 0 rfl [.int .i64 (belN s 4), .int .i64 0] rfl rfl ?_
   refine wSr rfl tymsg_Filter 1 rfl rfl rfl rfl [.int .i64 (belN s 4), .int .i64 0] (by first | rfl | (simp only [spl]; rfl)) ?_
   refine wN ?_
   refine tN (wKK hK6 ?_)
   refine wRet ?_
   exact wRc tymsg_Filter rfl rfl 1 rfl rfl (fun ww H => (by simp only [drawFilter, z1, z1o, cond_true, cond_false, Bool.not_true, Bool.not_false, Bool.true_and, Bool.and_true, Bool.false_and, Bool.and_false, Bool.true_or, Bool.or_true, Bool.false_or, Bool.or_false]; exact ⟨by first | rfl | trivial, H.out.blk 2 rfl, H.out.off⟩))
def tab_modeDraw : Wk.Tab := []
theorem p_modeDraw {ops : Array Oper} {rest : List Oper} {o : Oper} {w0 : World} {Q : Exit → Act → World → Prop} {S : List Nat} {R : List Res} {K K' : Wk.Env} {N : Nat} (h : Wk.stp tab_modeDraw N ops K o = some K') (n : Wk.Wk N S w0 K' R (wpList Tryz.prog ops Q rest)) : Wk.Wk N S w0 K R (wpList Tryz.prog ops Q (o :: rest)) := Wk.wP (T := tab_modeDraw) (by kernel_rfl) h n
set_option maxHeartbeats 16000000 in
set_option maxRecDepth 20000 in
theorem modeDraw (m : Nat) (s : Nat) (w : World) (hm : Blk w m #[.int .u64 s] 61) (hsl : s < 18446744073709551616) : Calls Tryz.prog 28 #[.pointer (some ⟨m, 0, none⟩)] w fun e w' => e = .returned (.int .i64 (drawMode s)) ∧ Blk w' m #[.int .u64 (nextN s)] 61 ∧ Off [m] w w' := by
 have H := Lib.hid (Hp.start [] w)
 have H := hp_one hm
 clear hm
 refine wStart (args := [.pointer (some ⟨m, 0, none⟩)]) Tryz.func28 rfl rfl rfl H ?_
 clear H
 show Wk 6 _ _ [(0, .pointer (some ⟨m, 0, none⟩))] _ _
 refine wSeqK fun KK1 hK1 => ?_
 refine wReg ?_
 refine p_modeDraw rfl ?_
 refine wN ?_
 refine tN (wKK hK1 ?_)
 refine wSeqK fun KK2 hK2 => ?_
 refine wSeqK fun KK3 hK3 => ?_
 refine wReg ?_
 refine p_modeDraw rfl ?_
 refine wC (l := [.pointer (some ⟨m, 0, none⟩), .int .i64 8]) Tryz.func10 rfl (by kernel_rfl) (fun wc H => belowN m s 8 wc (H.out.blk 0 rfl) hsl (by decide)) rfl rfl rfl rfl ?_
 intro wc H
 rintro er wd ⟨rfl, hb, ho⟩
 have H2 := hp_turn H (i := 0) (cs' := [.int .u64 (nextN s)]) rfl hb ho
 refine ⟨_, rfl, wkAt H2 ?_⟩
 clear H H2
 refine p_modeDraw rfl ?_
 refine wN ?_
 refine tN (wKK hK3 ?_)
 refine wCond (E := ((belN s 8) : Int) == 0) rfl (fun z1 => ?_) (fun z1 => ?_)
 · skip
   have z1o : (((belN s 8) : Int) != 0) = false := eqq_t z1
   refine wSeqK fun KK4 hK4 => ?_
   refine wReg ?_
   refine p_modeDraw rfl ?_
   refine wN ?_
   refine tN (wKK hK4 ?_)
   refine wRet ?_
   refine tR ?_
   exact wR1 rfl rfl (fun ww H => (by simp only [drawMode, z1, z1o, cond_true, cond_false, Bool.not_true, Bool.not_false, Bool.true_and, Bool.and_true, Bool.false_and, Bool.and_false, Bool.true_or, Bool.or_true, Bool.false_or, Bool.or_false]; exact ⟨by first | rfl | trivial, H.out.blk 0 rfl, H.out.off⟩))
 · skip
   have z1o : (((belN s 8) : Int) != 0) = true := eqq_f z1
   refine wSk ?_
   refine tN (wKK hK2 ?_)
   refine wSeqK fun KK5 hK5 => ?_
   refine wReg ?_
   refine p_modeDraw rfl ?_
   refine wN ?_
   refine tN (wKK hK5 ?_)
   refine wRet ?_
   exact wR1 rfl rfl (fun ww H => (by simp only [drawMode, z1, z1o, cond_true, cond_false, Bool.not_true, Bool.not_false, Bool.true_and, Bool.and_true, Bool.false_and, Bool.and_false, Bool.true_or, Bool.or_true, Bool.false_or, Bool.or_false]; exact ⟨by first | rfl | trivial, H.out.blk 0 rfl, H.out.off⟩))
theorem kinds_row {w : World} {b : Nat} (h : Blk w b #[.int .i64 4, .int .i64 4, .int .i64 4, .int .i64 4, .int .i64 5, .int .i64 6, .int .i64 7, .int .i64 8, .int .i64 9, .int .i64 10] 3) : (rS (some ⟨b, 0, none⟩) 10 1 (kindsL.map fun k => [Value.int .i64 k])).holds w := by
  refine ⟨.inr ⟨⟨b, 0, none⟩, 10, rfl, fun i hi j u hu => ?_⟩, fun r hr => ?_⟩
  · have hi' : i < 10 := by simpa [kindsL] using hi
    rw [List.getElem_map] at hu
    cases j with
    | zero =>
      simp at hu
      subst hu
      rw [Deep.add_add]
      simp only [Addr.add]
      have h10 : i = 0 ∨ i = 1 ∨ i = 2 ∨ i = 3 ∨ i = 4 ∨ i = 5 ∨ i = 6 ∨ i = 7 ∨ i = 8 ∨ i = 9 := by omega
      rcases h10 with rfl | rfl | rfl | rfl | rfl | rfl | rfl | rfl | rfl | rfl <;> exact h.cell _ _ rfl
    | succ j => simp at hu
  · obtain ⟨x, _, rfl⟩ := List.mem_map.1 hr
    exact ⟨rfl, fun u hu => by rw [List.mem_singleton.1 hu]; rfl⟩
def tab_kindsC : Wk.Tab := []
theorem p_kindsC {ops : Array Oper} {rest : List Oper} {o : Oper} {w0 : World} {Q : Exit → Act → World → Prop} {S : List Nat} {R : List Res} {K K' : Wk.Env} {N : Nat} (h : Wk.stp tab_kindsC N ops K o = some K') (n : Wk.Wk N S w0 K' R (wpList Tryz.prog ops Q rest)) : Wk.Wk N S w0 K R (wpList Tryz.prog ops Q (o :: rest)) := Wk.wP (T := tab_kindsC) (by kernel_rfl) h n
set_option maxHeartbeats 16000000 in
set_option maxRecDepth 20000 in
theorem kindsC  (w : World) : Calls Tryz.prog 23 #[] w fun e w' => ∃ y, e = .returned (.slice (some y) 10 10) ∧ (rS (some y) 10 1 (kindsL.map fun k => [Value.int .i64 k])).holds w' ∧ (∀ q ∈ (rS (some y) 10 1 (kindsL.map fun k => [Value.int .i64 k])).foot, w.heap.size ≤ q) ∧ Off [] w w' := by
 have H := Lib.hid (Hp.start [] w)
 refine wStart (args := []) Tryz.func23 rfl rfl rfl H ?_
 clear H
 show Wk 2 _ _ [] _ _
 refine wSeqK fun KK1 hK1 => ?_
 refine wReg ?_
 refine p_kindsC rfl ?_
 refine wN ?_
 refine tN (wKK hK1 ?_)
 refine wSeqK fun KK2 hK2 => ?_
 refine wReg ?_
 refine wBs (cs := [.int .i64 4, .int .i64 4, .int .i64 4, .int .i64 4, .int .i64 5, .int .i64 6, .int .i64 7, .int .i64 8, .int .i64 9, .int .i64 10]) rfl rfl rfl rfl Tryz.underlying67 tyint rfl (by decide) (by decide) (by kernel_rfl) fun b1 => ?_
 refine p_kindsC rfl ?_
 refine wN ?_
 refine tN (wKK hK2 ?_)
 refine wRet ?_
 exact wR1 rfl rfl (fun ww H => ⟨⟨b1, 0, none⟩, rfl, kinds_row (H.out.blk 0 rfl), fun q hq => (by simp only [rS, kindsL, List.map_cons, List.map_nil, footR, footA, Option.map_some, Option.toList_some, List.mem_singleton] at hq; subst hq; exact (H.out.newf _ (List.mem_of_getElem? (i := 0) rfl) rfl _ (by simp [rB])).resolve_left (by simp)), H.out.off⟩)
def tab_reqDraw : Wk.Tab := [(25, 1, 1), (43, 0, 0), (43, 1, 1), (43, 5, 5), (43, 6, 6), (43, 7, 14), (43, 8, 15), (43, 9, 16), (43, 10, 17)]
theorem p_reqDraw {ops : Array Oper} {rest : List Oper} {o : Oper} {w0 : World} {Q : Exit → Act → World → Prop} {S : List Nat} {R : List Res} {K K' : Wk.Env} {N : Nat} (h : Wk.stp tab_reqDraw N ops K o = some K') (n : Wk.Wk N S w0 K' R (wpList Tryz.prog ops Q rest)) : Wk.Wk N S w0 K R (wpList Tryz.prog ops Q (o :: rest)) := Wk.wP (T := tab_reqDraw) (by kernel_rfl) h n
set_option maxHeartbeats 16000000 in
set_option maxRecDepth 20000 in
theorem reqDraw (m : Nat) (s : Nat) (c : Cfg) (now : Int) (w : World) (hm : Blk w m #[.int .u64 s] 61) (hsl : s < 18446744073709551616) : Calls Tryz.prog 13 #[.pointer (some ⟨m, 0, none⟩), .agg (cA c), .int .i64 now] w fun e w' => e = .returned (.agg #[.int .i64 (((drawReq s c now).1).kind), .int .i64 (((drawReq s c now).1).seq), .int .i64 (((drawReq s c now).1).who), .int .i64 (((drawReq s c now).1).role), .int .u32 (((drawReq s c now).1).token), .int .u64 (((drawReq s c now).1).key), .int .i64 ((((drawReq s c now).1).call).id), .int .i64 ((((drawReq s c now).1).call).kind), .int .i64 ((((drawReq s c now).1).call).src), .int .i64 ((((drawReq s c now).1).call).dst), .int .i64 ((((drawReq s c now).1).call).car), .int .i64 ((((drawReq s c now).1).call).state), .int .i64 ((((drawReq s c now).1).call).owner), .int .i64 ((((drawReq s c now).1).call).born), .int .i64 (((drawReq s c now).1).id), .int .i64 (((drawReq s c now).1).car), .int .i64 (((drawReq s c now).1).mode), .int .i64 ((((drawReq s c now).1).filter).kind), .int .i64 ((((drawReq s c now).1).filter).n)]) ∧ Blk w' m #[.int .u64 ((drawReq s c now).2)] 61 ∧ Off [m] w w' := by
 have H := Lib.hid (Hp.start [] w)
 have H := hp_one hm
 clear hm
 refine wStart (args := [.pointer (some ⟨m, 0, none⟩), .agg (cA c), .int .i64 now]) Tryz.func13 rfl rfl rfl H ?_
 clear H
 show Wk 77 _ _ [(0, .pointer (some ⟨m, 0, none⟩)), (1, .agg (cA c)), (2, .int .i64 now)] _ _
 refine wSeqK fun KK1 hK1 => ?_
 refine wReg ?_
 refine wBx rfl rfl rfl fun b4 => ?_
 refine wAl rfl rfl tymsg_Request fun b6 => ?_
 refine wN ?_
 refine tN (wKK hK1 ?_)
 refine wSeqK fun KK2 hK2 => ?_
 refine wSeqK fun KK3 hK3 => ?_
 refine wReg ?_
 refine p_reqDraw rfl ?_
 refine wE (.bool false) rfl rfl rfl (fun aa ww hs _ => by exact exec_pnil_eql rfl (hs _ _ rfl) rfl Tryz.underlying28) ?_
 refine p_reqDraw rfl ?_
 refine wLr rfl tyapi_Config 1 rfl (cL c) rfl rfl ?_
 refine wQ (l := [.agg (cA c)]) Tryz.func22 rfl (by kernel_rfl) (.int .i64 (checkV c)) (fun wc H => check c wc) rfl rfl rfl rfl ?_
 iterate 3 refine p_reqDraw rfl ?_
 refine wCut 3 [(18, .bool (((checkV c) != 0) || (decide (now < 0)))), (0, .pointer (some ⟨m, 0, none⟩)), (1, .agg (cA c)), (2, .int .i64 now), (4, .pointer (some ⟨b4, 0, none⟩)), (6, .pointer (some ⟨b6, 0, none⟩))] ?_ ?_
 · intro KK hKK
   rcases Bool.eq_false_or_eq_true ((checkV c) != 0) with u1 | u1
   · skip
     refine wB (c := true) 15 rfl u1 ?_
     iterate 2 refine p_reqDraw rfl ?_
     refine p_reqDraw rfl ?_
     refine wB (c := ((checkV c) != 0) || (decide (now < 0))) 18 rfl (by rw [u1]; rfl) ?_
     refine wN (tN ?_)
     exact fun aa ww nn dd hs H => hKK aa ww nn dd (sat_sub ⟨rfl, rfl, rfl, rfl, rfl, rfl, trivial⟩ hs) H
   · skip
     refine wB (c := false) 15 rfl u1 ?_
     iterate 2 refine p_reqDraw rfl ?_
     refine p_reqDraw rfl ?_
     refine wB (c := ((checkV c) != 0) || (decide (now < 0))) 18 rfl (by rw [u1]; rfl) ?_
     refine wN (tN ?_)
     exact fun aa ww nn dd hs H => hKK aa ww nn dd (sat_sub ⟨rfl, rfl, rfl, rfl, rfl, rfl, trivial⟩ hs) H
 refine p_reqDraw rfl ?_
 refine wCut 3 [(22, .bool ((((checkV c) != 0) || (decide (now < 0))) || (decide (1073741824 < now)))), (0, .pointer (some ⟨m, 0, none⟩)), (1, .agg (cA c)), (2, .int .i64 now), (4, .pointer (some ⟨b4, 0, none⟩)), (6, .pointer (some ⟨b6, 0, none⟩))] ?_ ?_
 · intro KK hKK
   rcases Bool.eq_false_or_eq_true (((checkV c) != 0) || (decide (now < 0))) with u2 | u2
   · skip
     refine wB (c := true) 19 rfl u2 ?_
     iterate 2 refine p_reqDraw rfl ?_
     refine p_reqDraw rfl ?_
     refine wB (c := (((checkV c) != 0) || (decide (now < 0))) || (decide (1073741824 < now))) 22 rfl (by rw [u2]; rfl) ?_
     refine wN (tN ?_)
     exact fun aa ww nn dd hs H => hKK aa ww nn dd (sat_sub ⟨rfl, rfl, rfl, rfl, rfl, rfl, trivial⟩ hs) H
   · skip
     refine wB (c := false) 19 rfl u2 ?_
     iterate 2 refine p_reqDraw rfl ?_
     refine p_reqDraw rfl ?_
     refine wB (c := (((checkV c) != 0) || (decide (now < 0))) || (decide (1073741824 < now))) 22 rfl (by rw [u2]; rfl) ?_
     refine wN (tN ?_)
     exact fun aa ww nn dd hs H => hKK aa ww nn dd (sat_sub ⟨rfl, rfl, rfl, rfl, rfl, rfl, trivial⟩ hs) H
 refine wN ?_
 refine tN (wKK hK3 ?_)
 refine wCond (E := (((checkV c) != 0) || (decide (now < 0))) || (decide (1073741824 < now))) rfl (fun z3 => ?_) (fun z3 => ?_)
 · skip
   refine wSeqK fun KK4 hK4 => ?_
   refine wReg ?_
   refine wE (.agg #[.int .i64 0, .int .i64 0, .int .i64 0, .int .i64 0, .int .u32 0, .int .u64 0, .int .i64 0, .int .i64 0, .int .i64 0, .int .i64 0, .int .i64 0, .int .i64 0, .int .i64 0, .int .i64 0, .int .i64 0, .int .i64 0, .int .i64 0, .int .i64 0, .int .i64 0]) rfl rfl rfl (fun aa ww hs _ => by simp only [execOp]; go_simp <;> first | rfl | omega) ?_
   refine wSr rfl tymsg_Request 0 rfl rfl rfl rfl [.int .i64 0, .int .i64 0, .int .i64 0, .int .i64 0, .int .u32 0, .int .u64 0, .int .i64 0, .int .i64 0, .int .i64 0, .int .i64 0, .int .i64 0, .int .i64 0, .int .i64 0, .int .i64 0, .int .i64 0, .int .i64 0, .int .i64 0, .int .i64 0, .int .i64 0] (by first | rfl | (simp only [spl]; rfl)) ?_
   refine wN ?_
   refine tN (wKK hK4 ?_)
   refine wRet ?_
   refine tR ?_
   exact wRc tymsg_Request rfl rfl 0 rfl rfl (fun ww H => (by simp only [drawReq, drawOk, kindOf, seqOf, z3, cond_true, cond_false, Bool.not_true, Bool.not_false, Bool.true_and, Bool.and_true, Bool.false_and, Bool.and_false, Bool.true_or, Bool.or_true, Bool.false_or, Bool.or_false]; exact ⟨by first | rfl | trivial, H.out.blk 2 rfl, H.out.off⟩))
 · skip
   have z3l : (((checkV c) != 0) || (decide (now < 0))) = false := Reg.ol z3
   have z3ll : ((checkV c) != 0) = false := Reg.ol z3l
   have z3llo : ((checkV c) == 0) = true := neq_f z3ll
   have z3lr : (decide (now < 0)) = false := Reg.orr z3l
   have z3lrd : ¬ (now < 0) := of_decide_eq_false z3lr
   have z3r : (decide (1073741824 < now)) = false := Reg.orr z3
   have z3rd : ¬ (1073741824 < now) := of_decide_eq_false z3r
   intro aa ww nn dd hs H
   have hck := z3ll
   have hr := cfg_rng hck
   have hb10 := belN_lt s (n := 10) (by decide)
   refine wIn nn dd hs H ?_
   refine wSk ?_
   refine tN (wKK hK2 ?_)
   refine wSeqK fun KK5 hK5 => ?_
   refine wReg ?_
   refine wC (l := []) Tryz.func23 rfl (by kernel_rfl) (fun wc H => kindsC wc) rfl rfl rfl rfl ?_
   intro wc H
   rintro er wd ⟨y3_0, rfl, hh, hf, ho⟩
   have H2 := hp_got H (Rs := []) ho hh (by decide) (From.new hf) (fun r hr => by cases hr)
   refine ⟨_, rfl, wkAt H2 ?_⟩
   clear H H2
   refine p_reqDraw rfl ?_
   refine wC (l := []) Tryz.func23 rfl (by kernel_rfl) (fun wc H => kindsC wc) rfl rfl rfl rfl ?_
   intro wc H
   rintro er wd ⟨y3_2, rfl, hh, hf, ho⟩
   have H2 := hp_got H (Rs := []) ho hh (by decide) (From.new hf) (fun r hr => by cases hr)
   refine ⟨_, rfl, wkAt H2 ?_⟩
   clear H H2
   refine wE (.int .i64 10) rfl rfl rfl (fun aa ww hs _ => by have e26 := hs 26 _ rfl; have g26 := gt_of e26; simp only [execOp]; go_simp <;> first | rfl | omega) ?_
   refine wC (l := [.pointer (some ⟨m, 0, none⟩), .int .i64 10]) Tryz.func10 rfl (by kernel_rfl) (fun wc H => belowN m s 10 wc (H.out.blk 4 rfl) hsl (by decide)) rfl rfl rfl rfl ?_
   intro wc H
   rintro er wd ⟨rfl, hb, ho⟩
   have H2 := hp_turn H (i := 4) (cs' := [.int .u64 (nextN s)]) rfl hb ho
   refine ⟨_, rfl, wkAt H2 ?_⟩
   clear H H2
   refine wE (.pointer (some (y3_0.add (belN s 10)))) rfl rfl rfl (fun aa ww hs _ => by have e24 := hs 24 _ rfl; have g24 := gt_of e24; have e28 := hs 28 _ rfl; have g28 := gt_of e28; simp only [execOp]; go_simp <;> first | rfl | omega) ?_
   refine wX 30 (.int .i64 (kindsL.getD (belN s 10) 0)) rfl (fun aa ww KK hs H _ hk => hpS_load1 0 tyint H (y := y3_0) rfl (hs _ _ rfl) (wnt_ok hs rfl) (by (repeat (first | exact List.Mem.head _ | apply List.Mem.tail))) (kinds_at (belN_lt _ (by decide))) (by rfl) (by simp [Addr.add]) hk) ?_
   refine wE (.agg #[.int .i64 (kindsL.getD (belN s 10) 0), .int .i64 0, .int .i64 0, .int .i64 0, .int .u32 0, .int .u64 0, .int .i64 0, .int .i64 0, .int .i64 0, .int .i64 0, .int .i64 0, .int .i64 0, .int .i64 0, .int .i64 0, .int .i64 0, .int .i64 0, .int .i64 0, .int .i64 0, .int .i64 0]) rfl rfl rfl (fun aa ww hs _ => by have e30 := hs 30 _ rfl; have g30 := gt_of e30; simp only [execOp]; go_simp <;> first | rfl | omega) ?_
   refine wAl rfl rfl tymsg_Request fun b7 => ?_
   refine wSr rfl tymsg_Request 0 rfl rfl rfl rfl [.int .i64 (kindsL.getD (belN s 10) 0), .int .i64 0, .int .i64 0, .int .i64 0, .int .u32 0, .int .u64 0, .int .i64 0, .int .i64 0, .int .i64 0, .int .i64 0, .int .i64 0, .int .i64 0, .int .i64 0, .int .i64 0, .int .i64 0, .int .i64 0, .int .i64 0, .int .i64 0, .int .i64 0] (by first | rfl | (simp only [spl]; rfl)) ?_
   refine wN ?_
   refine tN (wKK hK5 ?_)
   refine wSeqK fun KK6 hK6 => ?_
   refine wReg ?_
   refine p_reqDraw rfl ?_
   refine wC (l := [.pointer (some ⟨m, 0, none⟩), .int .i64 1000]) Tryz.func10 rfl (by kernel_rfl) (fun wc H => belowN m (nextN s) 1000 wc (H.out.blk 5 rfl) (nextN_lt hsl) (by decide)) rfl rfl rfl rfl ?_
   intro wc H
   rintro er wd ⟨rfl, hb, ho⟩
   have H2 := hp_turn H (i := 5) (cs' := [.int .u64 (nextN (nextN s))]) rfl hb ho
   refine ⟨_, rfl, wkAt H2 ?_⟩
   clear H H2
   refine p_reqDraw rfl ?_
   refine wSt rfl tyint 0 rfl rfl rfl rfl ?_
   refine wN ?_
   refine tN (wKK hK6 ?_)
   refine wSeqK fun KK7 hK7 => ?_
   refine wSeqK fun KK8 hK8 => ?_
   refine wReg ?_
   refine p_reqDraw rfl ?_
   refine wLd rfl tyint 0 rfl rfl ?_
   refine wN ?_
   refine tN (wKK hK8 ?_)
   refine wBlk ?_
   refine wSeqK fun KK9 hK9 => ?_
   refine wReg ?_
   iterate 2 refine p_reqDraw rfl ?_
   refine wN ?_
   refine tN (wKK hK9 ?_)
   refine wCond (E := (kindsL.getD (belN s 10) 0) == 4) rfl (fun z4 => ?_) (fun z4 => ?_)
   · skip
     have z4o : ((kindsL.getD (belN s 10) 0) != 4) = false := eqq_t z4
     refine wSeqK fun KK10 hK10 => ?_
     refine wReg ?_
     iterate 2 refine p_reqDraw rfl ?_
     refine wC (l := [.pointer (some ⟨m, 0, none⟩), .int .i64 now]) Tryz.func24 rfl (by kernel_rfl) (fun wc H => keyDraw m (nextN (nextN s)) now wc (H.out.blk 5 rfl) (nextN_lt (nextN_lt hsl)) (by omega)) rfl rfl rfl rfl ?_
     intro wc H
     rintro er wd ⟨rfl, hb, ho⟩
     have H2 := hp_turn H (i := 5) (cs' := [.int .u64 (nextN (nextN (nextN s)))]) rfl hb ho
     refine ⟨_, rfl, wkAt H2 ?_⟩
     clear H H2
     refine p_reqDraw rfl ?_
     refine wSt rfl tyuint64 0 rfl rfl rfl rfl ?_
     refine wN ?_
     refine tN (wKK hK10 ?_)
     refine wReg ?_
     refine p_reqDraw rfl ?_
     refine wLr rfl tyapi_Config 4 rfl (cL c) rfl rfl ?_
     refine wC (l := [.pointer (some ⟨m, 0, none⟩), .agg (cA c)]) Tryz.func25 rfl (by kernel_rfl) (fun wc H => callDraw m (nextN (nextN (nextN s))) c wc (H.out.blk 5 rfl) (nextN_lt (nextN_lt (nextN_lt hsl))) hck) rfl rfl rfl rfl ?_
     intro wc H
     rintro er wd ⟨rfl, hb, ho⟩
     have H2 := hp_turn H (i := 5) (cs' := [.int .u64 ((drawCall (nextN (nextN (nextN s))) c).2)]) rfl hb ho
     refine ⟨_, rfl, wkAt H2 ?_⟩
     clear H H2
     refine p_reqDraw rfl ?_
     refine wSr rfl tyapi_Call 0 rfl rfl rfl rfl [.int .i64 (kindsL.getD (belN s 10) 0), .int .i64 (belN (nextN s) 1000), .int .i64 0, .int .i64 0, .int .u32 0, .int .u64 (keyV now (belN (nextN (nextN s)) 8)), .int .i64 (((drawCall (nextN (nextN (nextN s))) c).1).id), .int .i64 (((drawCall (nextN (nextN (nextN s))) c).1).kind), .int .i64 (((drawCall (nextN (nextN (nextN s))) c).1).src), .int .i64 (((drawCall (nextN (nextN (nextN s))) c).1).dst), .int .i64 (((drawCall (nextN (nextN (nextN s))) c).1).car), .int .i64 (((drawCall (nextN (nextN (nextN s))) c).1).state), .int .i64 (((drawCall (nextN (nextN (nextN s))) c).1).owner), .int .i64 (((drawCall (nextN (nextN (nextN s))) c).1).born), .int .i64 0, .int .i64 0, .int .i64 0, .int .i64 0, .int .i64 0] (by first | rfl | (simp only [spl]; rfl)) ?_
     refine wN ?_
     refine bN (tN (wKK hK7 ?_))
     refine wSeqK fun KK11 hK11 => ?_
     refine wReg ?_
     refine wLr rfl tymsg_Request 0 rfl [.int .i64 (kindsL.getD (belN s 10) 0), .int .i64 (belN (nextN s) 1000), .int .i64 0, .int .i64 0, .int .u32 0, .int .u64 (keyV now (belN (nextN (nextN s)) 8)), .int .i64 (((drawCall (nextN (nextN (nextN s))) c).1).id), .int .i64 (((drawCall (nextN (nextN (nextN s))) c).1).kind), .int .i64 (((drawCall (nextN (nextN (nextN s))) c).1).src), .int .i64 (((drawCall (nextN (nextN (nextN s))) c).1).dst), .int .i64 (((drawCall (nextN (nextN (nextN s))) c).1).car), .int .i64 (((drawCall (nextN (nextN (nextN s))) c).1).state), .int .i64 (((drawCall (nextN (nextN (nextN s))) c).1).owner), .int .i64 (((drawCall (nextN (nextN (nextN s))) c).1).born), .int .i64 0, .int .i64 0, .int .i64 0, .int .i64 0, .int .i64 0] rfl rfl ?_
     refine wSr rfl tymsg_Request 3 rfl rfl rfl rfl [.int .i64 (kindsL.getD (belN s 10) 0), .int .i64 (belN (nextN s) 1000), .int .i64 0, .int .i64 0, .int .u32 0, .int .u64 (keyV now (belN (nextN (nextN s)) 8)), .int .i64 (((drawCall (nextN (nextN (nextN s))) c).1).id), .int .i64 (((drawCall (nextN (nextN (nextN s))) c).1).kind), .int .i64 (((drawCall (nextN (nextN (nextN s))) c).1).src), .int .i64 (((drawCall (nextN (nextN (nextN s))) c).1).dst), .int .i64 (((drawCall (nextN (nextN (nextN s))) c).1).car), .int .i64 (((drawCall (nextN (nextN (nextN s))) c).1).state), .int .i64 (((drawCall (nextN (nextN (nextN s))) c).1).owner), .int .i64 (((drawCall (nextN (nextN (nextN s))) c).1).born), .int .i64 0, .int .i64 0, .int .i64 0, .int .i64 0, .int .i64 0] (by first | rfl | (simp only [spl]; rfl)) ?_
     refine wN ?_
     refine tN (wKK hK11 ?_)
     refine wRet ?_
     exact wRc tymsg_Request rfl rfl 3 rfl rfl (fun ww H => (by simp only [drawReq, drawOk, kindOf, seqOf, z3, z3l, z3ll, z3llo, z3lr, z3r, z4, z4o, cond_true, cond_false, Bool.not_true, Bool.not_false, Bool.true_and, Bool.and_true, Bool.false_and, Bool.and_false, Bool.true_or, Bool.or_true, Bool.false_or, Bool.or_false]; exact ⟨by first | rfl | trivial, H.out.blk 5 rfl, H.out.off⟩))
   · skip
     have z4o : ((kindsL.getD (belN s 10) 0) != 4) = true := eqq_f z4
     refine wSeqK fun KK12 hK12 => ?_
     refine wReg ?_
     iterate 2 refine p_reqDraw rfl ?_
     refine wN ?_
     refine tN (wKK hK12 ?_)
     refine wCond (E := (kindsL.getD (belN s 10) 0) == 5) rfl (fun z5 => ?_) (fun z5 => ?_)
     · skip
       have z5o : ((kindsL.getD (belN s 10) 0) != 5) = false := eqq_t z5
       refine wSeqK fun KK13 hK13 => ?_
       refine wReg ?_
       iterate 2 refine p_reqDraw rfl ?_
       refine wC (l := [.pointer (some ⟨m, 0, none⟩), .int .i64 now]) Tryz.func24 rfl (by kernel_rfl) (fun wc H => keyDraw m (nextN (nextN s)) now wc (H.out.blk 5 rfl) (nextN_lt (nextN_lt hsl)) (by omega)) rfl rfl rfl rfl ?_
       intro wc H
       rintro er wd ⟨rfl, hb, ho⟩
       have H2 := hp_turn H (i := 5) (cs' := [.int .u64 (nextN (nextN (nextN s)))]) rfl hb ho
       refine ⟨_, rfl, wkAt H2 ?_⟩
       clear H H2
       refine p_reqDraw rfl ?_
       refine wSt rfl tyuint64 0 rfl rfl rfl rfl ?_
       refine wN ?_
       refine tN (wKK hK13 ?_)
       refine wReg ?_
       refine p_reqDraw rfl ?_
       refine wC (l := [.pointer (some ⟨m, 0, none⟩), .int .i64 1, .int .i64 20]) Tryz.func26 rfl (by kernel_rfl) (fun wc H => fromN m (nextN (nextN (nextN s))) 1 20 wc (H.out.blk 5 rfl) (nextN_lt (nextN_lt (nextN_lt hsl))) (by decide) (by decide)) rfl rfl rfl rfl ?_
       intro wc H
       rintro er wd ⟨rfl, hb, ho⟩
       have H2 := hp_turn H (i := 5) (cs' := [.int .u64 (nextN (nextN (nextN (nextN s))))]) rfl hb ho
       refine ⟨_, rfl, wkAt H2 ?_⟩
       clear H H2
       refine p_reqDraw rfl ?_
       refine wSt rfl tyint 0 rfl rfl rfl rfl ?_
       refine wN ?_
       refine bN (tN (wKK hK7 ?_))
       refine wSeqK fun KK14 hK14 => ?_
       refine wReg ?_
       refine wLr rfl tymsg_Request 0 rfl [.int .i64 (kindsL.getD (belN s 10) 0), .int .i64 (belN (nextN s) 1000), .int .i64 0, .int .i64 0, .int .u32 0, .int .u64 (keyV now (belN (nextN (nextN s)) 8)), .int .i64 0, .int .i64 0, .int .i64 0, .int .i64 0, .int .i64 0, .int .i64 0, .int .i64 0, .int .i64 0, .int .i64 (1 + (belN (nextN (nextN (nextN s))) 20 : Int)), .int .i64 0, .int .i64 0, .int .i64 0, .int .i64 0] rfl rfl ?_
       refine wSr rfl tymsg_Request 3 rfl rfl rfl rfl [.int .i64 (kindsL.getD (belN s 10) 0), .int .i64 (belN (nextN s) 1000), .int .i64 0, .int .i64 0, .int .u32 0, .int .u64 (keyV now (belN (nextN (nextN s)) 8)), .int .i64 0, .int .i64 0, .int .i64 0, .int .i64 0, .int .i64 0, .int .i64 0, .int .i64 0, .int .i64 0, .int .i64 (1 + (belN (nextN (nextN (nextN s))) 20 : Int)), .int .i64 0, .int .i64 0, .int .i64 0, .int .i64 0] (by first | rfl | (simp only [spl]; rfl)) ?_
       refine wN ?_
       refine tN (wKK hK14 ?_)
       refine wRet ?_
       exact wRc tymsg_Request rfl rfl 3 rfl rfl (fun ww H => (by simp only [drawReq, drawOk, kindOf, seqOf, z3, z3l, z3ll, z3llo, z3lr, z3r, z4, z4o, z5, z5o, cond_true, cond_false, Bool.not_true, Bool.not_false, Bool.true_and, Bool.and_true, Bool.false_and, Bool.and_false, Bool.true_or, Bool.or_true, Bool.false_or, Bool.or_false]; exact ⟨by first | rfl | trivial, H.out.blk 5 rfl, H.out.off⟩))
     · skip
       have z5o : ((kindsL.getD (belN s 10) 0) != 5) = true := eqq_f z5
       refine wSeqK fun KK15 hK15 => ?_
       refine wReg ?_
       iterate 2 refine p_reqDraw rfl ?_
       refine wN ?_
       refine tN (wKK hK15 ?_)
       refine wCond (E := (kindsL.getD (belN s 10) 0) == 6) rfl (fun z6 => ?_) (fun z6 => ?_)
       · skip
         have z6o : ((kindsL.getD (belN s 10) 0) != 6) = false := eqq_t z6
         refine wReg ?_
         refine p_reqDraw rfl ?_
         refine wC (l := [.pointer (some ⟨m, 0, none⟩), .int .i64 1, .int .i64 20]) Tryz.func26 rfl (by kernel_rfl) (fun wc H => fromN m (nextN (nextN s)) 1 20 wc (H.out.blk 5 rfl) (nextN_lt (nextN_lt hsl)) (by decide) (by decide)) rfl rfl rfl rfl ?_
         intro wc H
         rintro er wd ⟨rfl, hb, ho⟩
         have H2 := hp_turn H (i := 5) (cs' := [.int .u64 (nextN (nextN (nextN s)))]) rfl hb ho
         refine ⟨_, rfl, wkAt H2 ?_⟩
         clear H H2
         refine p_reqDraw rfl ?_
         refine wSt rfl tyint 0 rfl rfl rfl rfl ?_
         refine wN ?_
         refine bN (tN (wKK hK7 ?_))
         refine wSeqK fun KK16 hK16 => ?_
         refine wReg ?_
         refine wLr rfl tymsg_Request 0 rfl [.int .i64 (kindsL.getD (belN s 10) 0), .int .i64 (belN (nextN s) 1000), .int .i64 0, .int .i64 0, .int .u32 0, .int .u64 0, .int .i64 0, .int .i64 0, .int .i64 0, .int .i64 0, .int .i64 0, .int .i64 0, .int .i64 0, .int .i64 0, .int .i64 (1 + (belN (nextN (nextN s)) 20 : Int)), .int .i64 0, .int .i64 0, .int .i64 0, .int .i64 0] rfl rfl ?_
         refine wSr rfl tymsg_Request 3 rfl rfl rfl rfl [.int .i64 (kindsL.getD (belN s 10) 0), .int .i64 (belN (nextN s) 1000), .int .i64 0, .int .i64 0, .int .u32 0, .int .u64 0, .int .i64 0, .int .i64 0, .int .i64 0, .int .i64 0, .int .i64 0, .int .i64 0, .int .i64 0, .int .i64 0, .int .i64 (1 + (belN (nextN (nextN s)) 20 : Int)), .int .i64 0, .int .i64 0, .int .i64 0, .int .i64 0] (by first | rfl | (simp only [spl]; rfl)) ?_
         refine wN ?_
         refine tN (wKK hK16 ?_)
         refine wRet ?_
         exact wRc tymsg_Request rfl rfl 3 rfl rfl (fun ww H => (by simp only [drawReq, drawOk, kindOf, seqOf, z3, z3l, z3ll, z3llo, z3lr, z3r, z4, z4o, z5, z5o, z6, z6o, cond_true, cond_false, Bool.not_true, Bool.not_false, Bool.true_and, Bool.and_true, Bool.false_and, Bool.and_false, Bool.true_or, Bool.or_true, Bool.false_or, Bool.or_false]; exact ⟨by first | rfl | trivial, H.out.blk 5 rfl, H.out.off⟩))
       · skip
         have z6o : ((kindsL.getD (belN s 10) 0) != 6) = true := eqq_f z6
         refine wSeqK fun KK17 hK17 => ?_
         refine wReg ?_
         iterate 2 refine p_reqDraw rfl ?_
         refine wN ?_
         refine tN (wKK hK17 ?_)
         refine wCond (E := (kindsL.getD (belN s 10) 0) == 8) rfl (fun z7 => ?_) (fun z7 => ?_)
         · skip
           have z7o : ((kindsL.getD (belN s 10) 0) != 8) = false := eqq_t z7
           refine wReg ?_
           refine p_reqDraw rfl ?_
           refine wC (l := [.pointer (some ⟨m, 0, none⟩)]) Tryz.func27 rfl (by kernel_rfl) (fun wc H => filterDraw m (nextN (nextN s)) wc (H.out.blk 5 rfl) (nextN_lt (nextN_lt hsl))) rfl rfl rfl rfl ?_
           intro wc H
           rintro er wd ⟨rfl, hb, ho⟩
           have H2 := hp_turn H (i := 5) (cs' := [.int .u64 ((drawFilter (nextN (nextN s))).2)]) rfl hb ho
           refine ⟨_, rfl, wkAt H2 ?_⟩
           clear H H2
           refine p_reqDraw rfl ?_
           refine wSr rfl tymsg_Filter 0 rfl rfl rfl rfl [.int .i64 (kindsL.getD (belN s 10) 0), .int .i64 (belN (nextN s) 1000), .int .i64 0, .int .i64 0, .int .u32 0, .int .u64 0, .int .i64 0, .int .i64 0, .int .i64 0, .int .i64 0, .int .i64 0, .int .i64 0, .int .i64 0, .int .i64 0, .int .i64 0, .int .i64 0, .int .i64 0, .int .i64 (((drawFilter (nextN (nextN s))).1).kind), .int .i64 (((drawFilter (nextN (nextN s))).1).n)] (by first | rfl | (simp only [spl]; rfl)) ?_
           refine wN ?_
           refine bN (tN (wKK hK7 ?_))
           refine wSeqK fun KK18 hK18 => ?_
           refine wReg ?_
           refine wLr rfl tymsg_Request 0 rfl [.int .i64 (kindsL.getD (belN s 10) 0), .int .i64 (belN (nextN s) 1000), .int .i64 0, .int .i64 0, .int .u32 0, .int .u64 0, .int .i64 0, .int .i64 0, .int .i64 0, .int .i64 0, .int .i64 0, .int .i64 0, .int .i64 0, .int .i64 0, .int .i64 0, .int .i64 0, .int .i64 0, .int .i64 (((drawFilter (nextN (nextN s))).1).kind), .int .i64 (((drawFilter (nextN (nextN s))).1).n)] rfl rfl ?_
           refine wSr rfl tymsg_Request 3 rfl rfl rfl rfl [.int .i64 (kindsL.getD (belN s 10) 0), .int .i64 (belN (nextN s) 1000), .int .i64 0, .int .i64 0, .int .u32 0, .int .u64 0, .int .i64 0, .int .i64 0, .int .i64 0, .int .i64 0, .int .i64 0, .int .i64 0, .int .i64 0, .int .i64 0, .int .i64 0, .int .i64 0, .int .i64 0, .int .i64 (((drawFilter (nextN (nextN s))).1).kind), .int .i64 (((drawFilter (nextN (nextN s))).1).n)] (by first | rfl | (simp only [spl]; rfl)) ?_
           refine wN ?_
           refine tN (wKK hK18 ?_)
           refine wRet ?_
           exact wRc tymsg_Request rfl rfl 3 rfl rfl (fun ww H => (by simp only [drawReq, drawOk, kindOf, seqOf, z3, z3l, z3ll, z3llo, z3lr, z3r, z4, z4o, z5, z5o, z6, z6o, z7, z7o, cond_true, cond_false, Bool.not_true, Bool.not_false, Bool.true_and, Bool.and_true, Bool.false_and, Bool.and_false, Bool.true_or, Bool.or_true, Bool.false_or, Bool.or_false]; exact ⟨by first | rfl | trivial, H.out.blk 5 rfl, H.out.off⟩))
         · skip
           have z7o : ((kindsL.getD (belN s 10) 0) != 8) = true := eqq_f z7
           refine wSeqK fun KK19 hK19 => ?_
           refine wReg ?_
           iterate 2 refine p_reqDraw rfl ?_
           refine wN ?_
           refine tN (wKK hK19 ?_)
           refine wCond (E := (kindsL.getD (belN s 10) 0) == 10) rfl (fun z8 => ?_) (fun z8 => ?_)
           · skip
             have z8o : ((kindsL.getD (belN s 10) 0) != 10) = false := eqq_t z8
             refine wSeqK fun KK20 hK20 => ?_
             refine wReg ?_
             iterate 2 refine p_reqDraw rfl ?_
             refine wLd rfl tyint 4 rfl rfl ?_
             refine wC (l := [.pointer (some ⟨m, 0, none⟩), .int .i64 1, .int .i64 c.cars]) Tryz.func26 rfl (by kernel_rfl) (fun wc H => fromOk m (nextN (nextN s)) 1 c.cars wc (H.out.blk 5 rfl) (nextN_lt (nextN_lt hsl)) (by decide) (by omega)) rfl rfl rfl rfl ?_
             intro wc H
             rintro er wd ⟨rfl, hb, ho⟩
             have H2 := hp_turn H (i := 5) (cs' := [.int .u64 (nextN (nextN (nextN s)))]) rfl hb ho
             refine ⟨_, rfl, wkAt H2 ?_⟩
             clear H H2
             refine p_reqDraw rfl ?_
             refine wSt rfl tyint 0 rfl rfl rfl rfl ?_
             refine wN ?_
             refine tN (wKK hK20 ?_)
             refine wReg ?_
             refine p_reqDraw rfl ?_
             refine wC (l := [.pointer (some ⟨m, 0, none⟩)]) Tryz.func28 rfl (by kernel_rfl) (fun wc H => modeDraw m (nextN (nextN (nextN s))) wc (H.out.blk 5 rfl) (nextN_lt (nextN_lt (nextN_lt hsl)))) rfl rfl rfl rfl ?_
             intro wc H
             rintro er wd ⟨rfl, hb, ho⟩
             have H2 := hp_turn H (i := 5) (cs' := [.int .u64 (nextN (nextN (nextN (nextN s))))]) rfl hb ho
             refine ⟨_, rfl, wkAt H2 ?_⟩
             clear H H2
             refine p_reqDraw rfl ?_
             refine wSt rfl tyint 0 rfl rfl rfl rfl ?_
             refine wN ?_
             refine bN (tN (wKK hK7 ?_))
             refine wSeqK fun KK21 hK21 => ?_
             refine wReg ?_
             refine wLr rfl tymsg_Request 0 rfl [.int .i64 (kindsL.getD (belN s 10) 0), .int .i64 (belN (nextN s) 1000), .int .i64 0, .int .i64 0, .int .u32 0, .int .u64 0, .int .i64 0, .int .i64 0, .int .i64 0, .int .i64 0, .int .i64 0, .int .i64 0, .int .i64 0, .int .i64 0, .int .i64 0, .int .i64 (1 + belV (nextN (nextN s)) c.cars), .int .i64 (drawMode (nextN (nextN (nextN s)))), .int .i64 0, .int .i64 0] rfl rfl ?_
             refine wSr rfl tymsg_Request 3 rfl rfl rfl rfl [.int .i64 (kindsL.getD (belN s 10) 0), .int .i64 (belN (nextN s) 1000), .int .i64 0, .int .i64 0, .int .u32 0, .int .u64 0, .int .i64 0, .int .i64 0, .int .i64 0, .int .i64 0, .int .i64 0, .int .i64 0, .int .i64 0, .int .i64 0, .int .i64 0, .int .i64 (1 + belV (nextN (nextN s)) c.cars), .int .i64 (drawMode (nextN (nextN (nextN s)))), .int .i64 0, .int .i64 0] (by first | rfl | (simp only [spl]; rfl)) ?_
             refine wN ?_
             refine tN (wKK hK21 ?_)
             refine wRet ?_
             exact wRc tymsg_Request rfl rfl 3 rfl rfl (fun ww H => (by simp only [drawReq, drawOk, kindOf, seqOf, z3, z3l, z3ll, z3llo, z3lr, z3r, z4, z4o, z5, z5o, z6, z6o, z7, z7o, z8, z8o, cond_true, cond_false, Bool.not_true, Bool.not_false, Bool.true_and, Bool.and_true, Bool.false_and, Bool.and_false, Bool.true_or, Bool.or_true, Bool.false_or, Bool.or_false]; exact ⟨by first | rfl | trivial, H.out.blk 5 rfl, H.out.off⟩))
           · skip
             have z8o : ((kindsL.getD (belN s 10) 0) != 10) = true := eqq_f z8
             refine wSk ?_
             refine bN (tN (wKK hK7 ?_))
             refine wSeqK fun KK22 hK22 => ?_
             refine wReg ?_
             refine wLr rfl tymsg_Request 0 rfl [.int .i64 (kindsL.getD (belN s 10) 0), .int .i64 (belN (nextN s) 1000), .int .i64 0, .int .i64 0, .int .u32 0, .int .u64 0, .int .i64 0, .int .i64 0, .int .i64 0, .int .i64 0, .int .i64 0, .int .i64 0, .int .i64 0, .int .i64 0, .int .i64 0, .int .i64 0, .int .i64 0, .int .i64 0, .int .i64 0] rfl rfl ?_
             refine wSr rfl tymsg_Request 3 rfl rfl rfl rfl [.int .i64 (kindsL.getD (belN s 10) 0), .int .i64 (belN (nextN s) 1000), .int .i64 0, .int .i64 0, .int .u32 0, .int .u64 0, .int .i64 0, .int .i64 0, .int .i64 0, .int .i64 0, .int .i64 0, .int .i64 0, .int .i64 0, .int .i64 0, .int .i64 0, .int .i64 0, .int .i64 0, .int .i64 0, .int .i64 0] (by first | rfl | (simp only [spl]; rfl)) ?_
             refine wN ?_
             refine tN (wKK hK22 ?_)
             refine wRet ?_
             exact wRc tymsg_Request rfl rfl 3 rfl rfl (fun ww H => (by simp only [drawReq, drawOk, kindOf, seqOf, z3, z3l, z3ll, z3llo, z3lr, z3r, z4, z4o, z5, z5o, z6, z6o, z7, z7o, z8, z8o, cond_true, cond_false, Bool.not_true, Bool.not_false, Bool.true_and, Bool.and_true, Bool.false_and, Bool.and_false, Bool.true_or, Bool.or_true, Bool.false_or, Bool.or_false]; exact ⟨by first | rfl | trivial, H.out.blk 5 rfl, H.out.off⟩))
end Go.Proofs.YthflkhalipkdgaaGreat.Mn
