/- Layer 35: tokens; what is asked on a line. -/
import Derived.Test.YthflkhalipkdgaaGreatProg
import Derived.Below
import Derived.WalkKit
import Derived.KernelRfl
import Derived.RowKit3
import Derived.Deep.LoopGhost
import Derived.Deep.QuietTactic
import Derived.BigQuiet
import Derived.WideLaws
import Derived.Deep.DeepCutAuto
import Derived.Deep.CutBlock
import Derived.Lib.Hide
import Derived.Laws.BitsLemmas
import Derived.Laws.Bits64
import Derived.Laws.BitsAllLaws
import Derived.IntWalk
import Derived.Outline
import Derived.WalkSpells
import Derived.Test.YthflkhalipkdgaaGreatGA
import Derived.Test.YthflkhalipkdgaaGreatMn2
import Derived.Test.YthflkhalipkdgaaGreatBdO
import Derived.Test.YthflkhalipkdgaaGreatGF
namespace Go.Proofs.YthflkhalipkdgaaGreat.Mn
set_option maxRecDepth 20000
open Go.RowKit Go.Proofs.YthflkhalipkdgaaGreat.Mem Go.Proofs.YthflkhalipkdgaaGreat.Reg Go.Proofs.YthflkhalipkdgaaGreat.Wk Go.Proofs.YthflkhalipkdgaaGreat.Si Go.Proofs.YthflkhalipkdgaaGreat.Ca Go.Proofs.YthflkhalipkdgaaGreat.Ms Go.Proofs.YthflkhalipkdgaaGreat.Fr Go.Proofs.YthflkhalipkdgaaGreat.Bld
set_option linter.unusedVariables false
set_option linter.unusedSimpArgs false

structure EvV where
  kind : Int
  n : Int
  data : ByteArray
def moreV (s b : Int) : Int := IntKind.u32.wrap (bits BinOp.xor IntKind.u32 s (IntKind.u32.wrap b) * 16777619)
def wordV (s w : Int) : Int := moreV (moreV (moreV (moreV s (IntKind.u8.wrap (w / 16777216))) (IntKind.u8.wrap (w / 65536))) (IntKind.u8.wrap (w / 256))) (IntKind.u8.wrap (w / 1))
def tokV (secret who role : Int) : Int := moreV (wordV (wordV 2166136261 secret) (IntKind.u32.wrap who)) (IntKind.u8.wrap role)
def helloV (c : Cfg) (who role : Int) : ReqV := ⟨1, 0, who, role, tokV c.secret who role, 0, ⟨0, 0, 0, 0, 0, 0, 0, 0⟩, 0, 0, 0, ⟨0, 0⟩⟩
def reqRow (q : ReqV) : List Value := [.int .i64 q.kind, .int .i64 q.seq, .int .i64 q.who, .int .i64 q.role, .int .u32 q.token, .int .u64 q.key, .int .i64 q.call.id, .int .i64 q.call.kind, .int .i64 q.call.src, .int .i64 q.call.dst, .int .i64 q.call.car, .int .i64 q.call.state, .int .i64 q.call.owner, .int .i64 q.call.born, .int .i64 q.id, .int .i64 q.car, .int .i64 q.mode, .int .i64 q.filter.kind, .int .i64 q.filter.n]
def frOf (q : ReqV) : ByteArray := (Fr.ofV (encodeV q).1).1
def askBytes (qs : List ReqV) : List UInt8 := qs.flatMap fun q => (frOf q).data.toList
def askAll (qs : List ReqV) : Bool := qs.all fun q => !((encodeV q).2 != 0)
def askV (line : Int) (qs : List ReqV) : EvV := bif askAll qs then ⟨2, line, ⟨(askBytes qs).toArray⟩⟩ else ⟨0, 0, ⟨#[]⟩⟩
theorem fr_len (s : ByteArray) : (Fr.ofV s).1.size ≤ 2054 := by
  unfold Fr.ofV
  split
  · rename_i h
    show (Pk.str (Fr.frm (Pk.nums s))).size ≤ 2054
    simp only [Pk.str_size, Fr.frm, Fr.sumL, Fr.le4, List.length_append, Pk.nums_length, Pk.beB_length, List.length_cons, List.length_nil]
    omega
  · decide
theorem ask_next {qs : List ReqV} {i : Nat} {q : ReqV} {l : List UInt8} (h : l = askBytes (qs.take i)) (hq : qs[i]? = some q) : l ++ (Fr.ofV (encodeV q).1).1.data.toList = askBytes (qs.take (i + 1)) := by
  rw [h, List.take_add_one, hq]
  simp [askBytes, frOf]
theorem all_next {qs : List ReqV} {i : Nat} {q : ReqV} (h : askAll (qs.take i) = true) (hq : qs[i]? = some q) (he : ((encodeV q).2 != 0) = false) : askAll (qs.take (i + 1)) = true := by
  rw [List.take_add_one, hq]
  unfold askAll at h ⊢
  rw [List.all_append, h]
  simp [he]
theorem ask_bad {qs : List ReqV} {i : Nat} {q : ReqV} (hq : qs[i]? = some q) (he : ((encodeV q).2 != 0) = true) (line : Int) : askV line qs = ⟨0, 0, ⟨#[]⟩⟩ := by
  have : askAll qs = false := by
    unfold askAll
    rw [List.all_eq_false]
    exact ⟨q, List.mem_of_getElem? hq, by simp [he]⟩
  unfold askV
  rw [this]
  rfl
theorem bd_le {S : List Nat} {w0 w : World} {R : List Res} (H : Hid (Hp S w0 w R)) {b i : Nat} {F : List Nat} {l : List UInt8} (hi : R[i]? = some (rBd b F l)) : b ≤ w.heap.size := by
  have h := H.out.at i hi
  have := H.out.lt _ (List.mem_of_getElem? hi) b h.2.2
  omega
theorem tyuint32 : TyI Tryz.prog 23 1 false [.int .u32 0] := ⟨by kernel_rfl, by kernel_rfl, by kernel_rfl⟩
theorem tyhouse_Event : TyI Tryz.prog 53 3 true [.int .i64 0, .int .i64 0, .string ⟨#[]⟩] := ⟨by kernel_rfl, by kernel_rfl, by kernel_rfl⟩
def tab_moreC : Wk.Tab := []
theorem p_moreC {ops : Array Oper} {rest : List Oper} {o : Oper} {w0 : World} {Q : Exit → Act → World → Prop} {S : List Nat} {R : List Res} {K K' : Wk.Env} {N : Nat} (h : Wk.stp tab_moreC N ops K o = some K') (n : Wk.Wk N S w0 K' R (wpList Tryz.prog ops Q rest)) : Wk.Wk N S w0 K R (wpList Tryz.prog ops Q (o :: rest)) := Wk.wP (T := tab_moreC) (by kernel_rfl) h n
set_option maxHeartbeats 16000000 in
set_option maxRecDepth 20000 in
theorem moreC (s : Int) (b : Int) (w : World) : Calls Tryz.prog 42 #[.int .u32 s, .int .u8 b] w fun e w' => e = .returned (.int .u32 (moreV s b)) ∧ Off [] w w' := by
 have H := Lib.hid (Hp.start [] w)
 refine wStart (args := [.int .u32 s, .int .u8 b]) Tryz.func42 rfl rfl rfl H ?_
 clear H
 show Wk 10 _ _ [(0, .int .u32 s), (1, .int .u8 b)] _ _
 refine wSeqK fun KK1 hK1 => ?_
 refine wReg ?_
 refine p_moreC rfl ?_
 refine wN ?_
 refine tN (wKK hK1 ?_)
 refine wSeqK fun KK2 hK2 => ?_
 refine wReg ?_
 iterate 2 refine p_moreC rfl ?_
 refine wE (.int .u32 (IntKind.u32.wrap b)) rfl rfl rfl (fun aa ww hs _ => by have e6 := hs 6 _ rfl; have g6 := gt_of e6; simp only [execOp]; go_simp <;> first | rfl | omega) ?_
 refine wE (.int .u32 (bits BinOp.xor IntKind.u32 s (IntKind.u32.wrap b))) rfl rfl rfl (fun aa ww hs _ => by have e5 := hs 5 _ rfl; have g5 := gt_of e5; have e7 := hs 7 _ rfl; have g7 := gt_of e7; simp only [execOp]; go_simp <;> first | rfl | omega) ?_
 iterate 2 refine p_moreC rfl ?_
 refine wN ?_
 refine tN (wKK hK2 ?_)
 refine wRet ?_
 exact wR1 rfl rfl (fun ww H => ⟨rfl, H.out.off⟩)
def tab_wordC : Wk.Tab := []
theorem p_wordC {ops : Array Oper} {rest : List Oper} {o : Oper} {w0 : World} {Q : Exit → Act → World → Prop} {S : List Nat} {R : List Res} {K K' : Wk.Env} {N : Nat} (h : Wk.stp tab_wordC N ops K o = some K') (n : Wk.Wk N S w0 K' R (wpList Tryz.prog ops Q rest)) : Wk.Wk N S w0 K R (wpList Tryz.prog ops Q (o :: rest)) := Wk.wP (T := tab_wordC) (by kernel_rfl) h n
set_option maxHeartbeats 16000000 in
set_option maxRecDepth 20000 in
theorem wordC (s : Int) (w_ : Int) (w : World) : Calls Tryz.prog 43 #[.int .u32 s, .int .u32 w_] w fun e w' => e = .returned (.int .u32 (wordV s w_)) ∧ Off [] w w' := by
 have H := Lib.hid (Hp.start [] w)
 refine wStart (args := [.int .u32 s, .int .u32 w_]) Tryz.func43 rfl rfl rfl H ?_
 clear H
 show Wk 19 _ _ [(0, .int .u32 s), (1, .int .u32 w_)] _ _
 refine wSeqK fun KK1 hK1 => ?_
 refine wReg ?_
 refine p_wordC rfl ?_
 refine wN ?_
 refine tN (wKK hK1 ?_)
 refine wSeqK fun KK2 hK2 => ?_
 refine wSeqK fun KK3 hK3 => ?_
 refine wReg ?_
 refine p_wordC rfl ?_
 refine wN ?_
 refine tN (wKK hK3 ?_)
 refine wBlk ?_
 refine wLoopN 6 ?_
 refine wRnd ?_
 refine wSeqK fun KK4 hK4 => ?_
 refine wSeqK fun KK5 hK5 => ?_
 refine wReg ?_
 iterate 2 refine p_wordC rfl ?_
 refine wN ?_
 refine tN (wKK hK5 ?_)
 refine wCt rfl ?_
 refine wSk ?_
 refine tN (wKK hK4 ?_)
 refine wSeqK fun KK6 hK6 => ?_
 refine wBlk ?_
 refine wReg ?_
 iterate 4 refine p_wordC rfl ?_
 refine wI 13 rfl (IntWalk.i64_in _ (by omega)) ?_
 refine wE (.int .u64 24) rfl rfl rfl (fun aa ww hs _ => by have e13 := hs 13 _ rfl; have g13 := gt_of e13; simp only [execOp]; go_simp <;> first | rfl | omega) ?_
 refine wE (.int .u32 (w_ / 16777216)) rfl rfl rfl (fun aa ww hs _ => by have e11 := hs 11 _ rfl; have g11 := gt_of e11; have e14 := hs 14 _ rfl; have g14 := gt_of e14; simp only [execOp]; go_simp <;> first | rfl | omega) ?_
 refine wE (.int .u8 (IntKind.u8.wrap (w_ / 16777216))) rfl rfl rfl (fun aa ww hs _ => by have e15 := hs 15 _ rfl; have g15 := gt_of e15; simp only [execOp]; go_simp <;> first | rfl | omega) ?_
 refine wQ (l := [.int .u32 s, .int .u8 (IntKind.u8.wrap (w_ / 16777216))]) Tryz.func42 rfl (by kernel_rfl) (.int .u32 (moreV s (IntKind.u8.wrap (w_ / 16777216)))) (fun wc H => moreC s (IntKind.u8.wrap (w_ / 16777216)) wc) rfl rfl rfl rfl ?_
 refine p_wordC rfl ?_
 refine wN ?_
 refine bN (tN (wKK hK6 ?_))
 refine wReg ?_
 iterate 2 refine p_wordC rfl ?_
 refine wI 9 rfl (IntWalk.i64_in _ (by omega)) ?_
 refine p_wordC rfl ?_
 refine wN ?_
 refine tN ?_
 refine wRnd ?_
 refine wSeqK fun KK7 hK7 => ?_
 refine wSeqK fun KK8 hK8 => ?_
 refine wReg ?_
 iterate 2 refine p_wordC rfl ?_
 refine wN ?_
 refine tN (wKK hK8 ?_)
 refine wCt rfl ?_
 refine wSk ?_
 refine tN (wKK hK7 ?_)
 refine wSeqK fun KK9 hK9 => ?_
 refine wBlk ?_
 refine wReg ?_
 iterate 4 refine p_wordC rfl ?_
 refine wI 13 rfl (IntWalk.i64_in _ (by omega)) ?_
 refine wE (.int .u64 16) rfl rfl rfl (fun aa ww hs _ => by have e13 := hs 13 _ rfl; have g13 := gt_of e13; simp only [execOp]; go_simp <;> first | rfl | omega) ?_
 refine wE (.int .u32 (w_ / 65536)) rfl rfl rfl (fun aa ww hs _ => by have e11 := hs 11 _ rfl; have g11 := gt_of e11; have e14 := hs 14 _ rfl; have g14 := gt_of e14; simp only [execOp]; go_simp <;> first | rfl | omega) ?_
 refine wE (.int .u8 (IntKind.u8.wrap (w_ / 65536))) rfl rfl rfl (fun aa ww hs _ => by have e15 := hs 15 _ rfl; have g15 := gt_of e15; simp only [execOp]; go_simp <;> first | rfl | omega) ?_
 refine wQ (l := [.int .u32 (moreV s (IntKind.u8.wrap (w_ / 16777216))), .int .u8 (IntKind.u8.wrap (w_ / 65536))]) Tryz.func42 rfl (by kernel_rfl) (.int .u32 (moreV (moreV s (IntKind.u8.wrap (w_ / 16777216))) (IntKind.u8.wrap (w_ / 65536)))) (fun wc H => moreC (moreV s (IntKind.u8.wrap (w_ / 16777216))) (IntKind.u8.wrap (w_ / 65536)) wc) rfl rfl rfl rfl ?_
 refine p_wordC rfl ?_
 refine wN ?_
 refine bN (tN (wKK hK9 ?_))
 refine wReg ?_
 iterate 2 refine p_wordC rfl ?_
 refine wI 9 rfl (IntWalk.i64_in _ (by omega)) ?_
 refine p_wordC rfl ?_
 refine wN ?_
 refine tN ?_
 refine wRnd ?_
 refine wSeqK fun KK10 hK10 => ?_
 refine wSeqK fun KK11 hK11 => ?_
 refine wReg ?_
 iterate 2 refine p_wordC rfl ?_
 refine wN ?_
 refine tN (wKK hK11 ?_)
 refine wCt rfl ?_
 refine wSk ?_
 refine tN (wKK hK10 ?_)
 refine wSeqK fun KK12 hK12 => ?_
 refine wBlk ?_
 refine wReg ?_
 iterate 4 refine p_wordC rfl ?_
 refine wI 13 rfl (IntWalk.i64_in _ (by omega)) ?_
 refine wE (.int .u64 8) rfl rfl rfl (fun aa ww hs _ => by have e13 := hs 13 _ rfl; have g13 := gt_of e13; simp only [execOp]; go_simp <;> first | rfl | omega) ?_
 refine wE (.int .u32 (w_ / 256)) rfl rfl rfl (fun aa ww hs _ => by have e11 := hs 11 _ rfl; have g11 := gt_of e11; have e14 := hs 14 _ rfl; have g14 := gt_of e14; simp only [execOp]; go_simp <;> first | rfl | omega) ?_
 refine wE (.int .u8 (IntKind.u8.wrap (w_ / 256))) rfl rfl rfl (fun aa ww hs _ => by have e15 := hs 15 _ rfl; have g15 := gt_of e15; simp only [execOp]; go_simp <;> first | rfl | omega) ?_
 refine wQ (l := [.int .u32 (moreV (moreV s (IntKind.u8.wrap (w_ / 16777216))) (IntKind.u8.wrap (w_ / 65536))), .int .u8 (IntKind.u8.wrap (w_ / 256))]) Tryz.func42 rfl (by kernel_rfl) (.int .u32 (moreV (moreV (moreV s (IntKind.u8.wrap (w_ / 16777216))) (IntKind.u8.wrap (w_ / 65536))) (IntKind.u8.wrap (w_ / 256)))) (fun wc H => moreC (moreV (moreV s (IntKind.u8.wrap (w_ / 16777216))) (IntKind.u8.wrap (w_ / 65536))) (IntKind.u8.wrap (w_ / 256)) wc) rfl rfl rfl rfl ?_
 refine p_wordC rfl ?_
 refine wN ?_
 refine bN (tN (wKK hK12 ?_))
 refine wReg ?_
 iterate 2 refine p_wordC rfl ?_
 refine wI 9 rfl (IntWalk.i64_in _ (by omega)) ?_
 refine p_wordC rfl ?_
 refine wN ?_
 refine tN ?_
 refine wRnd ?_
 refine wSeqK fun KK13 hK13 => ?_
 refine wSeqK fun KK14 hK14 => ?_
 refine wReg ?_
 iterate 2 refine p_wordC rfl ?_
 refine wN ?_
 refine tN (wKK hK14 ?_)
 refine wCt rfl ?_
 refine wSk ?_
 refine tN (wKK hK13 ?_)
 refine wSeqK fun KK15 hK15 => ?_
 refine wBlk ?_
 refine wReg ?_
 iterate 4 refine p_wordC rfl ?_
 refine wI 13 rfl (IntWalk.i64_in _ (by omega)) ?_
 refine wE (.int .u64 0) rfl rfl rfl (fun aa ww hs _ => by have e13 := hs 13 _ rfl; have g13 := gt_of e13; simp only [execOp]; go_simp <;> first | rfl | omega) ?_
 refine wE (.int .u32 (w_ / 1)) rfl rfl rfl (fun aa ww hs _ => by have e11 := hs 11 _ rfl; have g11 := gt_of e11; have e14 := hs 14 _ rfl; have g14 := gt_of e14; simp only [execOp]; go_simp <;> first | rfl | omega) ?_
 refine wE (.int .u8 (IntKind.u8.wrap (w_ / 1))) rfl rfl rfl (fun aa ww hs _ => by have e15 := hs 15 _ rfl; have g15 := gt_of e15; simp only [execOp]; go_simp <;> first | rfl | omega) ?_
 refine wQ (l := [.int .u32 (moreV (moreV (moreV s (IntKind.u8.wrap (w_ / 16777216))) (IntKind.u8.wrap (w_ / 65536))) (IntKind.u8.wrap (w_ / 256))), .int .u8 (IntKind.u8.wrap (w_ / 1))]) Tryz.func42 rfl (by kernel_rfl) (.int .u32 (moreV (moreV (moreV (moreV s (IntKind.u8.wrap (w_ / 16777216))) (IntKind.u8.wrap (w_ / 65536))) (IntKind.u8.wrap (w_ / 256))) (IntKind.u8.wrap (w_ / 1)))) (fun wc H => moreC (moreV (moreV (moreV s (IntKind.u8.wrap (w_ / 16777216))) (IntKind.u8.wrap (w_ / 65536))) (IntKind.u8.wrap (w_ / 256))) (IntKind.u8.wrap (w_ / 1)) wc) rfl rfl rfl rfl ?_
 refine p_wordC rfl ?_
 refine wN ?_
 refine bN (tN (wKK hK15 ?_))
 refine wReg ?_
 iterate 2 refine p_wordC rfl ?_
 refine wI 9 rfl (IntWalk.i64_in _ (by omega)) ?_
 refine p_wordC rfl ?_
 refine wN ?_
 refine tN ?_
 refine wRnd ?_
 refine wSeqK fun KK16 hK16 => ?_
 refine wSeqK fun KK17 hK17 => ?_
 refine wReg ?_
 iterate 2 refine p_wordC rfl ?_
 refine wN ?_
 refine tN (wKK hK17 ?_)
 refine wCf rfl ?_
 refine wEx ?_
 refine tX (tX (bX (tN (wKK hK2 ?_))))
 refine wSeqK fun KK18 hK18 => ?_
 refine wReg ?_
 iterate 2 refine p_wordC rfl ?_
 refine wN ?_
 refine tN (wKK hK18 ?_)
 refine wRet ?_
 exact wR1 rfl rfl (fun ww H => ⟨rfl, H.out.off⟩)
def tab_tokC : Wk.Tab := []
theorem p_tokC {ops : Array Oper} {rest : List Oper} {o : Oper} {w0 : World} {Q : Exit → Act → World → Prop} {S : List Nat} {R : List Res} {K K' : Wk.Env} {N : Nat} (h : Wk.stp tab_tokC N ops K o = some K') (n : Wk.Wk N S w0 K' R (wpList Tryz.prog ops Q rest)) : Wk.Wk N S w0 K R (wpList Tryz.prog ops Q (o :: rest)) := Wk.wP (T := tab_tokC) (by kernel_rfl) h n
set_option maxHeartbeats 16000000 in
set_option maxRecDepth 20000 in
theorem tokC (s : Int) (a : Int) (b : Int) (w : World) : Calls Tryz.prog 33 #[.int .u32 s, .int .i64 a, .int .i64 b] w fun e w' => e = .returned (.int .u32 (tokV s a b)) ∧ Off [] w w' := by
 have H := Lib.hid (Hp.start [] w)
 refine wStart (args := [.int .u32 s, .int .i64 a, .int .i64 b]) Tryz.func33 rfl rfl rfl H ?_
 clear H
 show Wk 15 _ _ [(0, .int .u32 s), (1, .int .i64 a), (2, .int .i64 b)] _ _
 refine wSeqK fun KK1 hK1 => ?_
 refine wReg ?_
 refine p_tokC rfl ?_
 refine wN ?_
 refine tN (wKK hK1 ?_)
 refine wSeqK fun KK2 hK2 => ?_
 refine wReg ?_
 refine p_tokC rfl ?_
 refine wQ (l := [.int .u32 2166136261, .int .u32 s]) Tryz.func43 rfl (by kernel_rfl) (.int .u32 (wordV 2166136261 s)) (fun wc H => wordC 2166136261 s wc) rfl rfl rfl rfl ?_
 refine p_tokC rfl ?_
 refine wE (.int .u32 (IntKind.u32.wrap a)) rfl rfl rfl (fun aa ww hs _ => by have e9 := hs 9 _ rfl; have g9 := gt_of e9; simp only [execOp]; go_simp <;> first | rfl | omega) ?_
 refine wQ (l := [.int .u32 (wordV 2166136261 s), .int .u32 (IntKind.u32.wrap a)]) Tryz.func43 rfl (by kernel_rfl) (.int .u32 (wordV (wordV 2166136261 s) (IntKind.u32.wrap a))) (fun wc H => wordC (wordV 2166136261 s) (IntKind.u32.wrap a) wc) rfl rfl rfl rfl ?_
 refine p_tokC rfl ?_
 refine wE (.int .u8 (IntKind.u8.wrap b)) rfl rfl rfl (fun aa ww hs _ => by have e12 := hs 12 _ rfl; have g12 := gt_of e12; simp only [execOp]; go_simp <;> first | rfl | omega) ?_
 refine wQ (l := [.int .u32 (wordV (wordV 2166136261 s) (IntKind.u32.wrap a)), .int .u8 (IntKind.u8.wrap b)]) Tryz.func42 rfl (by kernel_rfl) (.int .u32 (moreV (wordV (wordV 2166136261 s) (IntKind.u32.wrap a)) (IntKind.u8.wrap b))) (fun wc H => moreC (wordV (wordV 2166136261 s) (IntKind.u32.wrap a)) (IntKind.u8.wrap b) wc) rfl rfl rfl rfl ?_
 refine p_tokC rfl ?_
 refine wN ?_
 refine tN (wKK hK2 ?_)
 refine wRet ?_
 exact wR1 rfl rfl (fun ww H => ⟨rfl, H.out.off⟩)
def tab_helloC : Wk.Tab := [(25, 17, 17)]
theorem p_helloC {ops : Array Oper} {rest : List Oper} {o : Oper} {w0 : World} {Q : Exit → Act → World → Prop} {S : List Nat} {R : List Res} {K K' : Wk.Env} {N : Nat} (h : Wk.stp tab_helloC N ops K o = some K') (n : Wk.Wk N S w0 K' R (wpList Tryz.prog ops Q rest)) : Wk.Wk N S w0 K R (wpList Tryz.prog ops Q (o :: rest)) := Wk.wP (T := tab_helloC) (by kernel_rfl) h n
set_option maxHeartbeats 16000000 in
set_option maxRecDepth 20000 in
theorem helloC (c : Cfg) (a : Int) (b : Int) (w : World) : Calls Tryz.prog 19 #[.agg (cA c), .int .i64 a, .int .i64 b] w fun e w' => e = .returned (.agg #[.int .i64 ((helloV c a b).kind), .int .i64 ((helloV c a b).seq), .int .i64 ((helloV c a b).who), .int .i64 ((helloV c a b).role), .int .u32 ((helloV c a b).token), .int .u64 ((helloV c a b).key), .int .i64 (((helloV c a b).call).id), .int .i64 (((helloV c a b).call).kind), .int .i64 (((helloV c a b).call).src), .int .i64 (((helloV c a b).call).dst), .int .i64 (((helloV c a b).call).car), .int .i64 (((helloV c a b).call).state), .int .i64 (((helloV c a b).call).owner), .int .i64 (((helloV c a b).call).born), .int .i64 ((helloV c a b).id), .int .i64 ((helloV c a b).car), .int .i64 ((helloV c a b).mode), .int .i64 (((helloV c a b).filter).kind), .int .i64 (((helloV c a b).filter).n)]) ∧ Off [] w w' := by
 have H := Lib.hid (Hp.start [] w)
 refine wStart (args := [.agg (cA c), .int .i64 a, .int .i64 b]) Tryz.func19 rfl rfl rfl H ?_
 clear H
 show Wk 15 _ _ [(0, .agg (cA c)), (1, .int .i64 a), (2, .int .i64 b)] _ _
 refine wSeqK fun KK1 hK1 => ?_
 refine wReg ?_
 refine wBx rfl rfl rfl fun b3 => ?_
 refine wAl rfl rfl tymsg_Request fun b6 => ?_
 refine wN ?_
 refine tN (wKK hK1 ?_)
 refine wSeqK fun KK2 hK2 => ?_
 refine wReg ?_
 iterate 3 refine p_helloC rfl ?_
 refine wLd rfl tyuint32 1 rfl rfl ?_
 iterate 2 refine p_helloC rfl ?_
 refine wQ (l := [.int .u32 c.secret, .int .i64 a, .int .i64 b]) Tryz.func33 rfl (by kernel_rfl) (.int .u32 (tokV c.secret a b)) (fun wc H => tokC c.secret a b wc) rfl rfl rfl rfl ?_
 refine wE (.agg #[.int .i64 1, .int .i64 0, .int .i64 a, .int .i64 b, .int .u32 (tokV c.secret a b), .int .u64 0, .int .i64 0, .int .i64 0, .int .i64 0, .int .i64 0, .int .i64 0, .int .i64 0, .int .i64 0, .int .i64 0, .int .i64 0, .int .i64 0, .int .i64 0, .int .i64 0, .int .i64 0]) rfl rfl rfl (fun aa ww hs _ => by have e7 := hs 7 _ rfl; have g7 := gt_of e7; have e8 := hs 8 _ rfl; have g8 := gt_of e8; have e13 := hs 13 _ rfl; have g13 := gt_of e13; simp only [execOp]; go_simp <;> first | rfl | omega) ?_
 refine wSr rfl tymsg_Request 0 rfl rfl rfl rfl [.int .i64 1, .int .i64 0, .int .i64 a, .int .i64 b, .int .u32 (tokV c.secret a b), .int .u64 0, .int .i64 0, .int .i64 0, .int .i64 0, .int .i64 0, .int .i64 0, .int .i64 0, .int .i64 0, .int .i64 0, .int .i64 0, .int .i64 0, .int .i64 0, .int .i64 0, .int .i64 0] (by first | rfl | (simp only [spl]; rfl)) ?_
 refine wN ?_
 refine tN (wKK hK2 ?_)
 refine wRet ?_
 exact wRc tymsg_Request rfl rfl 0 rfl rfl (fun ww H => ⟨rfl, H.out.off⟩)
def tab_askC : Wk.Tab := []
theorem p_askC {ops : Array Oper} {rest : List Oper} {o : Oper} {w0 : World} {Q : Exit → Act → World → Prop} {S : List Nat} {R : List Res} {K K' : Wk.Env} {N : Nat} (h : Wk.stp tab_askC N ops K o = some K') (n : Wk.Wk N S w0 K' R (wpList Tryz.prog ops Q rest)) : Wk.Wk N S w0 K R (wpList Tryz.prog ops Q (o :: rest)) := Wk.wP (T := tab_askC) (by kernel_rfl) h n
set_option maxHeartbeats 16000000 in
set_option maxRecDepth 20000 in
theorem askC (line : Int) (a : Option Addr) (c : Nat) (qs : List ReqV) (w : World) (h1 : (rS a c 19 (qs.map reqRow)).holds w) (hqs : Hid (∀ q ∈ qs, okReq q)) (hqn : qs.length ≤ 1000) : Calls Tryz.prog 20 #[.int .i64 line, .slice a qs.length c] w fun e w' => e = .returned (.agg #[.int .i64 ((askV line qs).kind), .int .i64 ((askV line qs).n), .string ((askV line qs).data)]) ∧ Off [] w w' := by
 have H := Lib.hid (Hp.start [] w)
 have H := hp_old H h1 (by decide)
 clear h1
 refine wStart (args := [.int .i64 line, .slice a qs.length c]) Tryz.func20 rfl rfl rfl H ?_
 clear H
 show Wk 37 _ _ [(0, .int .i64 line), (1, .slice a qs.length c)] _ _
 refine wSeqK fun KK1 hK1 => ?_
 refine wReg ?_
 refine wAl rfl rfl tyhouse_Event fun b4 => ?_
 refine wN ?_
 refine tN (wKK hK1 ?_)
 refine wSeqK fun KK2 hK2 => ?_
 refine wReg ?_
 refine wAlB rfl rfl rfl rfl fun b5 F5 hb5 hB5 => ?_
 refine wN ?_
 refine tN (wKK hK2 ?_)
 refine wSeqK fun KK3 hK3 => ?_
 refine wSeqK fun KK4 hK4 => ?_
 refine wReg ?_
 refine p_askC rfl ?_
 refine wE (.int .i64 qs.length) rfl rfl rfl (fun aa ww hs _ => by have e12 := hs 12 _ rfl; have g12 := gt_of e12; simp only [execOp]; go_simp <;> first | rfl | omega) ?_
 refine p_askC rfl ?_
 refine wN ?_
 refine tN (wKK hK4 ?_)
 refine wBlk ?_
 refine wLoop (fun ab wv => ∃ i : Nat, ∃ F : List Nat, ∃ l : List UInt8, (i ≤ qs.length) ∧ (Hid (l = askBytes (qs.take i))) ∧ (l.length ≤ 2054 * i) ∧ (Hid (askAll (qs.take i) = true)) ∧ ab.tmps.size = 37 ∧ ab.defers = [] ∧ Sat [(0, .int .i64 line), (1, .slice a qs.length c), (4, .pointer (some ⟨b4, 0, none⟩)), (5, .pointer (some ⟨b5, 0, none⟩)), (12, .slice a qs.length c), (13, .int .i64 qs.length), (14, .int .i64 i)] ab ∧ Hid (Hp [] w wv [rBd b5 F l, rB b4 53 [.int .i64 0, .int .i64 0, .string (⟨#[]⟩ : ByteArray)], rS a c 19 (qs.map reqRow)])) (fun ab _ => qs.length - (intOf (ab.eval (.tmp 14))).toNat) (fun aa ww nn dd hs H => ⟨0, F5, [], (Nat.zero_le _), (Lib.hid rfl), (Nat.zero_le _), (Lib.hid rfl), nn, dd, (sat_sub ⟨rfl, rfl, rfl, rfl, rfl, rfl, rfl, trivial⟩ hs), H⟩) ?_
 rintro a1 wv ⟨i, F, l, hi, hl, hll, ha, nn, dd, hs, H⟩
 have mu1_14 := hs 14 _ rfl
 refine wIn nn dd hs H ?_
 clear nn dd hs H
 refine wSeqK fun KK5 hK5 => ?_
 refine wReg ?_
 refine p_askC rfl ?_
 refine wB (c := decide (i < qs.length)) 15 rfl (by simp) ?_
 refine wN ?_
 refine tN (wKK hK5 ?_)
 refine wSeqK fun KK6 hK6 => ?_
 refine wCond (E := decide (i < qs.length)) rfl (fun z1 => ?_) (fun z1 => ?_)
 · skip
   have z1d : i < qs.length := of_decide_eq_true z1
   intro aa ww nn dd hs H
   obtain ⟨y, rfl⟩ := some_of_row (i := i) (hp_held H (show rS a _ 19 (qs.map reqRow) ∈ _ by (repeat (first | exact List.Mem.head _ | apply List.Mem.tail)))) (by simp; omega)
   obtain ⟨q, hq⟩ : ∃ q, qs[i]? = some q := ⟨qs[i], List.getElem?_eq_getElem (by omega)⟩
   have HRq := Lib.hid (show (qs.map reqRow)[i]? = some [.int .i64 q.kind, .int .i64 q.seq, .int .i64 q.who, .int .i64 q.role, .int .u32 q.token, .int .u64 q.key, .int .i64 q.call.id, .int .i64 q.call.kind, .int .i64 q.call.src, .int .i64 q.call.dst, .int .i64 q.call.car, .int .i64 q.call.state, .int .i64 q.call.owner, .int .i64 q.call.born, .int .i64 q.id, .int .i64 q.car, .int .i64 q.mode, .int .i64 q.filter.kind, .int .i64 q.filter.n] by rw [List.getElem?_map, hq]; rfl)
   have HXq := Lib.hid hq
   have hok := Lib.hid (hqs.out q (List.mem_of_getElem? hq))
   clear hq
   refine wIn nn dd hs H ?_
   refine wSk ?_
   refine tN (wKK hK6 ?_)
   refine wSeqK fun KK7 hK7 => ?_
   refine wBlk ?_
   refine wSeqK fun KK8 hK8 => ?_
   refine wReg ?_
   refine wE (.pointer (some (y.add (i * 19)))) rfl rfl rfl (fun aa ww hs _ => by have e12 := hs 12 _ rfl; have g12 := gt_of e12; have e14 := hs 14 _ rfl; have g14 := gt_of e14; simp only [execOp]; go_simp <;> first | rfl | omega) ?_
   refine wX 17 (.agg #[.int .i64 q.kind, .int .i64 q.seq, .int .i64 q.who, .int .i64 q.role, .int .u32 q.token, .int .u64 q.key, .int .i64 q.call.id, .int .i64 q.call.kind, .int .i64 q.call.src, .int .i64 q.call.dst, .int .i64 q.call.car, .int .i64 q.call.state, .int .i64 q.call.owner, .int .i64 q.call.born, .int .i64 q.id, .int .i64 q.car, .int .i64 q.mode, .int .i64 q.filter.kind, .int .i64 q.filter.n]) rfl (fun aa ww KK hs H _ hk => hpS_load tymsg_Request H (y := y) rfl (hs _ _ rfl) (wnt_ok hs rfl) (by (repeat (first | exact List.Mem.head _ | apply List.Mem.tail))) HRq.out rfl hk) ?_
   refine wAl rfl rfl tymsg_Request fun b7 => ?_
   refine wSr rfl tymsg_Request 0 rfl rfl rfl rfl [.int .i64 q.kind, .int .i64 q.seq, .int .i64 q.who, .int .i64 q.role, .int .u32 q.token, .int .u64 q.key, .int .i64 q.call.id, .int .i64 q.call.kind, .int .i64 q.call.src, .int .i64 q.call.dst, .int .i64 q.call.car, .int .i64 q.call.state, .int .i64 q.call.owner, .int .i64 q.call.born, .int .i64 q.id, .int .i64 q.car, .int .i64 q.mode, .int .i64 q.filter.kind, .int .i64 q.filter.n] (by first | rfl | (simp only [spl]; rfl)) ?_
   refine wN ?_
   refine tN (wKK hK8 ?_)
   refine wSeqK fun KK9 hK9 => ?_
   refine wReg ?_
   refine wLr rfl tymsg_Request 0 rfl [.int .i64 q.kind, .int .i64 q.seq, .int .i64 q.who, .int .i64 q.role, .int .u32 q.token, .int .u64 q.key, .int .i64 q.call.id, .int .i64 q.call.kind, .int .i64 q.call.src, .int .i64 q.call.dst, .int .i64 q.call.car, .int .i64 q.call.state, .int .i64 q.call.owner, .int .i64 q.call.born, .int .i64 q.id, .int .i64 q.car, .int .i64 q.mode, .int .i64 q.filter.kind, .int .i64 q.filter.n] rfl rfl ?_
   refine wQ (l := [.agg #[.int .i64 q.kind, .int .i64 q.seq, .int .i64 q.who, .int .i64 q.role, .int .u32 q.token, .int .u64 q.key, .int .i64 q.call.id, .int .i64 q.call.kind, .int .i64 q.call.src, .int .i64 q.call.dst, .int .i64 q.call.car, .int .i64 q.call.state, .int .i64 q.call.owner, .int .i64 q.call.born, .int .i64 q.id, .int .i64 q.car, .int .i64 q.mode, .int .i64 q.filter.kind, .int .i64 q.filter.n]]) Tryz.func34 rfl (by kernel_rfl) (.tuple #[.string ((encodeV q).1), .int .i64 ((encodeV q).2)]) (fun wc H => encodeC q hok wc) rfl rfl rfl rfl ?_
   iterate 5 refine p_askC rfl ?_
   refine wN ?_
   refine tN (wKK hK9 ?_)
   refine wSeqK fun KK10 hK10 => ?_
   refine wReg ?_
   refine p_askC rfl ?_
   refine wQ (l := [.string ((encodeV q).1)]) Tryz.func35 rfl (by kernel_rfl) (.tuple #[.string ((ofV ((encodeV q).1)).1), .int .i64 ((ofV ((encodeV q).1)).2)]) (fun wc H => frameOf ((encodeV q).1) wc) rfl rfl rfl rfl ?_
   iterate 5 refine p_askC rfl ?_
   refine wN ?_
   refine tN (wKK hK10 ?_)
   refine wSeqK fun KK11 hK11 => ?_
   refine wSeqK fun KK12 hK12 => ?_
   refine wReg ?_
   iterate 2 refine p_askC rfl ?_
   refine wN ?_
   refine tN (wKK hK12 ?_)
   refine wCond (E := ((encodeV q).2) != 0) rfl (fun z2 => ?_) (fun z2 => ?_)
   · skip
     have z2o : (((encodeV q).2) == 0) = false := neq_t z2
     refine wSeqK fun KK13 hK13 => ?_
     refine wReg ?_
     refine wE (.agg #[.int .i64 0, .int .i64 0, .string (⟨#[]⟩ : ByteArray)]) rfl rfl rfl (fun aa ww hs _ => by simp only [execOp]; go_simp <;> first | rfl | omega) ?_
     refine wSr rfl tyhouse_Event 2 rfl rfl rfl rfl [.int .i64 0, .int .i64 0, .string (⟨#[]⟩ : ByteArray)] (by first | rfl | (simp only [spl]; rfl)) ?_
     refine wN ?_
     refine tN (wKK hK13 ?_)
     refine wRet ?_
     refine tR (bR (tR (tR (bR (tR ?_)))))
     exact wRc tyhouse_Event rfl rfl 2 rfl rfl (fun ww H => ⟨by rw [ask_bad HXq.out z2] <;> rfl, H.out.off⟩)
   · skip
     have z2o : (((encodeV q).2) == 0) = true := neq_f z2
     refine wSk ?_
     refine tN (wKK hK11 ?_)
     refine wReg ?_
     refine p_askC rfl ?_
     refine wC (l := [.pointer (some ⟨b5, 0, none⟩), .string ((ofV ((encodeV q).1)).1)]) Tryz.func36 rfl (by kernel_rfl) (fun wc H => writeStr b5 F l ((ofV ((encodeV q).1)).1) wc (H.out.at 1 rfl) (by have := fr_len (encodeV q).1; omega) (bd_le H (i := 1) rfl)) rfl rfl rfl rfl ?_
     intro wc H
     rintro er wd ⟨rfl, hbd, hbl⟩
     obtain ⟨F9_1, H2⟩ := hp_bd (hp_sel [2, 3] H (by decide) rfl) hb5 hbl hB5 hbd
     refine ⟨_, rfl, wkAt H2 ?_⟩
     clear H H2
     refine wN ?_
     refine bN (tN (wKK hK7 ?_))
     refine wReg ?_
     refine p_askC rfl ?_
     refine wI 33 rfl (IntWalk.i64_in _ (by omega)) ?_
     refine p_askC rfl ?_
     refine wN ?_
     refine tN ?_
     intro aa ww nn dd hs H
     have hl2 := ask_next hl.out HXq.out
     have ha2 := all_next ha.out HXq.out z2
     have hfl := fr_len (encodeV q).1
     refine ⟨⟨i + 1, F9_1, (l ++ ((ofV ((encodeV q).1)).1).data.toList), (by omega), (Lib.hid hl2), (by rw [List.length_append, show (Fr.ofV (encodeV q).1).1.data.toList.length = (Fr.ofV (encodeV q).1).1.size from by simp]; omega), (Lib.hid ha2), nn, dd, (sat_sub ⟨rfl, rfl, rfl, rfl, rfl, rfl, rfl, trivial⟩ hs), H⟩, ?_⟩
     have m14 := hs 14 _ rfl
     simp only [mu1_14, m14, intOf]
     omega
 · skip
   have z1d : ¬ (i < qs.length) := of_decide_eq_false z1
   refine wEx ?_
   refine tX (tX (bX (tN (wKK hK3 ?_))))
   refine wSeqK fun KK14 hK14 => ?_
   refine wReg ?_
   refine p_askC rfl ?_
   refine wC (l := [.pointer (some ⟨b5, 0, none⟩)]) Tryz.func37 rfl (by kernel_rfl) (fun wc H => strOf b5 F l wc (H.out.at 0 rfl) (bd_le H (i := 0) rfl)) rfl rfl rfl rfl ?_
   intro wc H
   rintro er wd ⟨rfl, hbl⟩
   have H2 := hp_below (hp_sel [1, 2] H (by decide) rfl) hb5 hbl hB5
   refine ⟨_, rfl, wkAt H2 ?_⟩
   clear H H2
   refine wE (.agg #[.int .i64 2, .int .i64 line, .string (⟨l.toArray⟩ : ByteArray)]) rfl rfl rfl (fun aa ww hs _ => by have e34 := hs 34 _ rfl; have g34 := gt_of e34; have e35 := hs 35 _ rfl; have g35 := gt_of e35; simp only [execOp]; go_simp <;> first | rfl | omega) ?_
   refine wSr rfl tyhouse_Event 0 rfl rfl rfl rfl [.int .i64 2, .int .i64 line, .string (⟨l.toArray⟩ : ByteArray)] (by first | rfl | (simp only [spl]; rfl)) ?_
   refine wN ?_
   refine tN (wKK hK14 ?_)
   refine wRet ?_
   exact wRc tyhouse_Event rfl rfl 0 rfl rfl (fun ww H => ⟨by have e1 := hl.out; have e2 := ha.out; rw [List.take_of_length_le (by omega)] at e1 e2; unfold askV; rw [e2, e1]; rfl, H.out.off⟩)
end Go.Proofs.YthflkhalipkdgaaGreat.Mn
