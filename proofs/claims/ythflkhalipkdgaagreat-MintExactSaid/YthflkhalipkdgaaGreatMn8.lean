/- Layer 35: Below of any number. -/
import Derived.Test.YthflkhalipkdgaaGreatProg
import Derived.Below
import Derived.WalkKit
import Derived.KernelRfl
import Derived.RowKit3
import Derived.Deep.LoopGhost
import Derived.Deep.QuietTactic
import Derived.BigQuiet
import Derived.WideLaws
import Derived.Deep.DeepCutAuto
import Derived.Deep.CutBlock
import Derived.Lib.Hide
import Derived.Laws.BitsLemmas
import Derived.Laws.Bits64
import Derived.Laws.BitsAllLaws
import Derived.IntWalk
import Derived.Outline
import Derived.WalkSpells
import Derived.Test.YthflkhalipkdgaaGreatGA
import Derived.Test.YthflkhalipkdgaaGreatMn7
namespace Go.Proofs.YthflkhalipkdgaaGreat.Mn
set_option maxRecDepth 20000
open Go.RowKit Go.Proofs.YthflkhalipkdgaaGreat.Mem Go.Proofs.YthflkhalipkdgaaGreat.Reg Go.Proofs.YthflkhalipkdgaaGreat.Wk Go.Proofs.YthflkhalipkdgaaGreat.Si Go.Proofs.YthflkhalipkdgaaGreat.Ca Go.Proofs.YthflkhalipkdgaaGreat.Ms Go.Proofs.YthflkhalipkdgaaGreat.Fr Go.Proofs.YthflkhalipkdgaaGreat.Bld
set_option linter.unusedVariables false
set_option linter.unusedSimpArgs false

def belR (s : Nat) (n : Int) : Int × Nat := bif decide (n < 1) || decide (2147483648 < n) then (0, s) else (belV s n, nextN s)
def tab_belowBad : Wk.Tab := []
theorem p_belowBad {ops : Array Oper} {rest : List Oper} {o : Oper} {w0 : World} {Q : Exit → Act → World → Prop} {S : List Nat} {R : List Res} {K K' : Wk.Env} {N : Nat} (h : Wk.stp tab_belowBad N ops K o = some K') (n : Wk.Wk N S w0 K' R (wpList Tryz.prog ops Q rest)) : Wk.Wk N S w0 K R (wpList Tryz.prog ops Q (o :: rest)) := Wk.wP (T := tab_belowBad) (by kernel_rfl) h n
set_option maxHeartbeats 16000000 in
set_option maxRecDepth 20000 in
theorem belowBad (m : Nat) (s : Nat) (n : Int) (w : World) (hm : Blk w m #[.int .u64 s] 61) (hsl : s < 18446744073709551616) (hbad : (decide (n < 1) || decide (2147483648 < n)) = true) : Calls Tryz.prog 10 #[.pointer (some ⟨m, 0, none⟩), .int .i64 n] w fun e w' => e = .returned (.int .i64 0) ∧ Blk w' m #[.int .u64 s] 61 ∧ Off [m] w w' := by
 have H := Lib.hid (Hp.start [] w)
 have H := hp_one hm
 clear hm
 refine wStart (args := [.pointer (some ⟨m, 0, none⟩), .int .i64 n]) Tryz.func10 rfl rfl rfl H ?_
 clear H
 show Wk 21 _ _ [(0, .pointer (some ⟨m, 0, none⟩)), (1, .int .i64 n)] _ _
 refine wSeqK fun KK1 hK1 => ?_
 refine wReg ?_
 refine p_belowBad rfl ?_
 refine wN ?_
 refine tN (wKK hK1 ?_)
 refine wSeqK fun KK2 hK2 => ?_
 refine wSeqK fun KK3 hK3 => ?_
 refine wReg ?_
 refine p_belowBad rfl ?_
 refine wE (.bool false) rfl rfl rfl (fun aa ww hs _ => by exact exec_pnil_eql rfl (hs _ _ rfl) rfl Tryz.underlying28) ?_
 iterate 5 refine p_belowBad rfl ?_
 refine wCut 3 [(14, .bool ((decide (n < 1)) || (decide (2147483648 < n)))), (0, .pointer (some ⟨m, 0, none⟩)), (1, .int .i64 n), (4, .int .i64 0)] ?_ ?_
 · intro KK hKK
   rcases Bool.eq_false_or_eq_true (decide (n < 1)) with u1 | u1
   · skip
     refine wB (c := true) 11 rfl u1 ?_
     iterate 2 refine p_belowBad rfl ?_
     refine p_belowBad rfl ?_
     refine wB (c := (decide (n < 1)) || (decide (2147483648 < n))) 14 rfl (by rw [u1]; rfl) ?_
     refine wN (tN ?_)
     exact fun aa ww nn dd hs H => hKK aa ww nn dd (sat_sub ⟨rfl, rfl, rfl, rfl, trivial⟩ hs) H
   · skip
     refine wB (c := false) 11 rfl u1 ?_
     iterate 2 refine p_belowBad rfl ?_
     refine p_belowBad rfl ?_
     refine wB (c := (decide (n < 1)) || (decide (2147483648 < n))) 14 rfl (by rw [u1]; rfl) ?_
     refine wN (tN ?_)
     exact fun aa ww nn dd hs H => hKK aa ww nn dd (sat_sub ⟨rfl, rfl, rfl, rfl, trivial⟩ hs) H
 refine wB 14 rfl hbad ?_
 refine wN ?_
 refine tN (wKK hK3 ?_)
 refine wCt rfl ?_
 refine wSeqK fun KK4 hK4 => ?_
 refine wReg ?_
 refine p_belowBad rfl ?_
 refine wN ?_
 refine tN (wKK hK4 ?_)
 refine wRet ?_
 refine tR ?_
 exact wR1 rfl rfl (fun ww H => ⟨rfl, H.out.blk 0 rfl, H.out.off⟩)
theorem belowC (m s : Nat) (n : Int) (w : World) (hm : Blk w m #[.int .u64 s] 61) (hsl : s < 18446744073709551616) : Calls Tryz.prog 10 #[.pointer (some ⟨m, 0, none⟩), .int .i64 n] w fun e w' => e = .returned (.int .i64 (belR s n).1) ∧ Blk w' m #[.int .u64 ((belR s n).2)] 61 ∧ Off [m] w w' := by
  unfold belR
  cases h : (decide (n < 1) || decide (2147483648 < n)) with
  | true => exact belowBad m s n w hm hsl h
  | false =>
    have h1 := Bool.or_eq_false_iff.1 h
    have h2 := of_decide_eq_false h1.1
    have h3 := of_decide_eq_false h1.2
    exact belowOk m s n w hm hsl (by omega)
end Go.Proofs.YthflkhalipkdgaaGreat.Mn
