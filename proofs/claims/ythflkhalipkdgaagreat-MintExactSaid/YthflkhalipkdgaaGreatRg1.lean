/- Layer 14: the reference: sizes, what can be. -/
import Derived.Test.YthflkhalipkdgaaGreatProg
import Derived.Below
import Derived.WalkKit
import Derived.KernelRfl
import Derived.RowKit3
import Derived.Deep.LoopGhost
import Derived.Deep.QuietTactic
import Derived.BigQuiet
import Derived.WideLaws
import Derived.Deep.DeepCutAuto
import Derived.Deep.CutBlock
import Derived.Lib.Hide
import Derived.Laws.BitsLemmas
import Derived.Laws.Bits64
import Derived.Laws.BitsAllLaws
import Derived.IntWalk
import Derived.Outline
import Derived.WalkSpells
import Derived.Test.YthflkhalipkdgaaGreatGA
import Derived.Test.YthflkhalipkdgaaGreatWk
import Derived.Test.YthflkhalipkdgaaGreatEn
namespace Go.Proofs.YthflkhalipkdgaaGreat.Ms
set_option maxRecDepth 20000
open Go.RowKit Go.Proofs.YthflkhalipkdgaaGreat.Mem Go.Proofs.YthflkhalipkdgaaGreat.Pk Go.Proofs.YthflkhalipkdgaaGreat.Ca Go.Proofs.YthflkhalipkdgaaGreat.Reg Go.Proofs.YthflkhalipkdgaaGreat.Wk
set_option linter.unusedVariables false
set_option linter.unusedSimpArgs false

def sizeL (k : Int) : List Int :=
  bif k == 1 then [1, 4, 4, 1, 4, 0, 0, 0, 0, 0, 0, 0, 0, 0, 0, 0]
  else bif k == 2 then [1, 4, 4, 0, 4, 0, 0, 0, 0, 0, 0, 0, 0, 0, 0, 0]
  else bif k == 3 then [1, 4, 0, 0, 0, 0, 0, 0, 0, 0, 0, 0, 0, 0, 0, 0]
  else bif k == 7 then [1, 4, 0, 0, 0, 0, 0, 0, 0, 0, 0, 0, 0, 0, 0, 0]
  else bif k == 9 then [1, 4, 0, 0, 0, 0, 0, 0, 0, 0, 0, 0, 0, 0, 0, 0]
  else bif k == 4 then [1, 4, 0, 0, 0, 4, 4, 1, 1, 1, 1, 0, 0, 0, 0, 0]
  else bif k == 5 then [1, 4, 0, 0, 0, 4, 4, 0, 0, 0, 0, 4, 0, 0, 0, 0]
  else bif k == 6 then [1, 4, 0, 0, 0, 0, 0, 0, 0, 0, 0, 4, 0, 0, 0, 0]
  else bif k == 8 then [1, 4, 0, 0, 0, 0, 0, 0, 0, 0, 0, 0, 0, 0, 1, 4]
  else bif k == 10 then [1, 4, 0, 0, 0, 0, 0, 0, 0, 0, 0, 0, 1, 1, 0, 0]
  else [1, 4, 0, 0, 0, 0, 0, 0, 0, 0, 0, 0, 0, 0, 0, 0]
def sizeIs (k : Int) : Bool :=
  bif k == 1 then true else bif k == 2 then true else bif k == 3 then true else bif k == 7 then true else bif k == 9 then true
  else bif k == 4 then true else bif k == 5 then true else bif k == 6 then true else bif k == 8 then true else bif k == 10 then true else false
theorem get16 (r : List Int) {i : Nat} (hi : i < 16) : ([.int .i64 (r.getD 0 0), .int .i64 (r.getD 1 0), .int .i64 (r.getD 2 0), .int .i64 (r.getD 3 0), .int .i64 (r.getD 4 0), .int .i64 (r.getD 5 0), .int .i64 (r.getD 6 0), .int .i64 (r.getD 7 0), .int .i64 (r.getD 8 0), .int .i64 (r.getD 9 0), .int .i64 (r.getD 10 0), .int .i64 (r.getD 11 0), .int .i64 (r.getD 12 0), .int .i64 (r.getD 13 0), .int .i64 (r.getD 14 0), .int .i64 (r.getD 15 0)] : List Value)[i]? = some (.int .i64 (r.getD i 0)) := by
  have : i = 0 ∨ i = 1 ∨ i = 2 ∨ i = 3 ∨ i = 4 ∨ i = 5 ∨ i = 6 ∨ i = 7 ∨ i = 8 ∨ i = 9 ∨ i = 10 ∨ i = 11 ∨ i = 12 ∨ i = 13 ∨ i = 14 ∨ i = 15 := by omega
  rcases this with rfl | rfl | rfl | rfl | rfl | rfl | rfl | rfl | rfl | rfl | rfl | rfl | rfl | rfl | rfl | rfl <;> rfl
def okR (s r : Int) : Bool := (s != 0 || r == 0) && ((s != 1 || (decide (0 ≤ r) && decide (r ≤ 255))) && (s != 4 || (decide (0 ≤ r) && decide (r ≤ 4294967295))))
theorem okN0 {s r : Int} (h : (s == 0) = true) (h2 : (r != 0) = true) : okR s r = false := by
  simp at h h2
  simp [okR, h, h2]
theorem okN1 {s r : Int} (h : (s == 1) = true) (h2 : decide (r < 0) = true ∨ decide (255 < r) = true) : okR s r = false := by
  simp at h h2
  simp [okR, h]
  omega
theorem okN4 {s r : Int} (h : (s == 4) = true) (h2 : decide (r < 0) = true ∨ decide (4294967295 < r) = true) : okR s r = false := by
  simp at h h2
  simp [okR, h]
  omega
theorem okY0 {s r : Int} (h : (s == 0) = true) (h2 : (r != 0) = false) : okR s r = true := by
  simp at h h2
  simp [okR, h, h2]
theorem okY1 {s r : Int} (h : (s == 1) = true) (h2 : decide (r < 0) = false) (h3 : decide (255 < r) = false) : okR s r = true := by
  simp at h h2 h3
  simp [okR, h]
  omega
theorem okY4 {s r : Int} (h : (s == 4) = true) (h2 : decide (r < 0) = false) (h3 : decide (4294967295 < r) = false) : okR s r = true := by
  simp at h h2 h3
  simp [okR, h]
  omega
theorem okYn {s r : Int} (h : (s == 0) = false) (h2 : (s == 1) = false) (h3 : (s == 4) = false) : okR s r = true := by
  simp at h h2 h3
  simp [okR, h, h2, h3]
theorem ne1 {s : Int} (h : (s == 0) = true) : (s == 1) = false := by simp at h; simp [h]
theorem ne4 {s : Int} (h : (s == 0) = true) : (s == 4) = false := by simp at h; simp [h]
theorem ne41 {s : Int} (h : (s == 1) = true) : (s == 4) = false := by simp at h; simp [h]
def szR (r : List Int) (k : Nat) : Int := (sizeL (r.getD 0 0)).getD k 0
def okTo (r : List Int) : Nat → Bool
  | 0 => true
  | k + 1 => okTo r k && okR (szR r (k + 2)) (r.getD (k + 2) 0)
def headR (r : List Int) : Bool := ((!(sizeIs (r.getD 0 0))) || decide (r.getD 1 0 < 0)) || decide (1073741824 < r.getD 1 0)
def whoR (r : List Int) : Bool := (decide (0 < szR r 2) && (decide (r.getD 2 0 < 1) || decide (1073741824 < r.getD 2 0))) || decide (1073741824 < r.getD 11 0)
def filR (r : List Int) : Bool := ((r.getD 14 0 == 0) && (r.getD 15 0 == 0)) || (((decide (0 < r.getD 14 0) && decide (r.getD 14 0 < 4)) && decide (0 < r.getD 15 0)) && decide (r.getD 15 0 ≤ 1073741824))
def goodR (r : List Int) : Bool := bif headR r then false else bif okTo r 14 then (bif whoR r then false else filR r) else false
theorem okTo_le {r : List Int} : ∀ {n k : Nat}, k ≤ n → okTo r n = true → okTo r k = true
  | 0, k, hk, h => by (obtain rfl : k = 0 := by omega); exact h
  | n + 1, k, hk, h => by
    rcases Nat.lt_or_ge k (n + 1) with h1 | h1
    · unfold okTo at h
      simp only [Bool.and_eq_true] at h
      exact okTo_le (by omega) h.1
    · obtain rfl : k = n + 1 := by omega
      exact h
theorem okTo_not {r : List Int} {k : Nat} (h2 : 2 ≤ k) (hk : k < 16) (h : okR (szR r k) (r.getD k 0) = false) : okTo r 14 = false := by
  cases e : okTo r 14 with
  | false => rfl
  | true =>
    have h1 := okTo_le (k := k - 2 + 1) (by omega) e
    unfold okTo at h1
    rw [show k - 2 + 2 = k by omega, h] at h1
    simp at h1
theorem okTo_next {r : List Int} {k : Nat} (h2 : 2 ≤ k) (h : okTo r (k - 2) = true) (h1 : okR (szR r k) (r.getD k 0) = true) : okTo r (k + 1 - 2) = true := by
  rw [show k + 1 - 2 = k - 2 + 1 by omega]
  unfold okTo
  rw [show k - 2 + 2 = k by omega, h, h1]
  rfl
theorem ty_16_int : TyI Tryz.prog 36 16 true [.int .i64 0, .int .i64 0, .int .i64 0, .int .i64 0, .int .i64 0, .int .i64 0, .int .i64 0, .int .i64 0, .int .i64 0, .int .i64 0, .int .i64 0, .int .i64 0, .int .i64 0, .int .i64 0, .int .i64 0, .int .i64 0] := ⟨by kernel_rfl, by kernel_rfl, by kernel_rfl⟩
theorem tyhoistwayref14_Request : TyI Tryz.prog 37 16 true [.int .i64 0, .int .i64 0, .int .i64 0, .int .i64 0, .int .i64 0, .int .i64 0, .int .i64 0, .int .i64 0, .int .i64 0, .int .i64 0, .int .i64 0, .int .i64 0, .int .i64 0, .int .i64 0, .int .i64 0, .int .i64 0] := ⟨by kernel_rfl, by kernel_rfl, by kernel_rfl⟩
theorem tystring : TyI Tryz.prog 9 1 false [.string ⟨#[]⟩] := ⟨by kernel_rfl, by kernel_rfl, by kernel_rfl⟩
def tab_sizesC : Wk.Tab := []
theorem p_sizesC {ops : Array Oper} {rest : List Oper} {o : Oper} {w0 : World} {Q : Exit → Act → World → Prop} {S : List Nat} {R : List Res} {K K' : Wk.Env} {N : Nat} (h : Wk.stp tab_sizesC N ops K o = some K') (n : Wk.Wk N S w0 K' R (wpList Tryz.prog ops Q rest)) : Wk.Wk N S w0 K R (wpList Tryz.prog ops Q (o :: rest)) := Wk.wP (T := tab_sizesC) (by kernel_rfl) h n
set_option maxHeartbeats 16000000 in
set_option maxRecDepth 20000 in
theorem sizesC (k : Int) (w : World) : Calls Tryz.prog 69 #[.int .i64 k] w fun e w' => e = .returned (.tuple #[.agg #[.int .i64 ((sizeL k).getD 0 0), .int .i64 ((sizeL k).getD 1 0), .int .i64 ((sizeL k).getD 2 0), .int .i64 ((sizeL k).getD 3 0), .int .i64 ((sizeL k).getD 4 0), .int .i64 ((sizeL k).getD 5 0), .int .i64 ((sizeL k).getD 6 0), .int .i64 ((sizeL k).getD 7 0), .int .i64 ((sizeL k).getD 8 0), .int .i64 ((sizeL k).getD 9 0), .int .i64 ((sizeL k).getD 10 0), .int .i64 ((sizeL k).getD 11 0), .int .i64 ((sizeL k).getD 12 0), .int .i64 ((sizeL k).getD 13 0), .int .i64 ((sizeL k).getD 14 0), .int .i64 ((sizeL k).getD 15 0)], .bool (sizeIs k)]) ∧ Off [] w w' := by
 have H := Lib.hid (Hp.start [] w)
 refine wStart (args := [.int .i64 k]) Tryz.func69 rfl rfl rfl H ?_
 clear H
 show Wk 48 _ _ [(0, .int .i64 k)] _ _
 refine wSeqK fun KK1 hK1 => ?_
 refine wReg ?_
 refine wAl rfl rfl ty_16_int fun b2 => ?_
 refine p_sizesC rfl ?_
 refine wN ?_
 refine tN (wKK hK1 ?_)
 refine wSeqK fun KK2 hK2 => ?_
 refine wReg ?_
 refine wE (.agg #[.int .i64 0, .int .i64 0, .int .i64 0, .int .i64 0, .int .i64 0, .int .i64 0, .int .i64 0, .int .i64 0, .int .i64 0, .int .i64 0, .int .i64 0, .int .i64 0, .int .i64 0, .int .i64 0, .int .i64 0, .int .i64 0]) rfl rfl rfl (fun aa ww hs _ => by simp only [execOp]; go_simp <;> omega) ?_
 refine wAl rfl rfl ty_16_int fun b4 => ?_
 refine wSr rfl ty_16_int 0 rfl rfl rfl rfl [.int .i64 0, .int .i64 0, .int .i64 0, .int .i64 0, .int .i64 0, .int .i64 0, .int .i64 0, .int .i64 0, .int .i64 0, .int .i64 0, .int .i64 0, .int .i64 0, .int .i64 0, .int .i64 0, .int .i64 0, .int .i64 0] (by first | rfl | (simp only [spl]; rfl)) ?_
 refine wN ?_
 refine tN (wKK hK2 ?_)
 refine wSeqK fun KK3 hK3 => ?_
 refine wReg ?_
 refine wE (.pointer (some ⟨b4, 0, none⟩)) rfl rfl rfl (fun aa ww hs _ => by have e4 := hs 4 _ rfl; have g4 := gt_of e4; simp only [execOp]; go_simp <;> omega) ?_
 refine wSt rfl tyint 0 rfl rfl rfl rfl ?_
 refine wN ?_
 refine tN (wKK hK3 ?_)
 refine wSeqK fun KK4 hK4 => ?_
 refine wReg ?_
 refine wE (.pointer (some ⟨b4, 1, none⟩)) rfl rfl rfl (fun aa ww hs _ => by have e4 := hs 4 _ rfl; have g4 := gt_of e4; simp only [execOp]; go_simp <;> omega) ?_
 refine wSt rfl tyint 0 rfl rfl rfl rfl ?_
 refine wN ?_
 refine tN (wKK hK4 ?_)
 refine wSeqK fun KK5 hK5 => ?_
 refine wSeqK fun KK6 hK6 => ?_
 refine wReg ?_
 refine p_sizesC rfl ?_
 refine wN ?_
 refine tN (wKK hK6 ?_)
 refine wBlk ?_
 refine wSeqK fun KK7 hK7 => ?_
 refine wReg ?_
 iterate 2 refine p_sizesC rfl ?_
 refine wN ?_
 refine tN (wKK hK7 ?_)
 refine wCond (E := k == 1) rfl (fun z1 => ?_) (fun z1 => ?_)
 · skip
   have z1o : (k != 1) = false := eqq_t z1
   refine wSeqK fun KK8 hK8 => ?_
   refine wReg ?_
   refine wE (.pointer (some ⟨b4, 2, none⟩)) rfl rfl rfl (fun aa ww hs _ => by have e4 := hs 4 _ rfl; have g4 := gt_of e4; simp only [execOp]; go_simp <;> omega) ?_
   refine wSt rfl tyint 0 rfl rfl rfl rfl ?_
   refine wN ?_
   refine tN (wKK hK8 ?_)
   refine wSeqK fun KK9 hK9 => ?_
   refine wReg ?_
   refine wE (.pointer (some ⟨b4, 3, none⟩)) rfl rfl rfl (fun aa ww hs _ => by have e4 := hs 4 _ rfl; have g4 := gt_of e4; simp only [execOp]; go_simp <;> omega) ?_
   refine wSt rfl tyint 0 rfl rfl rfl rfl ?_
   refine wN ?_
   refine tN (wKK hK9 ?_)
   refine wReg ?_
   refine wE (.pointer (some ⟨b4, 4, none⟩)) rfl rfl rfl (fun aa ww hs _ => by have e4 := hs 4 _ rfl; have g4 := gt_of e4; simp only [execOp]; go_simp <;> omega) ?_
   refine wSt rfl tyint 0 rfl rfl rfl rfl ?_
   refine wN ?_
   refine bN (tN (wKK hK5 ?_))
   refine wSeqK fun KK10 hK10 => ?_
   refine wReg ?_
   refine wLr rfl ty_16_int 0 rfl [.int .i64 1, .int .i64 4, .int .i64 4, .int .i64 1, .int .i64 4, .int .i64 0, .int .i64 0, .int .i64 0, .int .i64 0, .int .i64 0, .int .i64 0, .int .i64 0, .int .i64 0, .int .i64 0, .int .i64 0, .int .i64 0] rfl rfl ?_
   refine wSr rfl ty_16_int 1 rfl rfl rfl rfl [.int .i64 1, .int .i64 4, .int .i64 4, .int .i64 1, .int .i64 4, .int .i64 0, .int .i64 0, .int .i64 0, .int .i64 0, .int .i64 0, .int .i64 0, .int .i64 0, .int .i64 0, .int .i64 0, .int .i64 0, .int .i64 0] (by first | rfl | (simp only [spl]; rfl)) ?_
   refine p_sizesC rfl ?_
   refine wN ?_
   refine tN (wKK hK10 ?_)
   refine wRet ?_
   exact wRct ty_16_int rfl rfl rfl 1 rfl rfl (fun ww H => ⟨by simp only [sizeL, sizeIs, z1, z1o, cond_true, cond_false, Bool.not_true, Bool.not_false, Bool.true_and, Bool.and_true, Bool.false_and, Bool.and_false, Bool.true_or, Bool.or_true, Bool.false_or, Bool.or_false]; rfl, H.out.off⟩)
 · skip
   have z1o : (k != 1) = true := eqq_f z1
   refine wSeqK fun KK11 hK11 => ?_
   refine wReg ?_
   iterate 2 refine p_sizesC rfl ?_
   refine wN ?_
   refine tN (wKK hK11 ?_)
   refine wCond (E := k == 2) rfl (fun z2 => ?_) (fun z2 => ?_)
   · skip
     have z2o : (k != 2) = false := eqq_t z2
     refine wSeqK fun KK12 hK12 => ?_
     refine wReg ?_
     refine wE (.pointer (some ⟨b4, 2, none⟩)) rfl rfl rfl (fun aa ww hs _ => by have e4 := hs 4 _ rfl; have g4 := gt_of e4; simp only [execOp]; go_simp <;> omega) ?_
     refine wSt rfl tyint 0 rfl rfl rfl rfl ?_
     refine wN ?_
     refine tN (wKK hK12 ?_)
     refine wReg ?_
     refine wE (.pointer (some ⟨b4, 4, none⟩)) rfl rfl rfl (fun aa ww hs _ => by have e4 := hs 4 _ rfl; have g4 := gt_of e4; simp only [execOp]; go_simp <;> omega) ?_
     refine wSt rfl tyint 0 rfl rfl rfl rfl ?_
     refine wN ?_
     refine bN (tN (wKK hK5 ?_))
     refine wSeqK fun KK13 hK13 => ?_
     refine wReg ?_
     refine wLr rfl ty_16_int 0 rfl [.int .i64 1, .int .i64 4, .int .i64 4, .int .i64 0, .int .i64 4, .int .i64 0, .int .i64 0, .int .i64 0, .int .i64 0, .int .i64 0, .int .i64 0, .int .i64 0, .int .i64 0, .int .i64 0, .int .i64 0, .int .i64 0] rfl rfl ?_
     refine wSr rfl ty_16_int 1 rfl rfl rfl rfl [.int .i64 1, .int .i64 4, .int .i64 4, .int .i64 0, .int .i64 4, .int .i64 0, .int .i64 0, .int .i64 0, .int .i64 0, .int .i64 0, .int .i64 0, .int .i64 0, .int .i64 0, .int .i64 0, .int .i64 0, .int .i64 0] (by first | rfl | (simp only [spl]; rfl)) ?_
     refine p_sizesC rfl ?_
     refine wN ?_
     refine tN (wKK hK13 ?_)
     refine wRet ?_
     exact wRct ty_16_int rfl rfl rfl 1 rfl rfl (fun ww H => ⟨by simp only [sizeL, sizeIs, z1, z1o, z2, z2o, cond_true, cond_false, Bool.not_true, Bool.not_false, Bool.true_and, Bool.and_true, Bool.false_and, Bool.and_false, Bool.true_or, Bool.or_true, Bool.false_or, Bool.or_false]; rfl, H.out.off⟩)
   · skip
     have z2o : (k != 2) = true := eqq_f z2
     refine wSeqK fun KK14 hK14 => ?_
     refine wSeqK fun KK15 hK15 => ?_
     refine wReg ?_
     iterate 2 refine p_sizesC rfl ?_
     refine wN ?_
     refine tN (wKK hK15 ?_)
     refine wCond (E := k == 3) rfl (fun z3 => ?_) (fun z3 => ?_)
     · skip
       have z3o : (k != 3) = false := eqq_t z3
       refine wSk ?_
       refine tN (wKK hK14 ?_)
       refine wCond (E := k == 3) rfl (fun _ => ?_) (fun zz => absurd (z3.symm.trans zz) (by decide))
       refine wSk ?_
       refine bN (tN (wKK hK5 ?_))
       refine wSeqK fun KK16 hK16 => ?_
       refine wReg ?_
       refine wLr rfl ty_16_int 0 rfl [.int .i64 1, .int .i64 4, .int .i64 0, .int .i64 0, .int .i64 0, .int .i64 0, .int .i64 0, .int .i64 0, .int .i64 0, .int .i64 0, .int .i64 0, .int .i64 0, .int .i64 0, .int .i64 0, .int .i64 0, .int .i64 0] rfl rfl ?_
       refine wSr rfl ty_16_int 1 rfl rfl rfl rfl [.int .i64 1, .int .i64 4, .int .i64 0, .int .i64 0, .int .i64 0, .int .i64 0, .int .i64 0, .int .i64 0, .int .i64 0, .int .i64 0, .int .i64 0, .int .i64 0, .int .i64 0, .int .i64 0, .int .i64 0, .int .i64 0] (by first | rfl | (simp only [spl]; rfl)) ?_
       refine p_sizesC rfl ?_
       refine wN ?_
       refine tN (wKK hK16 ?_)
       refine wRet ?_
       exact wRct ty_16_int rfl rfl rfl 1 rfl rfl (fun ww H => ⟨by simp only [sizeL, sizeIs, z1, z1o, z2, z2o, z3, z3o, cond_true, cond_false, Bool.not_true, Bool.not_false, Bool.true_and, Bool.and_true, Bool.false_and, Bool.and_false, Bool.true_or, Bool.or_true, Bool.false_or, Bool.or_false]; rfl, H.out.off⟩)
     · skip
       have z3o : (k != 3) = true := eqq_f z3
       refine wSeqK fun KK17 hK17 => ?_
       refine wReg ?_
       iterate 2 refine p_sizesC rfl ?_
       refine wN ?_
       refine tN (wKK hK17 ?_)
       refine wCond (E := k == 7) rfl (fun z4 => ?_) (fun z4 => ?_)
       · skip
         have z4o : (k != 7) = false := eqq_t z4
         refine wSk ?_
         refine tN (wKK hK14 ?_)
         refine wCond (E := k == 7) rfl (fun _ => ?_) (fun zz => absurd (z4.symm.trans zz) (by decide))
         refine wSk ?_
         refine bN (tN (wKK hK5 ?_))
         refine wSeqK fun KK18 hK18 => ?_
         refine wReg ?_
         refine wLr rfl ty_16_int 0 rfl [.int .i64 1, .int .i64 4, .int .i64 0, .int .i64 0, .int .i64 0, .int .i64 0, .int .i64 0, .int .i64 0, .int .i64 0, .int .i64 0, .int .i64 0, .int .i64 0, .int .i64 0, .int .i64 0, .int .i64 0, .int .i64 0] rfl rfl ?_
         refine wSr rfl ty_16_int 1 rfl rfl rfl rfl [.int .i64 1, .int .i64 4, .int .i64 0, .int .i64 0, .int .i64 0, .int .i64 0, .int .i64 0, .int .i64 0, .int .i64 0, .int .i64 0, .int .i64 0, .int .i64 0, .int .i64 0, .int .i64 0, .int .i64 0, .int .i64 0] (by first | rfl | (simp only [spl]; rfl)) ?_
         refine p_sizesC rfl ?_
         refine wN ?_
         refine tN (wKK hK18 ?_)
         refine wRet ?_
         exact wRct ty_16_int rfl rfl rfl 1 rfl rfl (fun ww H => ⟨by simp only [sizeL, sizeIs, z1, z1o, z2, z2o, z3, z3o, z4, z4o, cond_true, cond_false, Bool.not_true, Bool.not_false, Bool.true_and, Bool.and_true, Bool.false_and, Bool.and_false, Bool.true_or, Bool.or_true, Bool.false_or, Bool.or_false]; rfl, H.out.off⟩)
       · skip
         have z4o : (k != 7) = true := eqq_f z4
         refine wReg ?_
         iterate 2 refine p_sizesC rfl ?_
         refine wN ?_
         refine tN (wKK hK14 ?_)
         refine wCond (E := k == 9) rfl (fun z5 => ?_) (fun z5 => ?_)
         · skip
           have z5o : (k != 9) = false := eqq_t z5
           refine wSk ?_
           refine bN (tN (wKK hK5 ?_))
           refine wSeqK fun KK19 hK19 => ?_
           refine wReg ?_
           refine wLr rfl ty_16_int 0 rfl [.int .i64 1, .int .i64 4, .int .i64 0, .int .i64 0, .int .i64 0, .int .i64 0, .int .i64 0, .int .i64 0, .int .i64 0, .int .i64 0, .int .i64 0, .int .i64 0, .int .i64 0, .int .i64 0, .int .i64 0, .int .i64 0] rfl rfl ?_
           refine wSr rfl ty_16_int 1 rfl rfl rfl rfl [.int .i64 1, .int .i64 4, .int .i64 0, .int .i64 0, .int .i64 0, .int .i64 0, .int .i64 0, .int .i64 0, .int .i64 0, .int .i64 0, .int .i64 0, .int .i64 0, .int .i64 0, .int .i64 0, .int .i64 0, .int .i64 0] (by first | rfl | (simp only [spl]; rfl)) ?_
           refine p_sizesC rfl ?_
           refine wN ?_
           refine tN (wKK hK19 ?_)
           refine wRet ?_
           exact wRct ty_16_int rfl rfl rfl 1 rfl rfl (fun ww H => ⟨by simp only [sizeL, sizeIs, z1, z1o, z2, z2o, z3, z3o, z4, z4o, z5, z5o, cond_true, cond_false, Bool.not_true, Bool.not_false, Bool.true_and, Bool.and_true, Bool.false_and, Bool.and_false, Bool.true_or, Bool.or_true, Bool.false_or, Bool.or_false]; rfl, H.out.off⟩)
         · skip
           have z5o : (k != 9) = true := eqq_f z5
           refine wSeqK fun KK20 hK20 => ?_
           refine wReg ?_
           iterate 2 refine p_sizesC rfl ?_
           refine wN ?_
           refine tN (wKK hK20 ?_)
           refine wCond (E := k == 4) rfl (fun z6 => ?_) (fun z6 => ?_)
           · skip
             have z6o : (k != 4) = false := eqq_t z6
             refine wSeqK fun KK21 hK21 => ?_
             refine wReg ?_
             refine wE (.pointer (some ⟨b4, 5, none⟩)) rfl rfl rfl (fun aa ww hs _ => by have e4 := hs 4 _ rfl; have g4 := gt_of e4; simp only [execOp]; go_simp <;> omega) ?_
             refine wSt rfl tyint 0 rfl rfl rfl rfl ?_
             refine wN ?_
             refine tN (wKK hK21 ?_)
             refine wSeqK fun KK22 hK22 => ?_
             refine wReg ?_
             refine wE (.pointer (some ⟨b4, 6, none⟩)) rfl rfl rfl (fun aa ww hs _ => by have e4 := hs 4 _ rfl; have g4 := gt_of e4; simp only [execOp]; go_simp <;> omega) ?_
             refine wSt rfl tyint 0 rfl rfl rfl rfl ?_
             refine wN ?_
             refine tN (wKK hK22 ?_)
             refine wSeqK fun KK23 hK23 => ?_
             refine wReg ?_
             refine wE (.pointer (some ⟨b4, 7, none⟩)) rfl rfl rfl (fun aa ww hs _ => by have e4 := hs 4 _ rfl; have g4 := gt_of e4; simp only [execOp]; go_simp <;> omega) ?_
             refine wSt rfl tyint 0 rfl rfl rfl rfl ?_
             refine wN ?_
             refine tN (wKK hK23 ?_)
             refine wSeqK fun KK24 hK24 => ?_
             refine wReg ?_
             refine wE (.pointer (some ⟨b4, 8, none⟩)) rfl rfl rfl (fun aa ww hs _ => by have e4 := hs 4 _ rfl; have g4 := gt_of e4; simp only [execOp]; go_simp <;> omega) ?_
             refine wSt rfl tyint 0 rfl rfl rfl rfl ?_
             refine wN ?_
             refine tN (wKK hK24 ?_)
             refine wSeqK fun KK25 hK25 => ?_
             refine wReg ?_
             refine wE (.pointer (some ⟨b4, 9, none⟩)) rfl rfl rfl (fun aa ww hs _ => by have e4 := hs 4 _ rfl; have g4 := gt_of e4; simp only [execOp]; go_simp <;> omega) ?_
             refine wSt rfl tyint 0 rfl rfl rfl rfl ?_
             refine wN ?_
             refine tN (wKK hK25 ?_)
             refine wReg ?_
             refine wE (.pointer (some ⟨b4, 10, none⟩)) rfl rfl rfl (fun aa ww hs _ => by have e4 := hs 4 _ rfl; have g4 := gt_of e4; simp only [execOp]; go_simp <;> omega) ?_
             refine wSt rfl tyint 0 rfl rfl rfl rfl ?_
             refine wN ?_
             refine bN (tN (wKK hK5 ?_))
             refine wSeqK fun KK26 hK26 => ?_
             refine wReg ?_
             refine wLr rfl ty_16_int 0 rfl [.int .i64 1, .int .i64 4, .int .i64 0, .int .i64 0, .int .i64 0, .int .i64 4, .int .i64 4, .int .i64 1, .int .i64 1, .int .i64 1, .int .i64 1, .int .i64 0, .int .i64 0, .int .i64 0, .int .i64 0, .int .i64 0] rfl rfl ?_
             refine wSr rfl ty_16_int 1 rfl rfl rfl rfl [.int .i64 1, .int .i64 4, .int .i64 0, .int .i64 0, .int .i64 0, .int .i64 4, .int .i64 4, .int .i64 1, .int .i64 1, .int .i64 1, .int .i64 1, .int .i64 0, .int .i64 0, .int .i64 0, .int .i64 0, .int .i64 0] (by first | rfl | (simp only [spl]; rfl)) ?_
             refine p_sizesC rfl ?_
             refine wN ?_
             refine tN (wKK hK26 ?_)
             refine wRet ?_
             exact wRct ty_16_int rfl rfl rfl 1 rfl rfl (fun ww H => ⟨by simp only [sizeL, sizeIs, z1, z1o, z2, z2o, z3, z3o, z4, z4o, z5, z5o, z6, z6o, cond_true, cond_false, Bool.not_true, Bool.not_false, Bool.true_and, Bool.and_true, Bool.false_and, Bool.and_false, Bool.true_or, Bool.or_true, Bool.false_or, Bool.or_false]; rfl, H.out.off⟩)
           · skip
             have z6o : (k != 4) = true := eqq_f z6
             refine wSeqK fun KK27 hK27 => ?_
             refine wReg ?_
             iterate 2 refine p_sizesC rfl ?_
             refine wN ?_
             refine tN (wKK hK27 ?_)
             refine wCond (E := k == 5) rfl (fun z7 => ?_) (fun z7 => ?_)
             · skip
               have z7o : (k != 5) = false := eqq_t z7
               refine wSeqK fun KK28 hK28 => ?_
               refine wReg ?_
               refine wE (.pointer (some ⟨b4, 5, none⟩)) rfl rfl rfl (fun aa ww hs _ => by have e4 := hs 4 _ rfl; have g4 := gt_of e4; simp only [execOp]; go_simp <;> omega) ?_
               refine wSt rfl tyint 0 rfl rfl rfl rfl ?_
               refine wN ?_
               refine tN (wKK hK28 ?_)
               refine wSeqK fun KK29 hK29 => ?_
               refine wReg ?_
               refine wE (.pointer (some ⟨b4, 6, none⟩)) rfl rfl rfl (fun aa ww hs _ => by have e4 := hs 4 _ rfl; have g4 := gt_of e4; simp only [execOp]; go_simp <;> omega) ?_
               refine wSt rfl tyint 0 rfl rfl rfl rfl ?_
               refine wN ?_
               refine tN (wKK hK29 ?_)
               refine wReg ?_
               refine wE (.pointer (some ⟨b4, 11, none⟩)) rfl rfl rfl (fun aa ww hs _ => by have e4 := hs 4 _ rfl; have g4 := gt_of e4; simp only [execOp]; go_simp <;> omega) ?_
               refine wSt rfl tyint 0 rfl rfl rfl rfl ?_
               refine wN ?_
               refine bN (tN (wKK hK5 ?_))
               refine wSeqK fun KK30 hK30 => ?_
               refine wReg ?_
               refine wLr rfl ty_16_int 0 rfl [.int .i64 1, .int .i64 4, .int .i64 0, .int .i64 0, .int .i64 0, .int .i64 4, .int .i64 4, .int .i64 0, .int .i64 0, .int .i64 0, .int .i64 0, .int .i64 4, .int .i64 0, .int .i64 0, .int .i64 0, .int .i64 0] rfl rfl ?_
               refine wSr rfl ty_16_int 1 rfl rfl rfl rfl [.int .i64 1, .int .i64 4, .int .i64 0, .int .i64 0, .int .i64 0, .int .i64 4, .int .i64 4, .int .i64 0, .int .i64 0, .int .i64 0, .int .i64 0, .int .i64 4, .int .i64 0, .int .i64 0, .int .i64 0, .int .i64 0] (by first | rfl | (simp only [spl]; rfl)) ?_
               refine p_sizesC rfl ?_
               refine wN ?_
               refine tN (wKK hK30 ?_)
               refine wRet ?_
               exact wRct ty_16_int rfl rfl rfl 1 rfl rfl (fun ww H => ⟨by simp only [sizeL, sizeIs, z1, z1o, z2, z2o, z3, z3o, z4, z4o, z5, z5o, z6, z6o, z7, z7o, cond_true, cond_false, Bool.not_true, Bool.not_false, Bool.true_and, Bool.and_true, Bool.false_and, Bool.and_false, Bool.true_or, Bool.or_true, Bool.false_or, Bool.or_false]; rfl, H.out.off⟩)
             · skip
               have z7o : (k != 5) = true := eqq_f z7
               refine wSeqK fun KK31 hK31 => ?_
               refine wReg ?_
               iterate 2 refine p_sizesC rfl ?_
               refine wN ?_
               refine tN (wKK hK31 ?_)
               refine wCond (E := k == 6) rfl (fun z8 => ?_) (fun z8 => ?_)
               · skip
                 have z8o : (k != 6) = false := eqq_t z8
                 refine wReg ?_
                 refine wE (.pointer (some ⟨b4, 11, none⟩)) rfl rfl rfl (fun aa ww hs _ => by have e4 := hs 4 _ rfl; have g4 := gt_of e4; simp only [execOp]; go_simp <;> omega) ?_
                 refine wSt rfl tyint 0 rfl rfl rfl rfl ?_
                 refine wN ?_
                 refine bN (tN (wKK hK5 ?_))
                 refine wSeqK fun KK32 hK32 => ?_
                 refine wReg ?_
                 refine wLr rfl ty_16_int 0 rfl [.int .i64 1, .int .i64 4, .int .i64 0, .int .i64 0, .int .i64 0, .int .i64 0, .int .i64 0, .int .i64 0, .int .i64 0, .int .i64 0, .int .i64 0, .int .i64 4, .int .i64 0, .int .i64 0, .int .i64 0, .int .i64 0] rfl rfl ?_
                 refine wSr rfl ty_16_int 1 rfl rfl rfl rfl [.int .i64 1, .int .i64 4, .int .i64 0, .int .i64 0, .int .i64 0, .int .i64 0, .int .i64 0, .int .i64 0, .int .i64 0, .int .i64 0, .int .i64 0, .int .i64 4, .int .i64 0, .int .i64 0, .int .i64 0, .int .i64 0] (by first | rfl | (simp only [spl]; rfl)) ?_
                 refine p_sizesC rfl ?_
                 refine wN ?_
                 refine tN (wKK hK32 ?_)
                 refine wRet ?_
                 exact wRct ty_16_int rfl rfl rfl 1 rfl rfl (fun ww H => ⟨by simp only [sizeL, sizeIs, z1, z1o, z2, z2o, z3, z3o, z4, z4o, z5, z5o, z6, z6o, z7, z7o, z8, z8o, cond_true, cond_false, Bool.not_true, Bool.not_false, Bool.true_and, Bool.and_true, Bool.false_and, Bool.and_false, Bool.true_or, Bool.or_true, Bool.false_or, Bool.or_false]; rfl, H.out.off⟩)
               · skip
                 have z8o : (k != 6) = true := eqq_f z8
                 refine wSeqK fun KK33 hK33 => ?_
                 refine wReg ?_
                 iterate 2 refine p_sizesC rfl ?_
                 refine wN ?_
                 refine tN (wKK hK33 ?_)
                 refine wCond (E := k == 8) rfl (fun z9 => ?_) (fun z9 => ?_)
                 · skip
                   have z9o : (k != 8) = false := eqq_t z9
                   refine wSeqK fun KK34 hK34 => ?_
                   refine wReg ?_
                   refine wE (.pointer (some ⟨b4, 14, none⟩)) rfl rfl rfl (fun aa ww hs _ => by have e4 := hs 4 _ rfl; have g4 := gt_of e4; simp only [execOp]; go_simp <;> omega) ?_
                   refine wSt rfl tyint 0 rfl rfl rfl rfl ?_
                   refine wN ?_
                   refine tN (wKK hK34 ?_)
                   refine wReg ?_
                   refine wE (.pointer (some ⟨b4, 15, none⟩)) rfl rfl rfl (fun aa ww hs _ => by have e4 := hs 4 _ rfl; have g4 := gt_of e4; simp only [execOp]; go_simp <;> omega) ?_
                   refine wSt rfl tyint 0 rfl rfl rfl rfl ?_
                   refine wN ?_
                   refine bN (tN (wKK hK5 ?_))
                   refine wSeqK fun KK35 hK35 => ?_
                   refine wReg ?_
                   refine wLr rfl ty_16_int 0 rfl [.int .i64 1, .int .i64 4, .int .i64 0, .int .i64 0, .int .i64 0, .int .i64 0, .int .i64 0, .int .i64 0, .int .i64 0, .int .i64 0, .int .i64 0, .int .i64 0, .int .i64 0, .int .i64 0, .int .i64 1, .int .i64 4] rfl rfl ?_
                   refine wSr rfl ty_16_int 1 rfl rfl rfl rfl [.int .i64 1, .int .i64 4, .int .i64 0, .int .i64 0, .int .i64 0, .int .i64 0, .int .i64 0, .int .i64 0, .int .i64 0, .int .i64 0, .int .i64 0, .int .i64 0, .int .i64 0, .int .i64 0, .int .i64 1, .int .i64 4] (by first | rfl | (simp only [spl]; rfl)) ?_
                   refine p_sizesC rfl ?_
                   refine wN ?_
                   refine tN (wKK hK35 ?_)
                   refine wRet ?_
                   exact wRct ty_16_int rfl rfl rfl 1 rfl rfl (fun ww H => ⟨by simp only [sizeL, sizeIs, z1, z1o, z2, z2o, z3, z3o, z4, z4o, z5, z5o, z6, z6o, z7, z7o, z8, z8o, z9, z9o, cond_true, cond_false, Bool.not_true, Bool.not_false, Bool.true_and, Bool.and_true, Bool.false_and, Bool.and_false, Bool.true_or, Bool.or_true, Bool.false_or, Bool.or_false]; rfl, H.out.off⟩)
                 · skip
                   have z9o : (k != 8) = true := eqq_f z9
                   refine wSeqK fun KK36 hK36 => ?_
                   refine wReg ?_
                   iterate 2 refine p_sizesC rfl ?_
                   refine wN ?_
                   refine tN (wKK hK36 ?_)
                   refine wCond (E := k == 10) rfl (fun z10 => ?_) (fun z10 => ?_)
                   · skip
                     have z10o : (k != 10) = false := eqq_t z10
                     refine wSeqK fun KK37 hK37 => ?_
                     refine wReg ?_
                     refine wE (.pointer (some ⟨b4, 12, none⟩)) rfl rfl rfl (fun aa ww hs _ => by have e4 := hs 4 _ rfl; have g4 := gt_of e4; simp only [execOp]; go_simp <;> omega) ?_
                     refine wSt rfl tyint 0 rfl rfl rfl rfl ?_
                     refine wN ?_
                     refine tN (wKK hK37 ?_)
                     refine wReg ?_
                     refine wE (.pointer (some ⟨b4, 13, none⟩)) rfl rfl rfl (fun aa ww hs _ => by have e4 := hs 4 _ rfl; have g4 := gt_of e4; simp only [execOp]; go_simp <;> omega) ?_
                     refine wSt rfl tyint 0 rfl rfl rfl rfl ?_
                     refine wN ?_
                     refine bN (tN (wKK hK5 ?_))
                     refine wSeqK fun KK38 hK38 => ?_
                     refine wReg ?_
                     refine wLr rfl ty_16_int 0 rfl [.int .i64 1, .int .i64 4, .int .i64 0, .int .i64 0, .int .i64 0, .int .i64 0, .int .i64 0, .int .i64 0, .int .i64 0, .int .i64 0, .int .i64 0, .int .i64 0, .int .i64 1, .int .i64 1, .int .i64 0, .int .i64 0] rfl rfl ?_
                     refine wSr rfl ty_16_int 1 rfl rfl rfl rfl [.int .i64 1, .int .i64 4, .int .i64 0, .int .i64 0, .int .i64 0, .int .i64 0, .int .i64 0, .int .i64 0, .int .i64 0, .int .i64 0, .int .i64 0, .int .i64 0, .int .i64 1, .int .i64 1, .int .i64 0, .int .i64 0] (by first | rfl | (simp only [spl]; rfl)) ?_
                     refine p_sizesC rfl ?_
                     refine wN ?_
                     refine tN (wKK hK38 ?_)
                     refine wRet ?_
                     exact wRct ty_16_int rfl rfl rfl 1 rfl rfl (fun ww H => ⟨by simp only [sizeL, sizeIs, z1, z1o, z2, z2o, z3, z3o, z4, z4o, z5, z5o, z6, z6o, z7, z7o, z8, z8o, z9, z9o, z10, z10o, cond_true, cond_false, Bool.not_true, Bool.not_false, Bool.true_and, Bool.and_true, Bool.false_and, Bool.and_false, Bool.true_or, Bool.or_true, Bool.false_or, Bool.or_false]; rfl, H.out.off⟩)
                   · skip
                     have z10o : (k != 10) = true := eqq_f z10
                     refine wSeqK fun KK39 hK39 => ?_
                     refine wReg ?_
                     refine wLr rfl ty_16_int 0 rfl [.int .i64 1, .int .i64 4, .int .i64 0, .int .i64 0, .int .i64 0, .int .i64 0, .int .i64 0, .int .i64 0, .int .i64 0, .int .i64 0, .int .i64 0, .int .i64 0, .int .i64 0, .int .i64 0, .int .i64 0, .int .i64 0] rfl rfl ?_
                     refine wSr rfl ty_16_int 1 rfl rfl rfl rfl [.int .i64 1, .int .i64 4, .int .i64 0, .int .i64 0, .int .i64 0, .int .i64 0, .int .i64 0, .int .i64 0, .int .i64 0, .int .i64 0, .int .i64 0, .int .i64 0, .int .i64 0, .int .i64 0, .int .i64 0, .int .i64 0] (by first | rfl | (simp only [spl]; rfl)) ?_
                     refine p_sizesC rfl ?_
                     refine wN ?_
                     refine tN (wKK hK39 ?_)
                     refine wRet ?_
                     refine bR (tR ?_)
                     exact wRct ty_16_int rfl rfl rfl 1 rfl rfl (fun ww H => ⟨by simp only [sizeL, sizeIs, z1, z1o, z2, z2o, z3, z3o, z4, z4o, z5, z5o, z6, z6o, z7, z7o, z8, z8o, z9, z9o, z10, z10o, cond_true, cond_false, Bool.not_true, Bool.not_false, Bool.true_and, Bool.and_true, Bool.false_and, Bool.and_false, Bool.true_or, Bool.or_true, Bool.false_or, Bool.or_false]; rfl, H.out.off⟩)
def tab_goodC : Wk.Tab := []
theorem p_goodC {ops : Array Oper} {rest : List Oper} {o : Oper} {w0 : World} {Q : Exit → Act → World → Prop} {S : List Nat} {R : List Res} {K K' : Wk.Env} {N : Nat} (h : Wk.stp tab_goodC N ops K o = some K') (n : Wk.Wk N S w0 K' R (wpList Tryz.prog ops Q rest)) : Wk.Wk N S w0 K R (wpList Tryz.prog ops Q (o :: rest)) := Wk.wP (T := tab_goodC) (by kernel_rfl) h n
set_option maxHeartbeats 16000000 in
set_option maxRecDepth 20000 in
theorem goodC (r : List Int) (w : World) : Calls Tryz.prog 68 #[.agg #[.int .i64 (r.getD 0 0), .int .i64 (r.getD 1 0), .int .i64 (r.getD 2 0), .int .i64 (r.getD 3 0), .int .i64 (r.getD 4 0), .int .i64 (r.getD 5 0), .int .i64 (r.getD 6 0), .int .i64 (r.getD 7 0), .int .i64 (r.getD 8 0), .int .i64 (r.getD 9 0), .int .i64 (r.getD 10 0), .int .i64 (r.getD 11 0), .int .i64 (r.getD 12 0), .int .i64 (r.getD 13 0), .int .i64 (r.getD 14 0), .int .i64 (r.getD 15 0)]] w fun e w' => e = .returned (.bool (goodR r)) ∧ Off [] w w' := by
 have H := Lib.hid (Hp.start [] w)
 refine wStart (args := [.agg #[.int .i64 (r.getD 0 0), .int .i64 (r.getD 1 0), .int .i64 (r.getD 2 0), .int .i64 (r.getD 3 0), .int .i64 (r.getD 4 0), .int .i64 (r.getD 5 0), .int .i64 (r.getD 6 0), .int .i64 (r.getD 7 0), .int .i64 (r.getD 8 0), .int .i64 (r.getD 9 0), .int .i64 (r.getD 10 0), .int .i64 (r.getD 11 0), .int .i64 (r.getD 12 0), .int .i64 (r.getD 13 0), .int .i64 (r.getD 14 0), .int .i64 (r.getD 15 0)]]) Tryz.func68 rfl rfl rfl H ?_
 clear H
 show Wk 120 _ _ [(0, .agg #[.int .i64 (r.getD 0 0), .int .i64 (r.getD 1 0), .int .i64 (r.getD 2 0), .int .i64 (r.getD 3 0), .int .i64 (r.getD 4 0), .int .i64 (r.getD 5 0), .int .i64 (r.getD 6 0), .int .i64 (r.getD 7 0), .int .i64 (r.getD 8 0), .int .i64 (r.getD 9 0), .int .i64 (r.getD 10 0), .int .i64 (r.getD 11 0), .int .i64 (r.getD 12 0), .int .i64 (r.getD 13 0), .int .i64 (r.getD 14 0), .int .i64 (r.getD 15 0)])] _ _
 refine wSeqK fun KK1 hK1 => ?_
 refine wReg ?_
 refine wBx rfl rfl rfl fun b1 => ?_
 refine p_goodC rfl ?_
 refine wN ?_
 refine tN (wKK hK1 ?_)
 refine wSeqK fun KK2 hK2 => ?_
 rcases Bool.eq_false_or_eq_true (sizeIs (r.getD 0 0)) with y1 | y1
 · skip
   rcases Bool.eq_false_or_eq_true (decide (r.getD 1 0 < 0)) with y2 | y2
   · skip
     have y2d : r.getD 1 0 < 0 := of_decide_eq_true y2
     refine wReg ?_
     refine wE (.pointer (some ⟨b1, 0, none⟩)) rfl rfl rfl (fun aa ww hs _ => by have e1 := hs 1 _ rfl; have g1 := gt_of e1; simp only [execOp]; go_simp <;> omega) ?_
     refine wLd rfl tyint 0 rfl rfl ?_
     refine wQ (l := [.int .i64 (r.getD 0 0)]) Tryz.func69 rfl (by kernel_rfl) (.tuple #[.agg #[.int .i64 ((sizeL (r.getD 0 0)).getD 0 0), .int .i64 ((sizeL (r.getD 0 0)).getD 1 0), .int .i64 ((sizeL (r.getD 0 0)).getD 2 0), .int .i64 ((sizeL (r.getD 0 0)).getD 3 0), .int .i64 ((sizeL (r.getD 0 0)).getD 4 0), .int .i64 ((sizeL (r.getD 0 0)).getD 5 0), .int .i64 ((sizeL (r.getD 0 0)).getD 6 0), .int .i64 ((sizeL (r.getD 0 0)).getD 7 0), .int .i64 ((sizeL (r.getD 0 0)).getD 8 0), .int .i64 ((sizeL (r.getD 0 0)).getD 9 0), .int .i64 ((sizeL (r.getD 0 0)).getD 10 0), .int .i64 ((sizeL (r.getD 0 0)).getD 11 0), .int .i64 ((sizeL (r.getD 0 0)).getD 12 0), .int .i64 ((sizeL (r.getD 0 0)).getD 13 0), .int .i64 ((sizeL (r.getD 0 0)).getD 14 0), .int .i64 ((sizeL (r.getD 0 0)).getD 15 0)], .bool true]) (fun wc H => by have h := sizesC (r.getD 0 0) wc; rw [y1] at h; exact h) rfl rfl rfl rfl ?_
     iterate 3 refine p_goodC rfl ?_
     refine wAl rfl rfl ty_16_int fun b3 => ?_
     refine wSr rfl ty_16_int 0 rfl rfl rfl rfl [.int .i64 ((sizeL (r.getD 0 0)).getD 0 0), .int .i64 ((sizeL (r.getD 0 0)).getD 1 0), .int .i64 ((sizeL (r.getD 0 0)).getD 2 0), .int .i64 ((sizeL (r.getD 0 0)).getD 3 0), .int .i64 ((sizeL (r.getD 0 0)).getD 4 0), .int .i64 ((sizeL (r.getD 0 0)).getD 5 0), .int .i64 ((sizeL (r.getD 0 0)).getD 6 0), .int .i64 ((sizeL (r.getD 0 0)).getD 7 0), .int .i64 ((sizeL (r.getD 0 0)).getD 8 0), .int .i64 ((sizeL (r.getD 0 0)).getD 9 0), .int .i64 ((sizeL (r.getD 0 0)).getD 10 0), .int .i64 ((sizeL (r.getD 0 0)).getD 11 0), .int .i64 ((sizeL (r.getD 0 0)).getD 12 0), .int .i64 ((sizeL (r.getD 0 0)).getD 13 0), .int .i64 ((sizeL (r.getD 0 0)).getD 14 0), .int .i64 ((sizeL (r.getD 0 0)).getD 15 0)] (by first | rfl | (simp only [spl]; rfl)) ?_
     refine p_goodC rfl ?_
     refine wN ?_
     refine tN (wKK hK2 ?_)
     refine wSeqK fun KK3 hK3 => ?_
     refine wSeqK fun KK4 hK4 => ?_
     refine wReg ?_
     iterate 3 refine p_goodC rfl ?_
     refine wE (.pointer (some ⟨b1, 1, none⟩)) rfl rfl rfl (fun aa ww hs _ => by have e1 := hs 1 _ rfl; have g1 := gt_of e1; simp only [execOp]; go_simp <;> omega) ?_
     refine wLd rfl tyint 1 rfl rfl ?_
     refine p_goodC rfl ?_
     refine wB 17 rfl y2 ?_
     iterate 6 refine p_goodC rfl ?_
     refine wN ?_
     refine tN (wKK hK4 ?_)
     refine wCt rfl ?_
     refine wSeqK fun KK5 hK5 => ?_
     refine wReg ?_
     refine p_goodC rfl ?_
     refine wN ?_
     refine tN (wKK hK5 ?_)
     refine wRet ?_
     refine tR ?_
     exact wR1 rfl rfl (fun ww H => ⟨by unfold goodR headR; simp only [y1, y2, cond_true, cond_false, Bool.not_true, Bool.not_false, Bool.true_and, Bool.and_true, Bool.false_and, Bool.and_false, Bool.true_or, Bool.or_true, Bool.false_or, Bool.or_false], H.out.off⟩)
   · skip
     have y2d : ¬ ((r.getD 1 0) < 0) := of_decide_eq_false y2
     rcases Bool.eq_false_or_eq_true (decide (1073741824 < r.getD 1 0)) with y3 | y3
     · skip
       have y3d : 1073741824 < r.getD 1 0 := of_decide_eq_true y3
       refine wReg ?_
       refine wE (.pointer (some ⟨b1, 0, none⟩)) rfl rfl rfl (fun aa ww hs _ => by have e1 := hs 1 _ rfl; have g1 := gt_of e1; simp only [execOp]; go_simp <;> omega) ?_
       refine wLd rfl tyint 0 rfl rfl ?_
       refine wQ (l := [.int .i64 (r.getD 0 0)]) Tryz.func69 rfl (by kernel_rfl) (.tuple #[.agg #[.int .i64 ((sizeL (r.getD 0 0)).getD 0 0), .int .i64 ((sizeL (r.getD 0 0)).getD 1 0), .int .i64 ((sizeL (r.getD 0 0)).getD 2 0), .int .i64 ((sizeL (r.getD 0 0)).getD 3 0), .int .i64 ((sizeL (r.getD 0 0)).getD 4 0), .int .i64 ((sizeL (r.getD 0 0)).getD 5 0), .int .i64 ((sizeL (r.getD 0 0)).getD 6 0), .int .i64 ((sizeL (r.getD 0 0)).getD 7 0), .int .i64 ((sizeL (r.getD 0 0)).getD 8 0), .int .i64 ((sizeL (r.getD 0 0)).getD 9 0), .int .i64 ((sizeL (r.getD 0 0)).getD 10 0), .int .i64 ((sizeL (r.getD 0 0)).getD 11 0), .int .i64 ((sizeL (r.getD 0 0)).getD 12 0), .int .i64 ((sizeL (r.getD 0 0)).getD 13 0), .int .i64 ((sizeL (r.getD 0 0)).getD 14 0), .int .i64 ((sizeL (r.getD 0 0)).getD 15 0)], .bool true]) (fun wc H => by have h := sizesC (r.getD 0 0) wc; rw [y1] at h; exact h) rfl rfl rfl rfl ?_
       iterate 3 refine p_goodC rfl ?_
       refine wAl rfl rfl ty_16_int fun b3 => ?_
       refine wSr rfl ty_16_int 0 rfl rfl rfl rfl [.int .i64 ((sizeL (r.getD 0 0)).getD 0 0), .int .i64 ((sizeL (r.getD 0 0)).getD 1 0), .int .i64 ((sizeL (r.getD 0 0)).getD 2 0), .int .i64 ((sizeL (r.getD 0 0)).getD 3 0), .int .i64 ((sizeL (r.getD 0 0)).getD 4 0), .int .i64 ((sizeL (r.getD 0 0)).getD 5 0), .int .i64 ((sizeL (r.getD 0 0)).getD 6 0), .int .i64 ((sizeL (r.getD 0 0)).getD 7 0), .int .i64 ((sizeL (r.getD 0 0)).getD 8 0), .int .i64 ((sizeL (r.getD 0 0)).getD 9 0), .int .i64 ((sizeL (r.getD 0 0)).getD 10 0), .int .i64 ((sizeL (r.getD 0 0)).getD 11 0), .int .i64 ((sizeL (r.getD 0 0)).getD 12 0), .int .i64 ((sizeL (r.getD 0 0)).getD 13 0), .int .i64 ((sizeL (r.getD 0 0)).getD 14 0), .int .i64 ((sizeL (r.getD 0 0)).getD 15 0)] (by first | rfl | (simp only [spl]; rfl)) ?_
       refine p_goodC rfl ?_
       refine wN ?_
       refine tN (wKK hK2 ?_)
       refine wSeqK fun KK6 hK6 => ?_
       refine wSeqK fun KK7 hK7 => ?_
       refine wReg ?_
       iterate 3 refine p_goodC rfl ?_
       refine wE (.pointer (some ⟨b1, 1, none⟩)) rfl rfl rfl (fun aa ww hs _ => by have e1 := hs 1 _ rfl; have g1 := gt_of e1; simp only [execOp]; go_simp <;> omega) ?_
       refine wLd rfl tyint 1 rfl rfl ?_
       refine p_goodC rfl ?_
       refine wB 17 rfl y2 ?_
       iterate 2 refine p_goodC rfl ?_
       refine wE (.pointer (some ⟨b1, 1, none⟩)) rfl rfl rfl (fun aa ww hs _ => by have e1 := hs 1 _ rfl; have g1 := gt_of e1; simp only [execOp]; go_simp <;> omega) ?_
       refine wLd rfl tyint 1 rfl rfl ?_
       refine p_goodC rfl ?_
       refine wB 22 rfl y3 ?_
       refine p_goodC rfl ?_
       refine wN ?_
       refine tN (wKK hK7 ?_)
       refine wCt rfl ?_
       refine wSeqK fun KK8 hK8 => ?_
       refine wReg ?_
       refine p_goodC rfl ?_
       refine wN ?_
       refine tN (wKK hK8 ?_)
       refine wRet ?_
       refine tR ?_
       exact wR1 rfl rfl (fun ww H => ⟨by unfold goodR headR; simp only [y1, y2, y3, cond_true, cond_false, Bool.not_true, Bool.not_false, Bool.true_and, Bool.and_true, Bool.false_and, Bool.and_false, Bool.true_or, Bool.or_true, Bool.false_or, Bool.or_false], H.out.off⟩)
     · skip
       have y3d : ¬ (1073741824 < (r.getD 1 0)) := of_decide_eq_false y3
       refine wReg ?_
       refine wE (.pointer (some ⟨b1, 0, none⟩)) rfl rfl rfl (fun aa ww hs _ => by have e1 := hs 1 _ rfl; have g1 := gt_of e1; simp only [execOp]; go_simp <;> omega) ?_
       refine wLd rfl tyint 0 rfl rfl ?_
       refine wQ (l := [.int .i64 (r.getD 0 0)]) Tryz.func69 rfl (by kernel_rfl) (.tuple #[.agg #[.int .i64 ((sizeL (r.getD 0 0)).getD 0 0), .int .i64 ((sizeL (r.getD 0 0)).getD 1 0), .int .i64 ((sizeL (r.getD 0 0)).getD 2 0), .int .i64 ((sizeL (r.getD 0 0)).getD 3 0), .int .i64 ((sizeL (r.getD 0 0)).getD 4 0), .int .i64 ((sizeL (r.getD 0 0)).getD 5 0), .int .i64 ((sizeL (r.getD 0 0)).getD 6 0), .int .i64 ((sizeL (r.getD 0 0)).getD 7 0), .int .i64 ((sizeL (r.getD 0 0)).getD 8 0), .int .i64 ((sizeL (r.getD 0 0)).getD 9 0), .int .i64 ((sizeL (r.getD 0 0)).getD 10 0), .int .i64 ((sizeL (r.getD 0 0)).getD 11 0), .int .i64 ((sizeL (r.getD 0 0)).getD 12 0), .int .i64 ((sizeL (r.getD 0 0)).getD 13 0), .int .i64 ((sizeL (r.getD 0 0)).getD 14 0), .int .i64 ((sizeL (r.getD 0 0)).getD 15 0)], .bool true]) (fun wc H => by have h := sizesC (r.getD 0 0) wc; rw [y1] at h; exact h) rfl rfl rfl rfl ?_
       iterate 3 refine p_goodC rfl ?_
       refine wAl rfl rfl ty_16_int fun b3 => ?_
       refine wSr rfl ty_16_int 0 rfl rfl rfl rfl [.int .i64 ((sizeL (r.getD 0 0)).getD 0 0), .int .i64 ((sizeL (r.getD 0 0)).getD 1 0), .int .i64 ((sizeL (r.getD 0 0)).getD 2 0), .int .i64 ((sizeL (r.getD 0 0)).getD 3 0), .int .i64 ((sizeL (r.getD 0 0)).getD 4 0), .int .i64 ((sizeL (r.getD 0 0)).getD 5 0), .int .i64 ((sizeL (r.getD 0 0)).getD 6 0), .int .i64 ((sizeL (r.getD 0 0)).getD 7 0), .int .i64 ((sizeL (r.getD 0 0)).getD 8 0), .int .i64 ((sizeL (r.getD 0 0)).getD 9 0), .int .i64 ((sizeL (r.getD 0 0)).getD 10 0), .int .i64 ((sizeL (r.getD 0 0)).getD 11 0), .int .i64 ((sizeL (r.getD 0 0)).getD 12 0), .int .i64 ((sizeL (r.getD 0 0)).getD 13 0), .int .i64 ((sizeL (r.getD 0 0)).getD 14 0), .int .i64 ((sizeL (r.getD 0 0)).getD 15 0)] (by first | rfl | (simp only [spl]; rfl)) ?_
       refine p_goodC rfl ?_
       refine wN ?_
       refine tN (wKK hK2 ?_)
       refine wSeqK fun KK9 hK9 => ?_
       refine wSeqK fun KK10 hK10 => ?_
       refine wReg ?_
       iterate 3 refine p_goodC rfl ?_
       refine wE (.pointer (some ⟨b1, 1, none⟩)) rfl rfl rfl (fun aa ww hs _ => by have e1 := hs 1 _ rfl; have g1 := gt_of e1; simp only [execOp]; go_simp <;> omega) ?_
       refine wLd rfl tyint 1 rfl rfl ?_
       refine p_goodC rfl ?_
       refine wB 17 rfl y2 ?_
       iterate 2 refine p_goodC rfl ?_
       refine wE (.pointer (some ⟨b1, 1, none⟩)) rfl rfl rfl (fun aa ww hs _ => by have e1 := hs 1 _ rfl; have g1 := gt_of e1; simp only [execOp]; go_simp <;> omega) ?_
       refine wLd rfl tyint 1 rfl rfl ?_
       refine p_goodC rfl ?_
       refine wB 22 rfl y3 ?_
       refine p_goodC rfl ?_
       refine wN ?_
       refine tN (wKK hK10 ?_)
       refine wCf rfl ?_
       refine wSk ?_
       refine tN (wKK hK9 ?_)
       refine wSeqK fun KK11 hK11 => ?_
       refine wSeqK fun KK12 hK12 => ?_
       refine wReg ?_
       refine p_goodC rfl ?_
       refine wN ?_
       refine tN (wKK hK12 ?_)
       refine wBlk ?_
       refine wLoop (fun ab wv => ∃ i : Nat, 2 ≤ i ∧ i ≤ 16 ∧ okTo r (i - 2) = true ∧ ab.tmps.size = 120 ∧ ab.defers = [] ∧ Sat [(0, .agg #[.int .i64 (r.getD 0 0), .int .i64 (r.getD 1 0), .int .i64 (r.getD 2 0), .int .i64 (r.getD 3 0), .int .i64 (r.getD 4 0), .int .i64 (r.getD 5 0), .int .i64 (r.getD 6 0), .int .i64 (r.getD 7 0), .int .i64 (r.getD 8 0), .int .i64 (r.getD 9 0), .int .i64 (r.getD 10 0), .int .i64 (r.getD 11 0), .int .i64 (r.getD 12 0), .int .i64 (r.getD 13 0), .int .i64 (r.getD 14 0), .int .i64 (r.getD 15 0)]), (1, .pointer (some ⟨b1, 0, none⟩)), (3, .pointer (some ⟨b3, 0, none⟩)), (4, .bool true), (5, .int .i64 i), (23, .bool false)] ab ∧ Hid (Hp [] w wv [rB b3 36 [.int .i64 ((sizeL (r.getD 0 0)).getD 0 0), .int .i64 ((sizeL (r.getD 0 0)).getD 1 0), .int .i64 ((sizeL (r.getD 0 0)).getD 2 0), .int .i64 ((sizeL (r.getD 0 0)).getD 3 0), .int .i64 ((sizeL (r.getD 0 0)).getD 4 0), .int .i64 ((sizeL (r.getD 0 0)).getD 5 0), .int .i64 ((sizeL (r.getD 0 0)).getD 6 0), .int .i64 ((sizeL (r.getD 0 0)).getD 7 0), .int .i64 ((sizeL (r.getD 0 0)).getD 8 0), .int .i64 ((sizeL (r.getD 0 0)).getD 9 0), .int .i64 ((sizeL (r.getD 0 0)).getD 10 0), .int .i64 ((sizeL (r.getD 0 0)).getD 11 0), .int .i64 ((sizeL (r.getD 0 0)).getD 12 0), .int .i64 ((sizeL (r.getD 0 0)).getD 13 0), .int .i64 ((sizeL (r.getD 0 0)).getD 14 0), .int .i64 ((sizeL (r.getD 0 0)).getD 15 0)], rB b1 37 [.int .i64 (r.getD 0 0), .int .i64 (r.getD 1 0), .int .i64 (r.getD 2 0), .int .i64 (r.getD 3 0), .int .i64 (r.getD 4 0), .int .i64 (r.getD 5 0), .int .i64 (r.getD 6 0), .int .i64 (r.getD 7 0), .int .i64 (r.getD 8 0), .int .i64 (r.getD 9 0), .int .i64 (r.getD 10 0), .int .i64 (r.getD 11 0), .int .i64 (r.getD 12 0), .int .i64 (r.getD 13 0), .int .i64 (r.getD 14 0), .int .i64 (r.getD 15 0)]])) (fun ab _ => 16 - (intOf (ab.eval (.tmp 5))).toNat) (fun aa ww nn dd hs H => ⟨2, (Nat.le_refl _), (by omega), rfl, nn, dd, (sat_sub ⟨rfl, rfl, rfl, rfl, rfl, rfl, trivial⟩ hs), H⟩) ?_
       rintro a1 wv ⟨i, h2i, hi, hok, nn, dd, hs, H⟩
       have mu1_5 := hs 5 _ rfl
       refine wIn nn dd hs H ?_
       clear nn dd hs H
       refine wSeqK fun KK13 hK13 => ?_
       refine wSeqK fun KK14 hK14 => ?_
       refine wReg ?_
       iterate 2 refine p_goodC rfl ?_
       refine wN ?_
       refine tN (wKK hK14 ?_)
       refine wCond (E := decide ((i : Int) < 16)) rfl (fun z4 => ?_) (fun z4 => ?_)
       · skip
         have z4d : (i : Int) < 16 := of_decide_eq_true z4
         refine wSk ?_
         refine tN (wKK hK13 ?_)
         refine wSeqK fun KK15 hK15 => ?_
         refine wBlk ?_
         refine wSeqK fun KK16 hK16 => ?_
         rcases Bool.eq_false_or_eq_true (((sizeL (r.getD 0 0)).getD i 0) == 0) with y5 | y5
         · skip
           have y5o : (((sizeL (r.getD 0 0)).getD i 0) != 0) = false := eqq_t y5
           rcases Bool.eq_false_or_eq_true ((r.getD i 0) != 0) with y6 | y6
           · skip
             have y6o : ((r.getD i 0) == 0) = false := neq_t y6
             intro aa ww nn dd hs H
             have hn1 : (((sizeL (r.getD 0 0)).getD i 0) == 1) = false := ne1 y5
             have hn4 : (((sizeL (r.getD 0 0)).getD i 0) == 4) = false := ne4 y5
             refine wIn nn dd hs H ?_
             refine wReg ?_
             refine p_goodC rfl ?_
             refine wE (.pointer (some ⟨b3, i, none⟩)) rfl rfl rfl (fun aa ww hs _ => by have e3 := hs 3 _ rfl; have g3 := gt_of e3; have e28 := hs 28 _ rfl; have g28 := gt_of e28; simp only [execOp]; go_simp <;> omega) ?_
             refine wX 30 (.int .i64 ((sizeL (r.getD 0 0)).getD i 0)) rfl (fun aa ww KK hs H _ hk => hpA_load1 tyint H rfl (hs _ _ rfl) (wnt_ok hs rfl) (by (repeat (first | exact List.Mem.head _ | apply List.Mem.tail))) (get16 (sizeL (r.getD 0 0)) (by omega)) hk) ?_
             refine p_goodC rfl ?_
             refine wB 31 rfl y5 ?_
             iterate 2 refine p_goodC rfl ?_
             refine wE (.pointer (some ⟨b1, i, none⟩)) rfl rfl rfl (fun aa ww hs _ => by have e1 := hs 1 _ rfl; have g1 := gt_of e1; have e33 := hs 33 _ rfl; have g33 := gt_of e33; simp only [execOp]; go_simp <;> omega) ?_
             refine wX 35 (.int .i64 (r.getD i 0)) rfl (fun aa ww KK hs H _ hk => hpA_load1 tyint H rfl (hs _ _ rfl) (wnt_ok hs rfl) (by (repeat (first | exact List.Mem.head _ | apply List.Mem.tail))) (get16 r (by omega)) hk) ?_
             refine p_goodC rfl ?_
             refine wB 36 rfl y6 ?_
             iterate 37 refine p_goodC rfl ?_
             refine wN ?_
             refine tN (wKK hK16 ?_)
             refine wCt rfl ?_
             refine wSeqK fun KK17 hK17 => ?_
             refine wReg ?_
             refine p_goodC rfl ?_
             refine wN ?_
             refine tN (wKK hK17 ?_)
             refine wRet ?_
             refine bR (tR (tR (bR (tR ?_))))
             exact wR1 rfl rfl (fun ww H => ⟨by unfold goodR; rw [show headR r = false by unfold headR; simp only [y1, y2, y3, cond_true, cond_false, Bool.not_true, Bool.not_false, Bool.true_and, Bool.and_true, Bool.false_and, Bool.and_false, Bool.true_or, Bool.or_true, Bool.false_or, Bool.or_false], okTo_not h2i (by omega) (okN0 y5 y6)]; rfl, H.out.off⟩)
           · skip
             have y6o : ((r.getD i 0) == 0) = true := neq_f y6
             intro aa ww nn dd hs H
             have hn1 : (((sizeL (r.getD 0 0)).getD i 0) == 1) = false := ne1 y5
             have hn4 : (((sizeL (r.getD 0 0)).getD i 0) == 4) = false := ne4 y5
             refine wIn nn dd hs H ?_
             refine wReg ?_
             refine p_goodC rfl ?_
             refine wE (.pointer (some ⟨b3, i, none⟩)) rfl rfl rfl (fun aa ww hs _ => by have e3 := hs 3 _ rfl; have g3 := gt_of e3; have e28 := hs 28 _ rfl; have g28 := gt_of e28; simp only [execOp]; go_simp <;> omega) ?_
             refine wX 30 (.int .i64 ((sizeL (r.getD 0 0)).getD i 0)) rfl (fun aa ww KK hs H _ hk => hpA_load1 tyint H rfl (hs _ _ rfl) (wnt_ok hs rfl) (by (repeat (first | exact List.Mem.head _ | apply List.Mem.tail))) (get16 (sizeL (r.getD 0 0)) (by omega)) hk) ?_
             refine p_goodC rfl ?_
             refine wB 31 rfl y5 ?_
             iterate 2 refine p_goodC rfl ?_
             refine wE (.pointer (some ⟨b1, i, none⟩)) rfl rfl rfl (fun aa ww hs _ => by have e1 := hs 1 _ rfl; have g1 := gt_of e1; have e33 := hs 33 _ rfl; have g33 := gt_of e33; simp only [execOp]; go_simp <;> omega) ?_
             refine wX 35 (.int .i64 (r.getD i 0)) rfl (fun aa ww KK hs H _ hk => hpA_load1 tyint H rfl (hs _ _ rfl) (wnt_ok hs rfl) (by (repeat (first | exact List.Mem.head _ | apply List.Mem.tail))) (get16 r (by omega)) hk) ?_
             refine p_goodC rfl ?_
             refine wB 36 rfl y6 ?_
             iterate 3 refine p_goodC rfl ?_
             refine wE (.pointer (some ⟨b3, i, none⟩)) rfl rfl rfl (fun aa ww hs _ => by have e3 := hs 3 _ rfl; have g3 := gt_of e3; have e39 := hs 39 _ rfl; have g39 := gt_of e39; simp only [execOp]; go_simp <;> omega) ?_
             refine wX 41 (.int .i64 ((sizeL (r.getD 0 0)).getD i 0)) rfl (fun aa ww KK hs H _ hk => hpA_load1 tyint H rfl (hs _ _ rfl) (wnt_ok hs rfl) (by (repeat (first | exact List.Mem.head _ | apply List.Mem.tail))) (get16 (sizeL (r.getD 0 0)) (by omega)) hk) ?_
             refine p_goodC rfl ?_
             refine wB 42 rfl hn1 ?_
             iterate 15 refine p_goodC rfl ?_
             refine wE (.pointer (some ⟨b3, i, none⟩)) rfl rfl rfl (fun aa ww hs _ => by have e3 := hs 3 _ rfl; have g3 := gt_of e3; have e57 := hs 57 _ rfl; have g57 := gt_of e57; simp only [execOp]; go_simp <;> omega) ?_
             refine wX 59 (.int .i64 ((sizeL (r.getD 0 0)).getD i 0)) rfl (fun aa ww KK hs H _ hk => hpA_load1 tyint H rfl (hs _ _ rfl) (wnt_ok hs rfl) (by (repeat (first | exact List.Mem.head _ | apply List.Mem.tail))) (get16 (sizeL (r.getD 0 0)) (by omega)) hk) ?_
             refine p_goodC rfl ?_
             refine wB 60 rfl hn4 ?_
             iterate 13 refine p_goodC rfl ?_
             refine wN ?_
             refine tN (wKK hK16 ?_)
             refine wCf rfl ?_
             refine wSk ?_
             refine bN (tN (wKK hK15 ?_))
             refine wReg ?_
             iterate 2 refine p_goodC rfl ?_
             refine wI 27 rfl (IntWalk.i64_in _ (by omega)) ?_
             refine p_goodC rfl ?_
             refine wN ?_
             refine tN ?_
             intro aa ww nn dd hs H
             refine ⟨⟨i + 1, (by omega), (by omega), (okTo_next h2i hok (okY0 y5 y6)), nn, dd, (sat_sub ⟨rfl, rfl, rfl, rfl, rfl, rfl, trivial⟩ hs), H⟩, ?_⟩
             have m5 := hs 5 _ rfl
             simp only [mu1_5, m5, intOf]
             omega
         · skip
           have y5o : (((sizeL (r.getD 0 0)).getD i 0) != 0) = true := eqq_f y5
           rcases Bool.eq_false_or_eq_true (((sizeL (r.getD 0 0)).getD i 0) == 1) with y7 | y7
           · skip
             have y7o : (((sizeL (r.getD 0 0)).getD i 0) != 1) = false := eqq_t y7
             intro aa ww nn dd hs H
             have hn4 : (((sizeL (r.getD 0 0)).getD i 0) == 4) = false := ne41 y7
             refine wIn nn dd hs H ?_
             rcases Bool.eq_false_or_eq_true (decide (r.getD i 0 < 0)) with y8 | y8
             · skip
               have y8d : r.getD i 0 < 0 := of_decide_eq_true y8
               refine wReg ?_
               refine p_goodC rfl ?_
               refine wE (.pointer (some ⟨b3, i, none⟩)) rfl rfl rfl (fun aa ww hs _ => by have e3 := hs 3 _ rfl; have g3 := gt_of e3; have e28 := hs 28 _ rfl; have g28 := gt_of e28; simp only [execOp]; go_simp <;> omega) ?_
               refine wX 30 (.int .i64 ((sizeL (r.getD 0 0)).getD i 0)) rfl (fun aa ww KK hs H _ hk => hpA_load1 tyint H rfl (hs _ _ rfl) (wnt_ok hs rfl) (by (repeat (first | exact List.Mem.head _ | apply List.Mem.tail))) (get16 (sizeL (r.getD 0 0)) (by omega)) hk) ?_
               refine p_goodC rfl ?_
               refine wB 31 rfl y5 ?_
               iterate 8 refine p_goodC rfl ?_
               refine wE (.pointer (some ⟨b3, i, none⟩)) rfl rfl rfl (fun aa ww hs _ => by have e3 := hs 3 _ rfl; have g3 := gt_of e3; have e39 := hs 39 _ rfl; have g39 := gt_of e39; simp only [execOp]; go_simp <;> omega) ?_
               refine wX 41 (.int .i64 ((sizeL (r.getD 0 0)).getD i 0)) rfl (fun aa ww KK hs H _ hk => hpA_load1 tyint H rfl (hs _ _ rfl) (wnt_ok hs rfl) (by (repeat (first | exact List.Mem.head _ | apply List.Mem.tail))) (get16 (sizeL (r.getD 0 0)) (by omega)) hk) ?_
               refine p_goodC rfl ?_
               refine wB 42 rfl y7 ?_
               iterate 2 refine p_goodC rfl ?_
               refine wE (.pointer (some ⟨b1, i, none⟩)) rfl rfl rfl (fun aa ww hs _ => by have e1 := hs 1 _ rfl; have g1 := gt_of e1; have e44 := hs 44 _ rfl; have g44 := gt_of e44; simp only [execOp]; go_simp <;> omega) ?_
               refine wX 46 (.int .i64 (r.getD i 0)) rfl (fun aa ww KK hs H _ hk => hpA_load1 tyint H rfl (hs _ _ rfl) (wnt_ok hs rfl) (by (repeat (first | exact List.Mem.head _ | apply List.Mem.tail))) (get16 r (by omega)) hk) ?_
               refine p_goodC rfl ?_
               refine wB 47 rfl y8 ?_
               iterate 26 refine p_goodC rfl ?_
               refine wN ?_
               refine tN (wKK hK16 ?_)
               refine wCt rfl ?_
               refine wSeqK fun KK18 hK18 => ?_
               refine wReg ?_
               refine p_goodC rfl ?_
               refine wN ?_
               refine tN (wKK hK18 ?_)
               refine wRet ?_
               refine bR (tR (tR (bR (tR ?_))))
               exact wR1 rfl rfl (fun ww H => ⟨by unfold goodR; rw [show headR r = false by unfold headR; simp only [y1, y2, y3, cond_true, cond_false, Bool.not_true, Bool.not_false, Bool.true_and, Bool.and_true, Bool.false_and, Bool.and_false, Bool.true_or, Bool.or_true, Bool.false_or, Bool.or_false], okTo_not h2i (by omega) (okN1 y7 (.inl y8))]; rfl, H.out.off⟩)
             · skip
               have y8d : ¬ ((r.getD i 0) < 0) := of_decide_eq_false y8
               rcases Bool.eq_false_or_eq_true (decide (255 < r.getD i 0)) with y9 | y9
               · skip
                 have y9d : 255 < r.getD i 0 := of_decide_eq_true y9
                 refine wReg ?_
                 refine p_goodC rfl ?_
                 refine wE (.pointer (some ⟨b3, i, none⟩)) rfl rfl rfl (fun aa ww hs _ => by have e3 := hs 3 _ rfl; have g3 := gt_of e3; have e28 := hs 28 _ rfl; have g28 := gt_of e28; simp only [execOp]; go_simp <;> omega) ?_
                 refine wX 30 (.int .i64 ((sizeL (r.getD 0 0)).getD i 0)) rfl (fun aa ww KK hs H _ hk => hpA_load1 tyint H rfl (hs _ _ rfl) (wnt_ok hs rfl) (by (repeat (first | exact List.Mem.head _ | apply List.Mem.tail))) (get16 (sizeL (r.getD 0 0)) (by omega)) hk) ?_
                 refine p_goodC rfl ?_
                 refine wB 31 rfl y5 ?_
                 iterate 8 refine p_goodC rfl ?_
                 refine wE (.pointer (some ⟨b3, i, none⟩)) rfl rfl rfl (fun aa ww hs _ => by have e3 := hs 3 _ rfl; have g3 := gt_of e3; have e39 := hs 39 _ rfl; have g39 := gt_of e39; simp only [execOp]; go_simp <;> omega) ?_
                 refine wX 41 (.int .i64 ((sizeL (r.getD 0 0)).getD i 0)) rfl (fun aa ww KK hs H _ hk => hpA_load1 tyint H rfl (hs _ _ rfl) (wnt_ok hs rfl) (by (repeat (first | exact List.Mem.head _ | apply List.Mem.tail))) (get16 (sizeL (r.getD 0 0)) (by omega)) hk) ?_
                 refine p_goodC rfl ?_
                 refine wB 42 rfl y7 ?_
                 iterate 2 refine p_goodC rfl ?_
                 refine wE (.pointer (some ⟨b1, i, none⟩)) rfl rfl rfl (fun aa ww hs _ => by have e1 := hs 1 _ rfl; have g1 := gt_of e1; have e44 := hs 44 _ rfl; have g44 := gt_of e44; simp only [execOp]; go_simp <;> omega) ?_
                 refine wX 46 (.int .i64 (r.getD i 0)) rfl (fun aa ww KK hs H _ hk => hpA_load1 tyint H rfl (hs _ _ rfl) (wnt_ok hs rfl) (by (repeat (first | exact List.Mem.head _ | apply List.Mem.tail))) (get16 r (by omega)) hk) ?_
                 refine p_goodC rfl ?_
                 refine wB 47 rfl y8 ?_
                 iterate 2 refine p_goodC rfl ?_
                 refine wE (.pointer (some ⟨b1, i, none⟩)) rfl rfl rfl (fun aa ww hs _ => by have e1 := hs 1 _ rfl; have g1 := gt_of e1; have e49 := hs 49 _ rfl; have g49 := gt_of e49; simp only [execOp]; go_simp <;> omega) ?_
                 refine wX 51 (.int .i64 (r.getD i 0)) rfl (fun aa ww KK hs H _ hk => hpA_load1 tyint H rfl (hs _ _ rfl) (wnt_ok hs rfl) (by (repeat (first | exact List.Mem.head _ | apply List.Mem.tail))) (get16 r (by omega)) hk) ?_
                 refine p_goodC rfl ?_
                 refine wB 52 rfl y9 ?_
                 iterate 21 refine p_goodC rfl ?_
                 refine wN ?_
                 refine tN (wKK hK16 ?_)
                 refine wCt rfl ?_
                 refine wSeqK fun KK19 hK19 => ?_
                 refine wReg ?_
                 refine p_goodC rfl ?_
                 refine wN ?_
                 refine tN (wKK hK19 ?_)
                 refine wRet ?_
                 refine bR (tR (tR (bR (tR ?_))))
                 exact wR1 rfl rfl (fun ww H => ⟨by unfold goodR; rw [show headR r = false by unfold headR; simp only [y1, y2, y3, cond_true, cond_false, Bool.not_true, Bool.not_false, Bool.true_and, Bool.and_true, Bool.false_and, Bool.and_false, Bool.true_or, Bool.or_true, Bool.false_or, Bool.or_false], okTo_not h2i (by omega) (okN1 y7 (.inr y9))]; rfl, H.out.off⟩)
               · skip
                 have y9d : ¬ (255 < (r.getD i 0)) := of_decide_eq_false y9
                 refine wReg ?_
                 refine p_goodC rfl ?_
                 refine wE (.pointer (some ⟨b3, i, none⟩)) rfl rfl rfl (fun aa ww hs _ => by have e3 := hs 3 _ rfl; have g3 := gt_of e3; have e28 := hs 28 _ rfl; have g28 := gt_of e28; simp only [execOp]; go_simp <;> omega) ?_
                 refine wX 30 (.int .i64 ((sizeL (r.getD 0 0)).getD i 0)) rfl (fun aa ww KK hs H _ hk => hpA_load1 tyint H rfl (hs _ _ rfl) (wnt_ok hs rfl) (by (repeat (first | exact List.Mem.head _ | apply List.Mem.tail))) (get16 (sizeL (r.getD 0 0)) (by omega)) hk) ?_
                 refine p_goodC rfl ?_
                 refine wB 31 rfl y5 ?_
                 iterate 8 refine p_goodC rfl ?_
                 refine wE (.pointer (some ⟨b3, i, none⟩)) rfl rfl rfl (fun aa ww hs _ => by have e3 := hs 3 _ rfl; have g3 := gt_of e3; have e39 := hs 39 _ rfl; have g39 := gt_of e39; simp only [execOp]; go_simp <;> omega) ?_
                 refine wX 41 (.int .i64 ((sizeL (r.getD 0 0)).getD i 0)) rfl (fun aa ww KK hs H _ hk => hpA_load1 tyint H rfl (hs _ _ rfl) (wnt_ok hs rfl) (by (repeat (first | exact List.Mem.head _ | apply List.Mem.tail))) (get16 (sizeL (r.getD 0 0)) (by omega)) hk) ?_
                 refine p_goodC rfl ?_
                 refine wB 42 rfl y7 ?_
                 iterate 2 refine p_goodC rfl ?_
                 refine wE (.pointer (some ⟨b1, i, none⟩)) rfl rfl rfl (fun aa ww hs _ => by have e1 := hs 1 _ rfl; have g1 := gt_of e1; have e44 := hs 44 _ rfl; have g44 := gt_of e44; simp only [execOp]; go_simp <;> omega) ?_
                 refine wX 46 (.int .i64 (r.getD i 0)) rfl (fun aa ww KK hs H _ hk => hpA_load1 tyint H rfl (hs _ _ rfl) (wnt_ok hs rfl) (by (repeat (first | exact List.Mem.head _ | apply List.Mem.tail))) (get16 r (by omega)) hk) ?_
                 refine p_goodC rfl ?_
                 refine wB 47 rfl y8 ?_
                 iterate 2 refine p_goodC rfl ?_
                 refine wE (.pointer (some ⟨b1, i, none⟩)) rfl rfl rfl (fun aa ww hs _ => by have e1 := hs 1 _ rfl; have g1 := gt_of e1; have e49 := hs 49 _ rfl; have g49 := gt_of e49; simp only [execOp]; go_simp <;> omega) ?_
                 refine wX 51 (.int .i64 (r.getD i 0)) rfl (fun aa ww KK hs H _ hk => hpA_load1 tyint H rfl (hs _ _ rfl) (wnt_ok hs rfl) (by (repeat (first | exact List.Mem.head _ | apply List.Mem.tail))) (get16 r (by omega)) hk) ?_
                 refine p_goodC rfl ?_
                 refine wB 52 rfl y9 ?_
                 iterate 5 refine p_goodC rfl ?_
                 refine wE (.pointer (some ⟨b3, i, none⟩)) rfl rfl rfl (fun aa ww hs _ => by have e3 := hs 3 _ rfl; have g3 := gt_of e3; have e57 := hs 57 _ rfl; have g57 := gt_of e57; simp only [execOp]; go_simp <;> omega) ?_
                 refine wX 59 (.int .i64 ((sizeL (r.getD 0 0)).getD i 0)) rfl (fun aa ww KK hs H _ hk => hpA_load1 tyint H rfl (hs _ _ rfl) (wnt_ok hs rfl) (by (repeat (first | exact List.Mem.head _ | apply List.Mem.tail))) (get16 (sizeL (r.getD 0 0)) (by omega)) hk) ?_
                 refine p_goodC rfl ?_
                 refine wB 60 rfl hn4 ?_
                 iterate 13 refine p_goodC rfl ?_
                 refine wN ?_
                 refine tN (wKK hK16 ?_)
                 refine wCf rfl ?_
                 refine wSk ?_
                 refine bN (tN (wKK hK15 ?_))
                 refine wReg ?_
                 iterate 2 refine p_goodC rfl ?_
                 refine wI 27 rfl (IntWalk.i64_in _ (by omega)) ?_
                 refine p_goodC rfl ?_
                 refine wN ?_
                 refine tN ?_
                 intro aa ww nn dd hs H
                 refine ⟨⟨i + 1, (by omega), (by omega), (okTo_next h2i hok (okY1 y7 y8 y9)), nn, dd, (sat_sub ⟨rfl, rfl, rfl, rfl, rfl, rfl, trivial⟩ hs), H⟩, ?_⟩
                 have m5 := hs 5 _ rfl
                 simp only [mu1_5, m5, intOf]
                 omega
           · skip
             have y7o : (((sizeL (r.getD 0 0)).getD i 0) != 1) = true := eqq_f y7
             rcases Bool.eq_false_or_eq_true (((sizeL (r.getD 0 0)).getD i 0) == 4) with y10 | y10
             · skip
               have y10o : (((sizeL (r.getD 0 0)).getD i 0) != 4) = false := eqq_t y10
               rcases Bool.eq_false_or_eq_true (decide (r.getD i 0 < 0)) with y11 | y11
               · skip
                 have y11d : (r.getD i 0) < 0 := of_decide_eq_true y11
                 refine wReg ?_
                 refine p_goodC rfl ?_
                 refine wE (.pointer (some ⟨b3, i, none⟩)) rfl rfl rfl (fun aa ww hs _ => by have e3 := hs 3 _ rfl; have g3 := gt_of e3; have e28 := hs 28 _ rfl; have g28 := gt_of e28; simp only [execOp]; go_simp <;> omega) ?_
                 refine wX 30 (.int .i64 ((sizeL (r.getD 0 0)).getD i 0)) rfl (fun aa ww KK hs H _ hk => hpA_load1 tyint H rfl (hs _ _ rfl) (wnt_ok hs rfl) (by (repeat (first | exact List.Mem.head _ | apply List.Mem.tail))) (get16 (sizeL (r.getD 0 0)) (by omega)) hk) ?_
                 refine p_goodC rfl ?_
                 refine wB 31 rfl y5 ?_
                 iterate 8 refine p_goodC rfl ?_
                 refine wE (.pointer (some ⟨b3, i, none⟩)) rfl rfl rfl (fun aa ww hs _ => by have e3 := hs 3 _ rfl; have g3 := gt_of e3; have e39 := hs 39 _ rfl; have g39 := gt_of e39; simp only [execOp]; go_simp <;> omega) ?_
                 refine wX 41 (.int .i64 ((sizeL (r.getD 0 0)).getD i 0)) rfl (fun aa ww KK hs H _ hk => hpA_load1 tyint H rfl (hs _ _ rfl) (wnt_ok hs rfl) (by (repeat (first | exact List.Mem.head _ | apply List.Mem.tail))) (get16 (sizeL (r.getD 0 0)) (by omega)) hk) ?_
                 refine p_goodC rfl ?_
                 refine wB 42 rfl y7 ?_
                 iterate 15 refine p_goodC rfl ?_
                 refine wE (.pointer (some ⟨b3, i, none⟩)) rfl rfl rfl (fun aa ww hs _ => by have e3 := hs 3 _ rfl; have g3 := gt_of e3; have e57 := hs 57 _ rfl; have g57 := gt_of e57; simp only [execOp]; go_simp <;> omega) ?_
                 refine wX 59 (.int .i64 ((sizeL (r.getD 0 0)).getD i 0)) rfl (fun aa ww KK hs H _ hk => hpA_load1 tyint H rfl (hs _ _ rfl) (wnt_ok hs rfl) (by (repeat (first | exact List.Mem.head _ | apply List.Mem.tail))) (get16 (sizeL (r.getD 0 0)) (by omega)) hk) ?_
                 refine p_goodC rfl ?_
                 refine wB 60 rfl y10 ?_
                 iterate 2 refine p_goodC rfl ?_
                 refine wE (.pointer (some ⟨b1, i, none⟩)) rfl rfl rfl (fun aa ww hs _ => by have e1 := hs 1 _ rfl; have g1 := gt_of e1; have e62 := hs 62 _ rfl; have g62 := gt_of e62; simp only [execOp]; go_simp <;> omega) ?_
                 refine wX 64 (.int .i64 (r.getD i 0)) rfl (fun aa ww KK hs H _ hk => hpA_load1 tyint H rfl (hs _ _ rfl) (wnt_ok hs rfl) (by (repeat (first | exact List.Mem.head _ | apply List.Mem.tail))) (get16 r (by omega)) hk) ?_
                 refine p_goodC rfl ?_
                 refine wB 65 rfl y11 ?_
                 iterate 8 refine p_goodC rfl ?_
                 refine wN ?_
                 refine tN (wKK hK16 ?_)
                 refine wCt rfl ?_
                 refine wSeqK fun KK20 hK20 => ?_
                 refine wReg ?_
                 refine p_goodC rfl ?_
                 refine wN ?_
                 refine tN (wKK hK20 ?_)
                 refine wRet ?_
                 refine bR (tR (tR (bR (tR ?_))))
                 exact wR1 rfl rfl (fun ww H => ⟨by unfold goodR; rw [show headR r = false by unfold headR; simp only [y1, y2, y3, cond_true, cond_false, Bool.not_true, Bool.not_false, Bool.true_and, Bool.and_true, Bool.false_and, Bool.and_false, Bool.true_or, Bool.or_true, Bool.false_or, Bool.or_false], okTo_not h2i (by omega) (okN4 y10 (.inl y11))]; rfl, H.out.off⟩)
               · skip
                 have y11d : ¬ ((r.getD i 0) < 0) := of_decide_eq_false y11
                 rcases Bool.eq_false_or_eq_true (decide (4294967295 < r.getD i 0)) with y12 | y12
                 · skip
                   have y12d : 4294967295 < r.getD i 0 := of_decide_eq_true y12
                   refine wReg ?_
                   refine p_goodC rfl ?_
                   refine wE (.pointer (some ⟨b3, i, none⟩)) rfl rfl rfl (fun aa ww hs _ => by have e3 := hs 3 _ rfl; have g3 := gt_of e3; have e28 := hs 28 _ rfl; have g28 := gt_of e28; simp only [execOp]; go_simp <;> omega) ?_
                   refine wX 30 (.int .i64 ((sizeL (r.getD 0 0)).getD i 0)) rfl (fun aa ww KK hs H _ hk => hpA_load1 tyint H rfl (hs _ _ rfl) (wnt_ok hs rfl) (by (repeat (first | exact List.Mem.head _ | apply List.Mem.tail))) (get16 (sizeL (r.getD 0 0)) (by omega)) hk) ?_
                   refine p_goodC rfl ?_
                   refine wB 31 rfl y5 ?_
                   iterate 8 refine p_goodC rfl ?_
                   refine wE (.pointer (some ⟨b3, i, none⟩)) rfl rfl rfl (fun aa ww hs _ => by have e3 := hs 3 _ rfl; have g3 := gt_of e3; have e39 := hs 39 _ rfl; have g39 := gt_of e39; simp only [execOp]; go_simp <;> omega) ?_
                   refine wX 41 (.int .i64 ((sizeL (r.getD 0 0)).getD i 0)) rfl (fun aa ww KK hs H _ hk => hpA_load1 tyint H rfl (hs _ _ rfl) (wnt_ok hs rfl) (by (repeat (first | exact List.Mem.head _ | apply List.Mem.tail))) (get16 (sizeL (r.getD 0 0)) (by omega)) hk) ?_
                   refine p_goodC rfl ?_
                   refine wB 42 rfl y7 ?_
                   iterate 15 refine p_goodC rfl ?_
                   refine wE (.pointer (some ⟨b3, i, none⟩)) rfl rfl rfl (fun aa ww hs _ => by have e3 := hs 3 _ rfl; have g3 := gt_of e3; have e57 := hs 57 _ rfl; have g57 := gt_of e57; simp only [execOp]; go_simp <;> omega) ?_
                   refine wX 59 (.int .i64 ((sizeL (r.getD 0 0)).getD i 0)) rfl (fun aa ww KK hs H _ hk => hpA_load1 tyint H rfl (hs _ _ rfl) (wnt_ok hs rfl) (by (repeat (first | exact List.Mem.head _ | apply List.Mem.tail))) (get16 (sizeL (r.getD 0 0)) (by omega)) hk) ?_
                   refine p_goodC rfl ?_
                   refine wB 60 rfl y10 ?_
                   iterate 2 refine p_goodC rfl ?_
                   refine wE (.pointer (some ⟨b1, i, none⟩)) rfl rfl rfl (fun aa ww hs _ => by have e1 := hs 1 _ rfl; have g1 := gt_of e1; have e62 := hs 62 _ rfl; have g62 := gt_of e62; simp only [execOp]; go_simp <;> omega) ?_
                   refine wX 64 (.int .i64 (r.getD i 0)) rfl (fun aa ww KK hs H _ hk => hpA_load1 tyint H rfl (hs _ _ rfl) (wnt_ok hs rfl) (by (repeat (first | exact List.Mem.head _ | apply List.Mem.tail))) (get16 r (by omega)) hk) ?_
                   refine p_goodC rfl ?_
                   refine wB 65 rfl y11 ?_
                   iterate 2 refine p_goodC rfl ?_
                   refine wE (.pointer (some ⟨b1, i, none⟩)) rfl rfl rfl (fun aa ww hs _ => by have e1 := hs 1 _ rfl; have g1 := gt_of e1; have e67 := hs 67 _ rfl; have g67 := gt_of e67; simp only [execOp]; go_simp <;> omega) ?_
                   refine wX 69 (.int .i64 (r.getD i 0)) rfl (fun aa ww KK hs H _ hk => hpA_load1 tyint H rfl (hs _ _ rfl) (wnt_ok hs rfl) (by (repeat (first | exact List.Mem.head _ | apply List.Mem.tail))) (get16 r (by omega)) hk) ?_
                   refine p_goodC rfl ?_
                   refine wB 70 rfl y12 ?_
                   iterate 3 refine p_goodC rfl ?_
                   refine wN ?_
                   refine tN (wKK hK16 ?_)
                   refine wCt rfl ?_
                   refine wSeqK fun KK21 hK21 => ?_
                   refine wReg ?_
                   refine p_goodC rfl ?_
                   refine wN ?_
                   refine tN (wKK hK21 ?_)
                   refine wRet ?_
                   refine bR (tR (tR (bR (tR ?_))))
                   exact wR1 rfl rfl (fun ww H => ⟨by unfold goodR; rw [show headR r = false by unfold headR; simp only [y1, y2, y3, cond_true, cond_false, Bool.not_true, Bool.not_false, Bool.true_and, Bool.and_true, Bool.false_and, Bool.and_false, Bool.true_or, Bool.or_true, Bool.false_or, Bool.or_false], okTo_not h2i (by omega) (okN4 y10 (.inr y12))]; rfl, H.out.off⟩)
                 · skip
                   have y12d : ¬ (4294967295 < (r.getD i 0)) := of_decide_eq_false y12
                   refine wReg ?_
                   refine p_goodC rfl ?_
                   refine wE (.pointer (some ⟨b3, i, none⟩)) rfl rfl rfl (fun aa ww hs _ => by have e3 := hs 3 _ rfl; have g3 := gt_of e3; have e28 := hs 28 _ rfl; have g28 := gt_of e28; simp only [execOp]; go_simp <;> omega) ?_
                   refine wX 30 (.int .i64 ((sizeL (r.getD 0 0)).getD i 0)) rfl (fun aa ww KK hs H _ hk => hpA_load1 tyint H rfl (hs _ _ rfl) (wnt_ok hs rfl) (by (repeat (first | exact List.Mem.head _ | apply List.Mem.tail))) (get16 (sizeL (r.getD 0 0)) (by omega)) hk) ?_
                   refine p_goodC rfl ?_
                   refine wB 31 rfl y5 ?_
                   iterate 8 refine p_goodC rfl ?_
                   refine wE (.pointer (some ⟨b3, i, none⟩)) rfl rfl rfl (fun aa ww hs _ => by have e3 := hs 3 _ rfl; have g3 := gt_of e3; have e39 := hs 39 _ rfl; have g39 := gt_of e39; simp only [execOp]; go_simp <;> omega) ?_
                   refine wX 41 (.int .i64 ((sizeL (r.getD 0 0)).getD i 0)) rfl (fun aa ww KK hs H _ hk => hpA_load1 tyint H rfl (hs _ _ rfl) (wnt_ok hs rfl) (by (repeat (first | exact List.Mem.head _ | apply List.Mem.tail))) (get16 (sizeL (r.getD 0 0)) (by omega)) hk) ?_
                   refine p_goodC rfl ?_
                   refine wB 42 rfl y7 ?_
                   iterate 15 refine p_goodC rfl ?_
                   refine wE (.pointer (some ⟨b3, i, none⟩)) rfl rfl rfl (fun aa ww hs _ => by have e3 := hs 3 _ rfl; have g3 := gt_of e3; have e57 := hs 57 _ rfl; have g57 := gt_of e57; simp only [execOp]; go_simp <;> omega) ?_
                   refine wX 59 (.int .i64 ((sizeL (r.getD 0 0)).getD i 0)) rfl (fun aa ww KK hs H _ hk => hpA_load1 tyint H rfl (hs _ _ rfl) (wnt_ok hs rfl) (by (repeat (first | exact List.Mem.head _ | apply List.Mem.tail))) (get16 (sizeL (r.getD 0 0)) (by omega)) hk) ?_
                   refine p_goodC rfl ?_
                   refine wB 60 rfl y10 ?_
                   iterate 2 refine p_goodC rfl ?_
                   refine wE (.pointer (some ⟨b1, i, none⟩)) rfl rfl rfl (fun aa ww hs _ => by have e1 := hs 1 _ rfl; have g1 := gt_of e1; have e62 := hs 62 _ rfl; have g62 := gt_of e62; simp only [execOp]; go_simp <;> omega) ?_
                   refine wX 64 (.int .i64 (r.getD i 0)) rfl (fun aa ww KK hs H _ hk => hpA_load1 tyint H rfl (hs _ _ rfl) (wnt_ok hs rfl) (by (repeat (first | exact List.Mem.head _ | apply List.Mem.tail))) (get16 r (by omega)) hk) ?_
                   refine p_goodC rfl ?_
                   refine wB 65 rfl y11 ?_
                   iterate 2 refine p_goodC rfl ?_
                   refine wE (.pointer (some ⟨b1, i, none⟩)) rfl rfl rfl (fun aa ww hs _ => by have e1 := hs 1 _ rfl; have g1 := gt_of e1; have e67 := hs 67 _ rfl; have g67 := gt_of e67; simp only [execOp]; go_simp <;> omega) ?_
                   refine wX 69 (.int .i64 (r.getD i 0)) rfl (fun aa ww KK hs H _ hk => hpA_load1 tyint H rfl (hs _ _ rfl) (wnt_ok hs rfl) (by (repeat (first | exact List.Mem.head _ | apply List.Mem.tail))) (get16 r (by omega)) hk) ?_
                   refine p_goodC rfl ?_
                   refine wB 70 rfl y12 ?_
                   iterate 3 refine p_goodC rfl ?_
                   refine wN ?_
                   refine tN (wKK hK16 ?_)
                   refine wCf rfl ?_
                   refine wSk ?_
                   refine bN (tN (wKK hK15 ?_))
                   refine wReg ?_
                   iterate 2 refine p_goodC rfl ?_
                   refine wI 27 rfl (IntWalk.i64_in _ (by omega)) ?_
                   refine p_goodC rfl ?_
                   refine wN ?_
                   refine tN ?_
                   intro aa ww nn dd hs H
                   refine ⟨⟨i + 1, (by omega), (by omega), (okTo_next h2i hok (okY4 y10 y11 y12)), nn, dd, (sat_sub ⟨rfl, rfl, rfl, rfl, rfl, rfl, trivial⟩ hs), H⟩, ?_⟩
                   have m5 := hs 5 _ rfl
                   simp only [mu1_5, m5, intOf]
                   omega
             · skip
               have y10o : (((sizeL (r.getD 0 0)).getD i 0) != 4) = true := eqq_f y10
               refine wReg ?_
               refine p_goodC rfl ?_
               refine wE (.pointer (some ⟨b3, i, none⟩)) rfl rfl rfl (fun aa ww hs _ => by have e3 := hs 3 _ rfl; have g3 := gt_of e3; have e28 := hs 28 _ rfl; have g28 := gt_of e28; simp only [execOp]; go_simp <;> omega) ?_
               refine wX 30 (.int .i64 ((sizeL (r.getD 0 0)).getD i 0)) rfl (fun aa ww KK hs H _ hk => hpA_load1 tyint H rfl (hs _ _ rfl) (wnt_ok hs rfl) (by (repeat (first | exact List.Mem.head _ | apply List.Mem.tail))) (get16 (sizeL (r.getD 0 0)) (by omega)) hk) ?_
               refine p_goodC rfl ?_
               refine wB 31 rfl y5 ?_
               iterate 8 refine p_goodC rfl ?_
               refine wE (.pointer (some ⟨b3, i, none⟩)) rfl rfl rfl (fun aa ww hs _ => by have e3 := hs 3 _ rfl; have g3 := gt_of e3; have e39 := hs 39 _ rfl; have g39 := gt_of e39; simp only [execOp]; go_simp <;> omega) ?_
               refine wX 41 (.int .i64 ((sizeL (r.getD 0 0)).getD i 0)) rfl (fun aa ww KK hs H _ hk => hpA_load1 tyint H rfl (hs _ _ rfl) (wnt_ok hs rfl) (by (repeat (first | exact List.Mem.head _ | apply List.Mem.tail))) (get16 (sizeL (r.getD 0 0)) (by omega)) hk) ?_
               refine p_goodC rfl ?_
               refine wB 42 rfl y7 ?_
               iterate 15 refine p_goodC rfl ?_
               refine wE (.pointer (some ⟨b3, i, none⟩)) rfl rfl rfl (fun aa ww hs _ => by have e3 := hs 3 _ rfl; have g3 := gt_of e3; have e57 := hs 57 _ rfl; have g57 := gt_of e57; simp only [execOp]; go_simp <;> omega) ?_
               refine wX 59 (.int .i64 ((sizeL (r.getD 0 0)).getD i 0)) rfl (fun aa ww KK hs H _ hk => hpA_load1 tyint H rfl (hs _ _ rfl) (wnt_ok hs rfl) (by (repeat (first | exact List.Mem.head _ | apply List.Mem.tail))) (get16 (sizeL (r.getD 0 0)) (by omega)) hk) ?_
               refine p_goodC rfl ?_
               refine wB 60 rfl y10 ?_
               iterate 13 refine p_goodC rfl ?_
               refine wN ?_
               refine tN (wKK hK16 ?_)
               refine wCf rfl ?_
               refine wSk ?_
               refine bN (tN (wKK hK15 ?_))
               refine wReg ?_
               iterate 2 refine p_goodC rfl ?_
               refine wI 27 rfl (IntWalk.i64_in _ (by omega)) ?_
               refine p_goodC rfl ?_
               refine wN ?_
               refine tN ?_
               intro aa ww nn dd hs H
               refine ⟨⟨i + 1, (by omega), (by omega), (okTo_next h2i hok (okYn y5 y7 y10)), nn, dd, (sat_sub ⟨rfl, rfl, rfl, rfl, rfl, rfl, trivial⟩ hs), H⟩, ?_⟩
               have m5 := hs 5 _ rfl
               simp only [mu1_5, m5, intOf]
               omega
       · skip
         have z4d : ¬ ((i : Int) < 16) := of_decide_eq_false z4
         refine wEx ?_
         refine tX (tX (bX (tN (wKK hK11 ?_))))
         refine wSeqK fun KK22 hK22 => ?_
         refine wSeqK fun KK23 hK23 => ?_
         intro aa ww nn dd hs H
         have hall : okTo r 14 = true := by (have e : i = 16 := by omega); rw [e] at hok; exact hok
         refine wIn nn dd hs H ?_
         rcases Bool.eq_false_or_eq_true (decide (0 < (sizeL (r.getD 0 0)).getD 2 0)) with y13 | y13
         · skip
           have y13d : 0 < (sizeL (r.getD 0 0)).getD 2 0 := of_decide_eq_true y13
           rcases Bool.eq_false_or_eq_true (decide (r.getD 2 0 < 1)) with y14 | y14
           · skip
             have y14d : r.getD 2 0 < 1 := of_decide_eq_true y14
             refine wReg ?_
             refine wE (.pointer (some ⟨b3, 2, none⟩)) rfl rfl rfl (fun aa ww hs _ => by have e3 := hs 3 _ rfl; have g3 := gt_of e3; simp only [execOp]; go_simp <;> omega) ?_
             refine wLd rfl tyint 0 rfl rfl ?_
             refine p_goodC rfl ?_
             refine wB 76 rfl y13 ?_
             refine p_goodC rfl ?_
             refine wE (.pointer (some ⟨b1, 2, none⟩)) rfl rfl rfl (fun aa ww hs _ => by have e1 := hs 1 _ rfl; have g1 := gt_of e1; simp only [execOp]; go_simp <;> omega) ?_
             refine wLd rfl tyint 1 rfl rfl ?_
             refine p_goodC rfl ?_
             refine wB 80 rfl y14 ?_
             iterate 11 refine p_goodC rfl ?_
             refine wN ?_
             refine tN (wKK hK23 ?_)
             refine wCt rfl ?_
             refine wSeqK fun KK24 hK24 => ?_
             refine wReg ?_
             refine p_goodC rfl ?_
             refine wN ?_
             refine tN (wKK hK24 ?_)
             refine wRet ?_
             refine tR ?_
             exact wR1 rfl rfl (fun ww H => ⟨by unfold goodR; rw [show headR r = false by unfold headR; simp only [y1, y2, y3, cond_true, cond_false, Bool.not_true, Bool.not_false, Bool.true_and, Bool.and_true, Bool.false_and, Bool.and_false, Bool.true_or, Bool.or_true, Bool.false_or, Bool.or_false], hall]; unfold whoR filR szR; simp only [y13, y14, cond_true, cond_false, Bool.not_true, Bool.not_false, Bool.true_and, Bool.and_true, Bool.false_and, Bool.and_false, Bool.true_or, Bool.or_true, Bool.false_or, Bool.or_false], H.out.off⟩)
           · skip
             have y14d : ¬ ((r.getD 2 0) < 1) := of_decide_eq_false y14
             rcases Bool.eq_false_or_eq_true (decide (1073741824 < r.getD 2 0)) with y15 | y15
             · skip
               have y15d : 1073741824 < r.getD 2 0 := of_decide_eq_true y15
               refine wReg ?_
               refine wE (.pointer (some ⟨b3, 2, none⟩)) rfl rfl rfl (fun aa ww hs _ => by have e3 := hs 3 _ rfl; have g3 := gt_of e3; simp only [execOp]; go_simp <;> omega) ?_
               refine wLd rfl tyint 0 rfl rfl ?_
               refine p_goodC rfl ?_
               refine wB 76 rfl y13 ?_
               refine p_goodC rfl ?_
               refine wE (.pointer (some ⟨b1, 2, none⟩)) rfl rfl rfl (fun aa ww hs _ => by have e1 := hs 1 _ rfl; have g1 := gt_of e1; simp only [execOp]; go_simp <;> omega) ?_
               refine wLd rfl tyint 1 rfl rfl ?_
               refine p_goodC rfl ?_
               refine wB 80 rfl y14 ?_
               refine p_goodC rfl ?_
               refine wE (.pointer (some ⟨b1, 2, none⟩)) rfl rfl rfl (fun aa ww hs _ => by have e1 := hs 1 _ rfl; have g1 := gt_of e1; simp only [execOp]; go_simp <;> omega) ?_
               refine wLd rfl tyint 1 rfl rfl ?_
               refine p_goodC rfl ?_
               refine wB 84 rfl y15 ?_
               iterate 7 refine p_goodC rfl ?_
               refine wN ?_
               refine tN (wKK hK23 ?_)
               refine wCt rfl ?_
               refine wSeqK fun KK25 hK25 => ?_
               refine wReg ?_
               refine p_goodC rfl ?_
               refine wN ?_
               refine tN (wKK hK25 ?_)
               refine wRet ?_
               refine tR ?_
               exact wR1 rfl rfl (fun ww H => ⟨by unfold goodR; rw [show headR r = false by unfold headR; simp only [y1, y2, y3, cond_true, cond_false, Bool.not_true, Bool.not_false, Bool.true_and, Bool.and_true, Bool.false_and, Bool.and_false, Bool.true_or, Bool.or_true, Bool.false_or, Bool.or_false], hall]; unfold whoR filR szR; simp only [y13, y14, y15, cond_true, cond_false, Bool.not_true, Bool.not_false, Bool.true_and, Bool.and_true, Bool.false_and, Bool.and_false, Bool.true_or, Bool.or_true, Bool.false_or, Bool.or_false], H.out.off⟩)
             · skip
               have y15d : ¬ (1073741824 < (r.getD 2 0)) := of_decide_eq_false y15
               rcases Bool.eq_false_or_eq_true (decide (1073741824 < r.getD 11 0)) with y16 | y16
               · skip
                 have y16d : 1073741824 < r.getD 11 0 := of_decide_eq_true y16
                 refine wReg ?_
                 refine wE (.pointer (some ⟨b3, 2, none⟩)) rfl rfl rfl (fun aa ww hs _ => by have e3 := hs 3 _ rfl; have g3 := gt_of e3; simp only [execOp]; go_simp <;> omega) ?_
                 refine wLd rfl tyint 0 rfl rfl ?_
                 refine p_goodC rfl ?_
                 refine wB 76 rfl y13 ?_
                 refine p_goodC rfl ?_
                 refine wE (.pointer (some ⟨b1, 2, none⟩)) rfl rfl rfl (fun aa ww hs _ => by have e1 := hs 1 _ rfl; have g1 := gt_of e1; simp only [execOp]; go_simp <;> omega) ?_
                 refine wLd rfl tyint 1 rfl rfl ?_
                 refine p_goodC rfl ?_
                 refine wB 80 rfl y14 ?_
                 refine p_goodC rfl ?_
                 refine wE (.pointer (some ⟨b1, 2, none⟩)) rfl rfl rfl (fun aa ww hs _ => by have e1 := hs 1 _ rfl; have g1 := gt_of e1; simp only [execOp]; go_simp <;> omega) ?_
                 refine wLd rfl tyint 1 rfl rfl ?_
                 refine p_goodC rfl ?_
                 refine wB 84 rfl y15 ?_
                 iterate 3 refine p_goodC rfl ?_
                 refine wE (.pointer (some ⟨b1, 11, none⟩)) rfl rfl rfl (fun aa ww hs _ => by have e1 := hs 1 _ rfl; have g1 := gt_of e1; simp only [execOp]; go_simp <;> omega) ?_
                 refine wLd rfl tyint 1 rfl rfl ?_
                 refine p_goodC rfl ?_
                 refine wB 90 rfl y16 ?_
                 refine p_goodC rfl ?_
                 refine wN ?_
                 refine tN (wKK hK23 ?_)
                 refine wCt rfl ?_
                 refine wSeqK fun KK26 hK26 => ?_
                 refine wReg ?_
                 refine p_goodC rfl ?_
                 refine wN ?_
                 refine tN (wKK hK26 ?_)
                 refine wRet ?_
                 refine tR ?_
                 exact wR1 rfl rfl (fun ww H => ⟨by unfold goodR; rw [show headR r = false by unfold headR; simp only [y1, y2, y3, cond_true, cond_false, Bool.not_true, Bool.not_false, Bool.true_and, Bool.and_true, Bool.false_and, Bool.and_false, Bool.true_or, Bool.or_true, Bool.false_or, Bool.or_false], hall]; unfold whoR filR szR; simp only [y13, y14, y15, y16, cond_true, cond_false, Bool.not_true, Bool.not_false, Bool.true_and, Bool.and_true, Bool.false_and, Bool.and_false, Bool.true_or, Bool.or_true, Bool.false_or, Bool.or_false], H.out.off⟩)
               · skip
                 have y16d : ¬ (1073741824 < (r.getD 11 0)) := of_decide_eq_false y16
                 refine wReg ?_
                 refine wE (.pointer (some ⟨b3, 2, none⟩)) rfl rfl rfl (fun aa ww hs _ => by have e3 := hs 3 _ rfl; have g3 := gt_of e3; simp only [execOp]; go_simp <;> omega) ?_
                 refine wLd rfl tyint 0 rfl rfl ?_
                 refine p_goodC rfl ?_
                 refine wB 76 rfl y13 ?_
                 refine p_goodC rfl ?_
                 refine wE (.pointer (some ⟨b1, 2, none⟩)) rfl rfl rfl (fun aa ww hs _ => by have e1 := hs 1 _ rfl; have g1 := gt_of e1; simp only [execOp]; go_simp <;> omega) ?_
                 refine wLd rfl tyint 1 rfl rfl ?_
                 refine p_goodC rfl ?_
                 refine wB 80 rfl y14 ?_
                 refine p_goodC rfl ?_
                 refine wE (.pointer (some ⟨b1, 2, none⟩)) rfl rfl rfl (fun aa ww hs _ => by have e1 := hs 1 _ rfl; have g1 := gt_of e1; simp only [execOp]; go_simp <;> omega) ?_
                 refine wLd rfl tyint 1 rfl rfl ?_
                 refine p_goodC rfl ?_
                 refine wB 84 rfl y15 ?_
                 iterate 3 refine p_goodC rfl ?_
                 refine wE (.pointer (some ⟨b1, 11, none⟩)) rfl rfl rfl (fun aa ww hs _ => by have e1 := hs 1 _ rfl; have g1 := gt_of e1; simp only [execOp]; go_simp <;> omega) ?_
                 refine wLd rfl tyint 1 rfl rfl ?_
                 refine p_goodC rfl ?_
                 refine wB 90 rfl y16 ?_
                 refine p_goodC rfl ?_
                 refine wN ?_
                 refine tN (wKK hK23 ?_)
                 refine wCf rfl ?_
                 refine wSk ?_
                 refine tN (wKK hK22 ?_)
                 refine wSeqK fun KK27 hK27 => ?_
                 rcases Bool.eq_false_or_eq_true ((r.getD 14 0) == 0) with y17 | y17
                 · skip
                   have y17o : ((r.getD 14 0) != 0) = false := eqq_t y17
                   rcases Bool.eq_false_or_eq_true ((r.getD 15 0) == 0) with y18 | y18
                   · skip
                     have y18o : ((r.getD 15 0) != 0) = false := eqq_t y18
                     refine wReg ?_
                     refine wE (.pointer (some ⟨b1, 14, none⟩)) rfl rfl rfl (fun aa ww hs _ => by have e1 := hs 1 _ rfl; have g1 := gt_of e1; simp only [execOp]; go_simp <;> omega) ?_
                     refine wLd rfl tyint 1 rfl rfl ?_
                     refine p_goodC rfl ?_
                     refine wB 94 rfl y17 ?_
                     refine p_goodC rfl ?_
                     refine wE (.pointer (some ⟨b1, 15, none⟩)) rfl rfl rfl (fun aa ww hs _ => by have e1 := hs 1 _ rfl; have g1 := gt_of e1; simp only [execOp]; go_simp <;> omega) ?_
                     refine wLd rfl tyint 1 rfl rfl ?_
                     refine p_goodC rfl ?_
                     refine wB 98 rfl y18 ?_
                     iterate 22 refine p_goodC rfl ?_
                     refine wN ?_
                     refine tN (wKK hK27 ?_)
                     refine wRet ?_
                     exact wR1 rfl rfl (fun ww H => ⟨by unfold goodR; rw [show headR r = false by unfold headR; simp only [y1, y2, y3, cond_true, cond_false, Bool.not_true, Bool.not_false, Bool.true_and, Bool.and_true, Bool.false_and, Bool.and_false, Bool.true_or, Bool.or_true, Bool.false_or, Bool.or_false], hall]; unfold whoR filR szR; simp only [y13, y14, y15, y16, y17, y18, cond_true, cond_false, Bool.not_true, Bool.not_false, Bool.true_and, Bool.and_true, Bool.false_and, Bool.and_false, Bool.true_or, Bool.or_true, Bool.false_or, Bool.or_false], H.out.off⟩)
                   · skip
                     have y18o : ((r.getD 15 0) != 0) = true := eqq_f y18
                     rcases Bool.eq_false_or_eq_true (decide (0 < r.getD 14 0)) with y19 | y19
                     · skip
                       have y19d : 0 < r.getD 14 0 := of_decide_eq_true y19
                       rcases Bool.eq_false_or_eq_true (decide (r.getD 14 0 < 4)) with y20 | y20
                       · skip
                         have y20d : r.getD 14 0 < 4 := of_decide_eq_true y20
                         rcases Bool.eq_false_or_eq_true (decide (0 < r.getD 15 0)) with y21 | y21
                         · skip
                           have y21d : 0 < r.getD 15 0 := of_decide_eq_true y21
                           rcases Bool.eq_false_or_eq_true (decide (r.getD 15 0 ≤ 1073741824)) with y22 | y22
                           · skip
                             have y22d : r.getD 15 0 ≤ 1073741824 := of_decide_eq_true y22
                             refine wReg ?_
                             refine wE (.pointer (some ⟨b1, 14, none⟩)) rfl rfl rfl (fun aa ww hs _ => by have e1 := hs 1 _ rfl; have g1 := gt_of e1; simp only [execOp]; go_simp <;> omega) ?_
                             refine wLd rfl tyint 1 rfl rfl ?_
                             refine p_goodC rfl ?_
                             refine wB 94 rfl y17 ?_
                             refine p_goodC rfl ?_
                             refine wE (.pointer (some ⟨b1, 15, none⟩)) rfl rfl rfl (fun aa ww hs _ => by have e1 := hs 1 _ rfl; have g1 := gt_of e1; simp only [execOp]; go_simp <;> omega) ?_
                             refine wLd rfl tyint 1 rfl rfl ?_
                             refine p_goodC rfl ?_
                             refine wB 98 rfl y18 ?_
                             iterate 2 refine p_goodC rfl ?_
                             refine wE (.pointer (some ⟨b1, 14, none⟩)) rfl rfl rfl (fun aa ww hs _ => by have e1 := hs 1 _ rfl; have g1 := gt_of e1; simp only [execOp]; go_simp <;> omega) ?_
                             refine wLd rfl tyint 1 rfl rfl ?_
                             refine p_goodC rfl ?_
                             refine wB 103 rfl y19 ?_
                             refine p_goodC rfl ?_
                             refine wE (.pointer (some ⟨b1, 14, none⟩)) rfl rfl rfl (fun aa ww hs _ => by have e1 := hs 1 _ rfl; have g1 := gt_of e1; simp only [execOp]; go_simp <;> omega) ?_
                             refine wLd rfl tyint 1 rfl rfl ?_
                             refine p_goodC rfl ?_
                             refine wB 107 rfl y20 ?_
                             iterate 2 refine p_goodC rfl ?_
                             refine wE (.pointer (some ⟨b1, 15, none⟩)) rfl rfl rfl (fun aa ww hs _ => by have e1 := hs 1 _ rfl; have g1 := gt_of e1; simp only [execOp]; go_simp <;> omega) ?_
                             refine wLd rfl tyint 1 rfl rfl ?_
                             refine p_goodC rfl ?_
                             refine wB 112 rfl y21 ?_
                             iterate 2 refine p_goodC rfl ?_
                             refine wE (.pointer (some ⟨b1, 15, none⟩)) rfl rfl rfl (fun aa ww hs _ => by have e1 := hs 1 _ rfl; have g1 := gt_of e1; simp only [execOp]; go_simp <;> omega) ?_
                             refine wLd rfl tyint 1 rfl rfl ?_
                             refine p_goodC rfl ?_
                             refine wB 117 rfl y22 ?_
                             iterate 3 refine p_goodC rfl ?_
                             refine wN ?_
                             refine tN (wKK hK27 ?_)
                             refine wRet ?_
                             exact wR1 rfl rfl (fun ww H => ⟨by unfold goodR; rw [show headR r = false by unfold headR; simp only [y1, y2, y3, cond_true, cond_false, Bool.not_true, Bool.not_false, Bool.true_and, Bool.and_true, Bool.false_and, Bool.and_false, Bool.true_or, Bool.or_true, Bool.false_or, Bool.or_false], hall]; unfold whoR filR szR; simp only [y13, y14, y15, y16, y17, y18, y19, y20, y21, y22, cond_true, cond_false, Bool.not_true, Bool.not_false, Bool.true_and, Bool.and_true, Bool.false_and, Bool.and_false, Bool.true_or, Bool.or_true, Bool.false_or, Bool.or_false], H.out.off⟩)
                           · skip
                             have y22d : ¬ ((r.getD 15 0) ≤ 1073741824) := of_decide_eq_false y22
                             refine wReg ?_
                             refine wE (.pointer (some ⟨b1, 14, none⟩)) rfl rfl rfl (fun aa ww hs _ => by have e1 := hs 1 _ rfl; have g1 := gt_of e1; simp only [execOp]; go_simp <;> omega) ?_
                             refine wLd rfl tyint 1 rfl rfl ?_
                             refine p_goodC rfl ?_
                             refine wB 94 rfl y17 ?_
                             refine p_goodC rfl ?_
                             refine wE (.pointer (some ⟨b1, 15, none⟩)) rfl rfl rfl (fun aa ww hs _ => by have e1 := hs 1 _ rfl; have g1 := gt_of e1; simp only [execOp]; go_simp <;> omega) ?_
                             refine wLd rfl tyint 1 rfl rfl ?_
                             refine p_goodC rfl ?_
                             refine wB 98 rfl y18 ?_
                             iterate 2 refine p_goodC rfl ?_
                             refine wE (.pointer (some ⟨b1, 14, none⟩)) rfl rfl rfl (fun aa ww hs _ => by have e1 := hs 1 _ rfl; have g1 := gt_of e1; simp only [execOp]; go_simp <;> omega) ?_
                             refine wLd rfl tyint 1 rfl rfl ?_
                             refine p_goodC rfl ?_
                             refine wB 103 rfl y19 ?_
                             refine p_goodC rfl ?_
                             refine wE (.pointer (some ⟨b1, 14, none⟩)) rfl rfl rfl (fun aa ww hs _ => by have e1 := hs 1 _ rfl; have g1 := gt_of e1; simp only [execOp]; go_simp <;> omega) ?_
                             refine wLd rfl tyint 1 rfl rfl ?_
                             refine p_goodC rfl ?_
                             refine wB 107 rfl y20 ?_
                             iterate 2 refine p_goodC rfl ?_
                             refine wE (.pointer (some ⟨b1, 15, none⟩)) rfl rfl rfl (fun aa ww hs _ => by have e1 := hs 1 _ rfl; have g1 := gt_of e1; simp only [execOp]; go_simp <;> omega) ?_
                             refine wLd rfl tyint 1 rfl rfl ?_
                             refine p_goodC rfl ?_
                             refine wB 112 rfl y21 ?_
                             iterate 2 refine p_goodC rfl ?_
                             refine wE (.pointer (some ⟨b1, 15, none⟩)) rfl rfl rfl (fun aa ww hs _ => by have e1 := hs 1 _ rfl; have g1 := gt_of e1; simp only [execOp]; go_simp <;> omega) ?_
                             refine wLd rfl tyint 1 rfl rfl ?_
                             refine p_goodC rfl ?_
                             refine wB 117 rfl y22 ?_
                             iterate 3 refine p_goodC rfl ?_
                             refine wN ?_
                             refine tN (wKK hK27 ?_)
                             refine wRet ?_
                             exact wR1 rfl rfl (fun ww H => ⟨by unfold goodR; rw [show headR r = false by unfold headR; simp only [y1, y2, y3, cond_true, cond_false, Bool.not_true, Bool.not_false, Bool.true_and, Bool.and_true, Bool.false_and, Bool.and_false, Bool.true_or, Bool.or_true, Bool.false_or, Bool.or_false], hall]; unfold whoR filR szR; simp only [y13, y14, y15, y16, y17, y18, y19, y20, y21, y22, cond_true, cond_false, Bool.not_true, Bool.not_false, Bool.true_and, Bool.and_true, Bool.false_and, Bool.and_false, Bool.true_or, Bool.or_true, Bool.false_or, Bool.or_false], H.out.off⟩)
                         · skip
                           have y21d : ¬ (0 < (r.getD 15 0)) := of_decide_eq_false y21
                           refine wReg ?_
                           refine wE (.pointer (some ⟨b1, 14, none⟩)) rfl rfl rfl (fun aa ww hs _ => by have e1 := hs 1 _ rfl; have g1 := gt_of e1; simp only [execOp]; go_simp <;> omega) ?_
                           refine wLd rfl tyint 1 rfl rfl ?_
                           refine p_goodC rfl ?_
                           refine wB 94 rfl y17 ?_
                           refine p_goodC rfl ?_
                           refine wE (.pointer (some ⟨b1, 15, none⟩)) rfl rfl rfl (fun aa ww hs _ => by have e1 := hs 1 _ rfl; have g1 := gt_of e1; simp only [execOp]; go_simp <;> omega) ?_
                           refine wLd rfl tyint 1 rfl rfl ?_
                           refine p_goodC rfl ?_
                           refine wB 98 rfl y18 ?_
                           iterate 2 refine p_goodC rfl ?_
                           refine wE (.pointer (some ⟨b1, 14, none⟩)) rfl rfl rfl (fun aa ww hs _ => by have e1 := hs 1 _ rfl; have g1 := gt_of e1; simp only [execOp]; go_simp <;> omega) ?_
                           refine wLd rfl tyint 1 rfl rfl ?_
                           refine p_goodC rfl ?_
                           refine wB 103 rfl y19 ?_
                           refine p_goodC rfl ?_
                           refine wE (.pointer (some ⟨b1, 14, none⟩)) rfl rfl rfl (fun aa ww hs _ => by have e1 := hs 1 _ rfl; have g1 := gt_of e1; simp only [execOp]; go_simp <;> omega) ?_
                           refine wLd rfl tyint 1 rfl rfl ?_
                           refine p_goodC rfl ?_
                           refine wB 107 rfl y20 ?_
                           iterate 2 refine p_goodC rfl ?_
                           refine wE (.pointer (some ⟨b1, 15, none⟩)) rfl rfl rfl (fun aa ww hs _ => by have e1 := hs 1 _ rfl; have g1 := gt_of e1; simp only [execOp]; go_simp <;> omega) ?_
                           refine wLd rfl tyint 1 rfl rfl ?_
                           refine p_goodC rfl ?_
                           refine wB 112 rfl y21 ?_
                           iterate 8 refine p_goodC rfl ?_
                           refine wN ?_
                           refine tN (wKK hK27 ?_)
                           refine wRet ?_
                           exact wR1 rfl rfl (fun ww H => ⟨by unfold goodR; rw [show headR r = false by unfold headR; simp only [y1, y2, y3, cond_true, cond_false, Bool.not_true, Bool.not_false, Bool.true_and, Bool.and_true, Bool.false_and, Bool.and_false, Bool.true_or, Bool.or_true, Bool.false_or, Bool.or_false], hall]; unfold whoR filR szR; simp only [y13, y14, y15, y16, y17, y18, y19, y20, y21, cond_true, cond_false, Bool.not_true, Bool.not_false, Bool.true_and, Bool.and_true, Bool.false_and, Bool.and_false, Bool.true_or, Bool.or_true, Bool.false_or, Bool.or_false], H.out.off⟩)
                       · skip
                         have y20d : ¬ ((r.getD 14 0) < 4) := of_decide_eq_false y20
                         refine wReg ?_
                         refine wE (.pointer (some ⟨b1, 14, none⟩)) rfl rfl rfl (fun aa ww hs _ => by have e1 := hs 1 _ rfl; have g1 := gt_of e1; simp only [execOp]; go_simp <;> omega) ?_
                         refine wLd rfl tyint 1 rfl rfl ?_
                         refine p_goodC rfl ?_
                         refine wB 94 rfl y17 ?_
                         refine p_goodC rfl ?_
                         refine wE (.pointer (some ⟨b1, 15, none⟩)) rfl rfl rfl (fun aa ww hs _ => by have e1 := hs 1 _ rfl; have g1 := gt_of e1; simp only [execOp]; go_simp <;> omega) ?_
                         refine wLd rfl tyint 1 rfl rfl ?_
                         refine p_goodC rfl ?_
                         refine wB 98 rfl y18 ?_
                         iterate 2 refine p_goodC rfl ?_
                         refine wE (.pointer (some ⟨b1, 14, none⟩)) rfl rfl rfl (fun aa ww hs _ => by have e1 := hs 1 _ rfl; have g1 := gt_of e1; simp only [execOp]; go_simp <;> omega) ?_
                         refine wLd rfl tyint 1 rfl rfl ?_
                         refine p_goodC rfl ?_
                         refine wB 103 rfl y19 ?_
                         refine p_goodC rfl ?_
                         refine wE (.pointer (some ⟨b1, 14, none⟩)) rfl rfl rfl (fun aa ww hs _ => by have e1 := hs 1 _ rfl; have g1 := gt_of e1; simp only [execOp]; go_simp <;> omega) ?_
                         refine wLd rfl tyint 1 rfl rfl ?_
                         refine p_goodC rfl ?_
                         refine wB 107 rfl y20 ?_
                         iterate 13 refine p_goodC rfl ?_
                         refine wN ?_
                         refine tN (wKK hK27 ?_)
                         refine wRet ?_
                         exact wR1 rfl rfl (fun ww H => ⟨by unfold goodR; rw [show headR r = false by unfold headR; simp only [y1, y2, y3, cond_true, cond_false, Bool.not_true, Bool.not_false, Bool.true_and, Bool.and_true, Bool.false_and, Bool.and_false, Bool.true_or, Bool.or_true, Bool.false_or, Bool.or_false], hall]; unfold whoR filR szR; simp only [y13, y14, y15, y16, y17, y18, y19, y20, cond_true, cond_false, Bool.not_true, Bool.not_false, Bool.true_and, Bool.and_true, Bool.false_and, Bool.and_false, Bool.true_or, Bool.or_true, Bool.false_or, Bool.or_false], H.out.off⟩)
                     · skip
                       have y19d : ¬ (0 < (r.getD 14 0)) := of_decide_eq_false y19
                       refine wReg ?_
                       refine wE (.pointer (some ⟨b1, 14, none⟩)) rfl rfl rfl (fun aa ww hs _ => by have e1 := hs 1 _ rfl; have g1 := gt_of e1; simp only [execOp]; go_simp <;> omega) ?_
                       refine wLd rfl tyint 1 rfl rfl ?_
                       refine p_goodC rfl ?_
                       refine wB 94 rfl y17 ?_
                       refine p_goodC rfl ?_
                       refine wE (.pointer (some ⟨b1, 15, none⟩)) rfl rfl rfl (fun aa ww hs _ => by have e1 := hs 1 _ rfl; have g1 := gt_of e1; simp only [execOp]; go_simp <;> omega) ?_
                       refine wLd rfl tyint 1 rfl rfl ?_
                       refine p_goodC rfl ?_
                       refine wB 98 rfl y18 ?_
                       iterate 2 refine p_goodC rfl ?_
                       refine wE (.pointer (some ⟨b1, 14, none⟩)) rfl rfl rfl (fun aa ww hs _ => by have e1 := hs 1 _ rfl; have g1 := gt_of e1; simp only [execOp]; go_simp <;> omega) ?_
                       refine wLd rfl tyint 1 rfl rfl ?_
                       refine p_goodC rfl ?_
                       refine wB 103 rfl y19 ?_
                       iterate 17 refine p_goodC rfl ?_
                       refine wN ?_
                       refine tN (wKK hK27 ?_)
                       refine wRet ?_
                       exact wR1 rfl rfl (fun ww H => ⟨by unfold goodR; rw [show headR r = false by unfold headR; simp only [y1, y2, y3, cond_true, cond_false, Bool.not_true, Bool.not_false, Bool.true_and, Bool.and_true, Bool.false_and, Bool.and_false, Bool.true_or, Bool.or_true, Bool.false_or, Bool.or_false], hall]; unfold whoR filR szR; simp only [y13, y14, y15, y16, y17, y18, y19, cond_true, cond_false, Bool.not_true, Bool.not_false, Bool.true_and, Bool.and_true, Bool.false_and, Bool.and_false, Bool.true_or, Bool.or_true, Bool.false_or, Bool.or_false], H.out.off⟩)
                 · skip
                   have y17o : ((r.getD 14 0) != 0) = true := eqq_f y17
                   rcases Bool.eq_false_or_eq_true (decide (0 < r.getD 14 0)) with y23 | y23
                   · skip
                     have y23d : 0 < (r.getD 14 0) := of_decide_eq_true y23
                     rcases Bool.eq_false_or_eq_true (decide (r.getD 14 0 < 4)) with y24 | y24
                     · skip
                       have y24d : (r.getD 14 0) < 4 := of_decide_eq_true y24
                       rcases Bool.eq_false_or_eq_true (decide (0 < r.getD 15 0)) with y25 | y25
                       · skip
                         have y25d : 0 < (r.getD 15 0) := of_decide_eq_true y25
                         rcases Bool.eq_false_or_eq_true (decide (r.getD 15 0 ≤ 1073741824)) with y26 | y26
                         · skip
                           have y26d : (r.getD 15 0) ≤ 1073741824 := of_decide_eq_true y26
                           refine wReg ?_
                           refine wE (.pointer (some ⟨b1, 14, none⟩)) rfl rfl rfl (fun aa ww hs _ => by have e1 := hs 1 _ rfl; have g1 := gt_of e1; simp only [execOp]; go_simp <;> omega) ?_
                           refine wLd rfl tyint 1 rfl rfl ?_
                           refine p_goodC rfl ?_
                           refine wB 94 rfl y17 ?_
                           iterate 6 refine p_goodC rfl ?_
                           refine wE (.pointer (some ⟨b1, 14, none⟩)) rfl rfl rfl (fun aa ww hs _ => by have e1 := hs 1 _ rfl; have g1 := gt_of e1; simp only [execOp]; go_simp <;> omega) ?_
                           refine wLd rfl tyint 1 rfl rfl ?_
                           refine p_goodC rfl ?_
                           refine wB 103 rfl y23 ?_
                           refine p_goodC rfl ?_
                           refine wE (.pointer (some ⟨b1, 14, none⟩)) rfl rfl rfl (fun aa ww hs _ => by have e1 := hs 1 _ rfl; have g1 := gt_of e1; simp only [execOp]; go_simp <;> omega) ?_
                           refine wLd rfl tyint 1 rfl rfl ?_
                           refine p_goodC rfl ?_
                           refine wB 107 rfl y24 ?_
                           iterate 2 refine p_goodC rfl ?_
                           refine wE (.pointer (some ⟨b1, 15, none⟩)) rfl rfl rfl (fun aa ww hs _ => by have e1 := hs 1 _ rfl; have g1 := gt_of e1; simp only [execOp]; go_simp <;> omega) ?_
                           refine wLd rfl tyint 1 rfl rfl ?_
                           refine p_goodC rfl ?_
                           refine wB 112 rfl y25 ?_
                           iterate 2 refine p_goodC rfl ?_
                           refine wE (.pointer (some ⟨b1, 15, none⟩)) rfl rfl rfl (fun aa ww hs _ => by have e1 := hs 1 _ rfl; have g1 := gt_of e1; simp only [execOp]; go_simp <;> omega) ?_
                           refine wLd rfl tyint 1 rfl rfl ?_
                           refine p_goodC rfl ?_
                           refine wB 117 rfl y26 ?_
                           iterate 3 refine p_goodC rfl ?_
                           refine wN ?_
                           refine tN (wKK hK27 ?_)
                           refine wRet ?_
                           exact wR1 rfl rfl (fun ww H => ⟨by unfold goodR; rw [show headR r = false by unfold headR; simp only [y1, y2, y3, cond_true, cond_false, Bool.not_true, Bool.not_false, Bool.true_and, Bool.and_true, Bool.false_and, Bool.and_false, Bool.true_or, Bool.or_true, Bool.false_or, Bool.or_false], hall]; unfold whoR filR szR; simp only [y13, y14, y15, y16, y17, y23, y24, y25, y26, cond_true, cond_false, Bool.not_true, Bool.not_false, Bool.true_and, Bool.and_true, Bool.false_and, Bool.and_false, Bool.true_or, Bool.or_true, Bool.false_or, Bool.or_false], H.out.off⟩)
                         · skip
                           have y26d : ¬ ((r.getD 15 0) ≤ 1073741824) := of_decide_eq_false y26
                           refine wReg ?_
                           refine wE (.pointer (some ⟨b1, 14, none⟩)) rfl rfl rfl (fun aa ww hs _ => by have e1 := hs 1 _ rfl; have g1 := gt_of e1; simp only [execOp]; go_simp <;> omega) ?_
                           refine wLd rfl tyint 1 rfl rfl ?_
                           refine p_goodC rfl ?_
                           refine wB 94 rfl y17 ?_
                           iterate 6 refine p_goodC rfl ?_
                           refine wE (.pointer (some ⟨b1, 14, none⟩)) rfl rfl rfl (fun aa ww hs _ => by have e1 := hs 1 _ rfl; have g1 := gt_of e1; simp only [execOp]; go_simp <;> omega) ?_
                           refine wLd rfl tyint 1 rfl rfl ?_
                           refine p_goodC rfl ?_
                           refine wB 103 rfl y23 ?_
                           refine p_goodC rfl ?_
                           refine wE (.pointer (some ⟨b1, 14, none⟩)) rfl rfl rfl (fun aa ww hs _ => by have e1 := hs 1 _ rfl; have g1 := gt_of e1; simp only [execOp]; go_simp <;> omega) ?_
                           refine wLd rfl tyint 1 rfl rfl ?_
                           refine p_goodC rfl ?_
                           refine wB 107 rfl y24 ?_
                           iterate 2 refine p_goodC rfl ?_
                           refine wE (.pointer (some ⟨b1, 15, none⟩)) rfl rfl rfl (fun aa ww hs _ => by have e1 := hs 1 _ rfl; have g1 := gt_of e1; simp only [execOp]; go_simp <;> omega) ?_
                           refine wLd rfl tyint 1 rfl rfl ?_
                           refine p_goodC rfl ?_
                           refine wB 112 rfl y25 ?_
                           iterate 2 refine p_goodC rfl ?_
                           refine wE (.pointer (some ⟨b1, 15, none⟩)) rfl rfl rfl (fun aa ww hs _ => by have e1 := hs 1 _ rfl; have g1 := gt_of e1; simp only [execOp]; go_simp <;> omega) ?_
                           refine wLd rfl tyint 1 rfl rfl ?_
                           refine p_goodC rfl ?_
                           refine wB 117 rfl y26 ?_
                           iterate 3 refine p_goodC rfl ?_
                           refine wN ?_
                           refine tN (wKK hK27 ?_)
                           refine wRet ?_
                           exact wR1 rfl rfl (fun ww H => ⟨by unfold goodR; rw [show headR r = false by unfold headR; simp only [y1, y2, y3, cond_true, cond_false, Bool.not_true, Bool.not_false, Bool.true_and, Bool.and_true, Bool.false_and, Bool.and_false, Bool.true_or, Bool.or_true, Bool.false_or, Bool.or_false], hall]; unfold whoR filR szR; simp only [y13, y14, y15, y16, y17, y23, y24, y25, y26, cond_true, cond_false, Bool.not_true, Bool.not_false, Bool.true_and, Bool.and_true, Bool.false_and, Bool.and_false, Bool.true_or, Bool.or_true, Bool.false_or, Bool.or_false], H.out.off⟩)
                       · skip
                         have y25d : ¬ (0 < (r.getD 15 0)) := of_decide_eq_false y25
                         refine wReg ?_
                         refine wE (.pointer (some ⟨b1, 14, none⟩)) rfl rfl rfl (fun aa ww hs _ => by have e1 := hs 1 _ rfl; have g1 := gt_of e1; simp only [execOp]; go_simp <;> omega) ?_
                         refine wLd rfl tyint 1 rfl rfl ?_
                         refine p_goodC rfl ?_
                         refine wB 94 rfl y17 ?_
                         iterate 6 refine p_goodC rfl ?_
                         refine wE (.pointer (some ⟨b1, 14, none⟩)) rfl rfl rfl (fun aa ww hs _ => by have e1 := hs 1 _ rfl; have g1 := gt_of e1; simp only [execOp]; go_simp <;> omega) ?_
                         refine wLd rfl tyint 1 rfl rfl ?_
                         refine p_goodC rfl ?_
                         refine wB 103 rfl y23 ?_
                         refine p_goodC rfl ?_
                         refine wE (.pointer (some ⟨b1, 14, none⟩)) rfl rfl rfl (fun aa ww hs _ => by have e1 := hs 1 _ rfl; have g1 := gt_of e1; simp only [execOp]; go_simp <;> omega) ?_
                         refine wLd rfl tyint 1 rfl rfl ?_
                         refine p_goodC rfl ?_
                         refine wB 107 rfl y24 ?_
                         iterate 2 refine p_goodC rfl ?_
                         refine wE (.pointer (some ⟨b1, 15, none⟩)) rfl rfl rfl (fun aa ww hs _ => by have e1 := hs 1 _ rfl; have g1 := gt_of e1; simp only [execOp]; go_simp <;> omega) ?_
                         refine wLd rfl tyint 1 rfl rfl ?_
                         refine p_goodC rfl ?_
                         refine wB 112 rfl y25 ?_
                         iterate 8 refine p_goodC rfl ?_
                         refine wN ?_
                         refine tN (wKK hK27 ?_)
                         refine wRet ?_
                         exact wR1 rfl rfl (fun ww H => ⟨by unfold goodR; rw [show headR r = false by unfold headR; simp only [y1, y2, y3, cond_true, cond_false, Bool.not_true, Bool.not_false, Bool.true_and, Bool.and_true, Bool.false_and, Bool.and_false, Bool.true_or, Bool.or_true, Bool.false_or, Bool.or_false], hall]; unfold whoR filR szR; simp only [y13, y14, y15, y16, y17, y23, y24, y25, cond_true, cond_false, Bool.not_true, Bool.not_false, Bool.true_and, Bool.and_true, Bool.false_and, Bool.and_false, Bool.true_or, Bool.or_true, Bool.false_or, Bool.or_false], H.out.off⟩)
                     · skip
                       have y24d : ¬ ((r.getD 14 0) < 4) := of_decide_eq_false y24
                       refine wReg ?_
                       refine wE (.pointer (some ⟨b1, 14, none⟩)) rfl rfl rfl (fun aa ww hs _ => by have e1 := hs 1 _ rfl; have g1 := gt_of e1; simp only [execOp]; go_simp <;> omega) ?_
                       refine wLd rfl tyint 1 rfl rfl ?_
                       refine p_goodC rfl ?_
                       refine wB 94 rfl y17 ?_
                       iterate 6 refine p_goodC rfl ?_
                       refine wE (.pointer (some ⟨b1, 14, none⟩)) rfl rfl rfl (fun aa ww hs _ => by have e1 := hs 1 _ rfl; have g1 := gt_of e1; simp only [execOp]; go_simp <;> omega) ?_
                       refine wLd rfl tyint 1 rfl rfl ?_
                       refine p_goodC rfl ?_
                       refine wB 103 rfl y23 ?_
                       refine p_goodC rfl ?_
                       refine wE (.pointer (some ⟨b1, 14, none⟩)) rfl rfl rfl (fun aa ww hs _ => by have e1 := hs 1 _ rfl; have g1 := gt_of e1; simp only [execOp]; go_simp <;> omega) ?_
                       refine wLd rfl tyint 1 rfl rfl ?_
                       refine p_goodC rfl ?_
                       refine wB 107 rfl y24 ?_
                       iterate 13 refine p_goodC rfl ?_
                       refine wN ?_
                       refine tN (wKK hK27 ?_)
                       refine wRet ?_
                       exact wR1 rfl rfl (fun ww H => ⟨by unfold goodR; rw [show headR r = false by unfold headR; simp only [y1, y2, y3, cond_true, cond_false, Bool.not_true, Bool.not_false, Bool.true_and, Bool.and_true, Bool.false_and, Bool.and_false, Bool.true_or, Bool.or_true, Bool.false_or, Bool.or_false], hall]; unfold whoR filR szR; simp only [y13, y14, y15, y16, y17, y23, y24, cond_true, cond_false, Bool.not_true, Bool.not_false, Bool.true_and, Bool.and_true, Bool.false_and, Bool.and_false, Bool.true_or, Bool.or_true, Bool.false_or, Bool.or_false], H.out.off⟩)
                   · skip
                     have y23d : ¬ (0 < (r.getD 14 0)) := of_decide_eq_false y23
                     refine wReg ?_
                     refine wE (.pointer (some ⟨b1, 14, none⟩)) rfl rfl rfl (fun aa ww hs _ => by have e1 := hs 1 _ rfl; have g1 := gt_of e1; simp only [execOp]; go_simp <;> omega) ?_
                     refine wLd rfl tyint 1 rfl rfl ?_
                     refine p_goodC rfl ?_
                     refine wB 94 rfl y17 ?_
                     iterate 6 refine p_goodC rfl ?_
                     refine wE (.pointer (some ⟨b1, 14, none⟩)) rfl rfl rfl (fun aa ww hs _ => by have e1 := hs 1 _ rfl; have g1 := gt_of e1; simp only [execOp]; go_simp <;> omega) ?_
                     refine wLd rfl tyint 1 rfl rfl ?_
                     refine p_goodC rfl ?_
                     refine wB 103 rfl y23 ?_
                     iterate 17 refine p_goodC rfl ?_
                     refine wN ?_
                     refine tN (wKK hK27 ?_)
                     refine wRet ?_
                     exact wR1 rfl rfl (fun ww H => ⟨by unfold goodR; rw [show headR r = false by unfold headR; simp only [y1, y2, y3, cond_true, cond_false, Bool.not_true, Bool.not_false, Bool.true_and, Bool.and_true, Bool.false_and, Bool.and_false, Bool.true_or, Bool.or_true, Bool.false_or, Bool.or_false], hall]; unfold whoR filR szR; simp only [y13, y14, y15, y16, y17, y23, cond_true, cond_false, Bool.not_true, Bool.not_false, Bool.true_and, Bool.and_true, Bool.false_and, Bool.and_false, Bool.true_or, Bool.or_true, Bool.false_or, Bool.or_false], H.out.off⟩)
         · skip
           have y13d : ¬ (0 < ((sizeL (r.getD 0 0)).getD 2 0)) := of_decide_eq_false y13
           rcases Bool.eq_false_or_eq_true (decide (1073741824 < r.getD 11 0)) with y27 | y27
           · skip
             have y27d : 1073741824 < (r.getD 11 0) := of_decide_eq_true y27
             refine wReg ?_
             refine wE (.pointer (some ⟨b3, 2, none⟩)) rfl rfl rfl (fun aa ww hs _ => by have e3 := hs 3 _ rfl; have g3 := gt_of e3; simp only [execOp]; go_simp <;> omega) ?_
             refine wLd rfl tyint 0 rfl rfl ?_
             refine p_goodC rfl ?_
             refine wB 76 rfl y13 ?_
             iterate 11 refine p_goodC rfl ?_
             refine wE (.pointer (some ⟨b1, 11, none⟩)) rfl rfl rfl (fun aa ww hs _ => by have e1 := hs 1 _ rfl; have g1 := gt_of e1; simp only [execOp]; go_simp <;> omega) ?_
             refine wLd rfl tyint 1 rfl rfl ?_
             refine p_goodC rfl ?_
             refine wB 90 rfl y27 ?_
             refine p_goodC rfl ?_
             refine wN ?_
             refine tN (wKK hK23 ?_)
             refine wCt rfl ?_
             refine wSeqK fun KK28 hK28 => ?_
             refine wReg ?_
             refine p_goodC rfl ?_
             refine wN ?_
             refine tN (wKK hK28 ?_)
             refine wRet ?_
             refine tR ?_
             exact wR1 rfl rfl (fun ww H => ⟨by unfold goodR; rw [show headR r = false by unfold headR; simp only [y1, y2, y3, cond_true, cond_false, Bool.not_true, Bool.not_false, Bool.true_and, Bool.and_true, Bool.false_and, Bool.and_false, Bool.true_or, Bool.or_true, Bool.false_or, Bool.or_false], hall]; unfold whoR filR szR; simp only [y13, y27, cond_true, cond_false, Bool.not_true, Bool.not_false, Bool.true_and, Bool.and_true, Bool.false_and, Bool.and_false, Bool.true_or, Bool.or_true, Bool.false_or, Bool.or_false], H.out.off⟩)
           · skip
             have y27d : ¬ (1073741824 < (r.getD 11 0)) := of_decide_eq_false y27
             refine wReg ?_
             refine wE (.pointer (some ⟨b3, 2, none⟩)) rfl rfl rfl (fun aa ww hs _ => by have e3 := hs 3 _ rfl; have g3 := gt_of e3; simp only [execOp]; go_simp <;> omega) ?_
             refine wLd rfl tyint 0 rfl rfl ?_
             refine p_goodC rfl ?_
             refine wB 76 rfl y13 ?_
             iterate 11 refine p_goodC rfl ?_
             refine wE (.pointer (some ⟨b1, 11, none⟩)) rfl rfl rfl (fun aa ww hs _ => by have e1 := hs 1 _ rfl; have g1 := gt_of e1; simp only [execOp]; go_simp <;> omega) ?_
             refine wLd rfl tyint 1 rfl rfl ?_
             refine p_goodC rfl ?_
             refine wB 90 rfl y27 ?_
             refine p_goodC rfl ?_
             refine wN ?_
             refine tN (wKK hK23 ?_)
             refine wCf rfl ?_
             refine wSk ?_
             refine tN (wKK hK22 ?_)
             refine wSeqK fun KK29 hK29 => ?_
             rcases Bool.eq_false_or_eq_true ((r.getD 14 0) == 0) with y28 | y28
             · skip
               have y28o : ((r.getD 14 0) != 0) = false := eqq_t y28
               rcases Bool.eq_false_or_eq_true ((r.getD 15 0) == 0) with y29 | y29
               · skip
                 have y29o : ((r.getD 15 0) != 0) = false := eqq_t y29
                 refine wReg ?_
                 refine wE (.pointer (some ⟨b1, 14, none⟩)) rfl rfl rfl (fun aa ww hs _ => by have e1 := hs 1 _ rfl; have g1 := gt_of e1; simp only [execOp]; go_simp <;> omega) ?_
                 refine wLd rfl tyint 1 rfl rfl ?_
                 refine p_goodC rfl ?_
                 refine wB 94 rfl y28 ?_
                 refine p_goodC rfl ?_
                 refine wE (.pointer (some ⟨b1, 15, none⟩)) rfl rfl rfl (fun aa ww hs _ => by have e1 := hs 1 _ rfl; have g1 := gt_of e1; simp only [execOp]; go_simp <;> omega) ?_
                 refine wLd rfl tyint 1 rfl rfl ?_
                 refine p_goodC rfl ?_
                 refine wB 98 rfl y29 ?_
                 iterate 22 refine p_goodC rfl ?_
                 refine wN ?_
                 refine tN (wKK hK29 ?_)
                 refine wRet ?_
                 exact wR1 rfl rfl (fun ww H => ⟨by unfold goodR; rw [show headR r = false by unfold headR; simp only [y1, y2, y3, cond_true, cond_false, Bool.not_true, Bool.not_false, Bool.true_and, Bool.and_true, Bool.false_and, Bool.and_false, Bool.true_or, Bool.or_true, Bool.false_or, Bool.or_false], hall]; unfold whoR filR szR; simp only [y13, y27, y28, y29, cond_true, cond_false, Bool.not_true, Bool.not_false, Bool.true_and, Bool.and_true, Bool.false_and, Bool.and_false, Bool.true_or, Bool.or_true, Bool.false_or, Bool.or_false], H.out.off⟩)
               · skip
                 have y29o : ((r.getD 15 0) != 0) = true := eqq_f y29
                 rcases Bool.eq_false_or_eq_true (decide (0 < r.getD 14 0)) with y30 | y30
                 · skip
                   have y30d : 0 < (r.getD 14 0) := of_decide_eq_true y30
                   rcases Bool.eq_false_or_eq_true (decide (r.getD 14 0 < 4)) with y31 | y31
                   · skip
                     have y31d : (r.getD 14 0) < 4 := of_decide_eq_true y31
                     rcases Bool.eq_false_or_eq_true (decide (0 < r.getD 15 0)) with y32 | y32
                     · skip
                       have y32d : 0 < (r.getD 15 0) := of_decide_eq_true y32
                       rcases Bool.eq_false_or_eq_true (decide (r.getD 15 0 ≤ 1073741824)) with y33 | y33
                       · skip
                         have y33d : (r.getD 15 0) ≤ 1073741824 := of_decide_eq_true y33
                         refine wReg ?_
                         refine wE (.pointer (some ⟨b1, 14, none⟩)) rfl rfl rfl (fun aa ww hs _ => by have e1 := hs 1 _ rfl; have g1 := gt_of e1; simp only [execOp]; go_simp <;> omega) ?_
                         refine wLd rfl tyint 1 rfl rfl ?_
                         refine p_goodC rfl ?_
                         refine wB 94 rfl y28 ?_
                         refine p_goodC rfl ?_
                         refine wE (.pointer (some ⟨b1, 15, none⟩)) rfl rfl rfl (fun aa ww hs _ => by have e1 := hs 1 _ rfl; have g1 := gt_of e1; simp only [execOp]; go_simp <;> omega) ?_
                         refine wLd rfl tyint 1 rfl rfl ?_
                         refine p_goodC rfl ?_
                         refine wB 98 rfl y29 ?_
                         iterate 2 refine p_goodC rfl ?_
                         refine wE (.pointer (some ⟨b1, 14, none⟩)) rfl rfl rfl (fun aa ww hs _ => by have e1 := hs 1 _ rfl; have g1 := gt_of e1; simp only [execOp]; go_simp <;> omega) ?_
                         refine wLd rfl tyint 1 rfl rfl ?_
                         refine p_goodC rfl ?_
                         refine wB 103 rfl y30 ?_
                         refine p_goodC rfl ?_
                         refine wE (.pointer (some ⟨b1, 14, none⟩)) rfl rfl rfl (fun aa ww hs _ => by have e1 := hs 1 _ rfl; have g1 := gt_of e1; simp only [execOp]; go_simp <;> omega) ?_
                         refine wLd rfl tyint 1 rfl rfl ?_
                         refine p_goodC rfl ?_
                         refine wB 107 rfl y31 ?_
                         iterate 2 refine p_goodC rfl ?_
                         refine wE (.pointer (some ⟨b1, 15, none⟩)) rfl rfl rfl (fun aa ww hs _ => by have e1 := hs 1 _ rfl; have g1 := gt_of e1; simp only [execOp]; go_simp <;> omega) ?_
                         refine wLd rfl tyint 1 rfl rfl ?_
                         refine p_goodC rfl ?_
                         refine wB 112 rfl y32 ?_
                         iterate 2 refine p_goodC rfl ?_
                         refine wE (.pointer (some ⟨b1, 15, none⟩)) rfl rfl rfl (fun aa ww hs _ => by have e1 := hs 1 _ rfl; have g1 := gt_of e1; simp only [execOp]; go_simp <;> omega) ?_
                         refine wLd rfl tyint 1 rfl rfl ?_
                         refine p_goodC rfl ?_
                         refine wB 117 rfl y33 ?_
                         iterate 3 refine p_goodC rfl ?_
                         refine wN ?_
                         refine tN (wKK hK29 ?_)
                         refine wRet ?_
                         exact wR1 rfl rfl (fun ww H => ⟨by unfold goodR; rw [show headR r = false by unfold headR; simp only [y1, y2, y3, cond_true, cond_false, Bool.not_true, Bool.not_false, Bool.true_and, Bool.and_true, Bool.false_and, Bool.and_false, Bool.true_or, Bool.or_true, Bool.false_or, Bool.or_false], hall]; unfold whoR filR szR; simp only [y13, y27, y28, y29, y30, y31, y32, y33, cond_true, cond_false, Bool.not_true, Bool.not_false, Bool.true_and, Bool.and_true, Bool.false_and, Bool.and_false, Bool.true_or, Bool.or_true, Bool.false_or, Bool.or_false], H.out.off⟩)
                       · skip
                         have y33d : ¬ ((r.getD 15 0) ≤ 1073741824) := of_decide_eq_false y33
                         refine wReg ?_
                         refine wE (.pointer (some ⟨b1, 14, none⟩)) rfl rfl rfl (fun aa ww hs _ => by have e1 := hs 1 _ rfl; have g1 := gt_of e1; simp only [execOp]; go_simp <;> omega) ?_
                         refine wLd rfl tyint 1 rfl rfl ?_
                         refine p_goodC rfl ?_
                         refine wB 94 rfl y28 ?_
                         refine p_goodC rfl ?_
                         refine wE (.pointer (some ⟨b1, 15, none⟩)) rfl rfl rfl (fun aa ww hs _ => by have e1 := hs 1 _ rfl; have g1 := gt_of e1; simp only [execOp]; go_simp <;> omega) ?_
                         refine wLd rfl tyint 1 rfl rfl ?_
                         refine p_goodC rfl ?_
                         refine wB 98 rfl y29 ?_
                         iterate 2 refine p_goodC rfl ?_
                         refine wE (.pointer (some ⟨b1, 14, none⟩)) rfl rfl rfl (fun aa ww hs _ => by have e1 := hs 1 _ rfl; have g1 := gt_of e1; simp only [execOp]; go_simp <;> omega) ?_
                         refine wLd rfl tyint 1 rfl rfl ?_
                         refine p_goodC rfl ?_
                         refine wB 103 rfl y30 ?_
                         refine p_goodC rfl ?_
                         refine wE (.pointer (some ⟨b1, 14, none⟩)) rfl rfl rfl (fun aa ww hs _ => by have e1 := hs 1 _ rfl; have g1 := gt_of e1; simp only [execOp]; go_simp <;> omega) ?_
                         refine wLd rfl tyint 1 rfl rfl ?_
                         refine p_goodC rfl ?_
                         refine wB 107 rfl y31 ?_
                         iterate 2 refine p_goodC rfl ?_
                         refine wE (.pointer (some ⟨b1, 15, none⟩)) rfl rfl rfl (fun aa ww hs _ => by have e1 := hs 1 _ rfl; have g1 := gt_of e1; simp only [execOp]; go_simp <;> omega) ?_
                         refine wLd rfl tyint 1 rfl rfl ?_
                         refine p_goodC rfl ?_
                         refine wB 112 rfl y32 ?_
                         iterate 2 refine p_goodC rfl ?_
                         refine wE (.pointer (some ⟨b1, 15, none⟩)) rfl rfl rfl (fun aa ww hs _ => by have e1 := hs 1 _ rfl; have g1 := gt_of e1; simp only [execOp]; go_simp <;> omega) ?_
                         refine wLd rfl tyint 1 rfl rfl ?_
                         refine p_goodC rfl ?_
                         refine wB 117 rfl y33 ?_
                         iterate 3 refine p_goodC rfl ?_
                         refine wN ?_
                         refine tN (wKK hK29 ?_)
                         refine wRet ?_
                         exact wR1 rfl rfl (fun ww H => ⟨by unfold goodR; rw [show headR r = false by unfold headR; simp only [y1, y2, y3, cond_true, cond_false, Bool.not_true, Bool.not_false, Bool.true_and, Bool.and_true, Bool.false_and, Bool.and_false, Bool.true_or, Bool.or_true, Bool.false_or, Bool.or_false], hall]; unfold whoR filR szR; simp only [y13, y27, y28, y29, y30, y31, y32, y33, cond_true, cond_false, Bool.not_true, Bool.not_false, Bool.true_and, Bool.and_true, Bool.false_and, Bool.and_false, Bool.true_or, Bool.or_true, Bool.false_or, Bool.or_false], H.out.off⟩)
                     · skip
                       have y32d : ¬ (0 < (r.getD 15 0)) := of_decide_eq_false y32
                       refine wReg ?_
                       refine wE (.pointer (some ⟨b1, 14, none⟩)) rfl rfl rfl (fun aa ww hs _ => by have e1 := hs 1 _ rfl; have g1 := gt_of e1; simp only [execOp]; go_simp <;> omega) ?_
                       refine wLd rfl tyint 1 rfl rfl ?_
                       refine p_goodC rfl ?_
                       refine wB 94 rfl y28 ?_
                       refine p_goodC rfl ?_
                       refine wE (.pointer (some ⟨b1, 15, none⟩)) rfl rfl rfl (fun aa ww hs _ => by have e1 := hs 1 _ rfl; have g1 := gt_of e1; simp only [execOp]; go_simp <;> omega) ?_
                       refine wLd rfl tyint 1 rfl rfl ?_
                       refine p_goodC rfl ?_
                       refine wB 98 rfl y29 ?_
                       iterate 2 refine p_goodC rfl ?_
                       refine wE (.pointer (some ⟨b1, 14, none⟩)) rfl rfl rfl (fun aa ww hs _ => by have e1 := hs 1 _ rfl; have g1 := gt_of e1; simp only [execOp]; go_simp <;> omega) ?_
                       refine wLd rfl tyint 1 rfl rfl ?_
                       refine p_goodC rfl ?_
                       refine wB 103 rfl y30 ?_
                       refine p_goodC rfl ?_
                       refine wE (.pointer (some ⟨b1, 14, none⟩)) rfl rfl rfl (fun aa ww hs _ => by have e1 := hs 1 _ rfl; have g1 := gt_of e1; simp only [execOp]; go_simp <;> omega) ?_
                       refine wLd rfl tyint 1 rfl rfl ?_
                       refine p_goodC rfl ?_
                       refine wB 107 rfl y31 ?_
                       iterate 2 refine p_goodC rfl ?_
                       refine wE (.pointer (some ⟨b1, 15, none⟩)) rfl rfl rfl (fun aa ww hs _ => by have e1 := hs 1 _ rfl; have g1 := gt_of e1; simp only [execOp]; go_simp <;> omega) ?_
                       refine wLd rfl tyint 1 rfl rfl ?_
                       refine p_goodC rfl ?_
                       refine wB 112 rfl y32 ?_
                       iterate 8 refine p_goodC rfl ?_
                       refine wN ?_
                       refine tN (wKK hK29 ?_)
                       refine wRet ?_
                       exact wR1 rfl rfl (fun ww H => ⟨by unfold goodR; rw [show headR r = false by unfold headR; simp only [y1, y2, y3, cond_true, cond_false, Bool.not_true, Bool.not_false, Bool.true_and, Bool.and_true, Bool.false_and, Bool.and_false, Bool.true_or, Bool.or_true, Bool.false_or, Bool.or_false], hall]; unfold whoR filR szR; simp only [y13, y27, y28, y29, y30, y31, y32, cond_true, cond_false, Bool.not_true, Bool.not_false, Bool.true_and, Bool.and_true, Bool.false_and, Bool.and_false, Bool.true_or, Bool.or_true, Bool.false_or, Bool.or_false], H.out.off⟩)
                   · skip
                     have y31d : ¬ ((r.getD 14 0) < 4) := of_decide_eq_false y31
                     refine wReg ?_
                     refine wE (.pointer (some ⟨b1, 14, none⟩)) rfl rfl rfl (fun aa ww hs _ => by have e1 := hs 1 _ rfl; have g1 := gt_of e1; simp only [execOp]; go_simp <;> omega) ?_
                     refine wLd rfl tyint 1 rfl rfl ?_
                     refine p_goodC rfl ?_
                     refine wB 94 rfl y28 ?_
                     refine p_goodC rfl ?_
                     refine wE (.pointer (some ⟨b1, 15, none⟩)) rfl rfl rfl (fun aa ww hs _ => by have e1 := hs 1 _ rfl; have g1 := gt_of e1; simp only [execOp]; go_simp <;> omega) ?_
                     refine wLd rfl tyint 1 rfl rfl ?_
                     refine p_goodC rfl ?_
                     refine wB 98 rfl y29 ?_
                     iterate 2 refine p_goodC rfl ?_
                     refine wE (.pointer (some ⟨b1, 14, none⟩)) rfl rfl rfl (fun aa ww hs _ => by have e1 := hs 1 _ rfl; have g1 := gt_of e1; simp only [execOp]; go_simp <;> omega) ?_
                     refine wLd rfl tyint 1 rfl rfl ?_
                     refine p_goodC rfl ?_
                     refine wB 103 rfl y30 ?_
                     refine p_goodC rfl ?_
                     refine wE (.pointer (some ⟨b1, 14, none⟩)) rfl rfl rfl (fun aa ww hs _ => by have e1 := hs 1 _ rfl; have g1 := gt_of e1; simp only [execOp]; go_simp <;> omega) ?_
                     refine wLd rfl tyint 1 rfl rfl ?_
                     refine p_goodC rfl ?_
                     refine wB 107 rfl y31 ?_
                     iterate 13 refine p_goodC rfl ?_
                     refine wN ?_
                     refine tN (wKK hK29 ?_)
                     refine wRet ?_
                     exact wR1 rfl rfl (fun ww H => ⟨by unfold goodR; rw [show headR r = false by unfold headR; simp only [y1, y2, y3, cond_true, cond_false, Bool.not_true, Bool.not_false, Bool.true_and, Bool.and_true, Bool.false_and, Bool.and_false, Bool.true_or, Bool.or_true, Bool.false_or, Bool.or_false], hall]; unfold whoR filR szR; simp only [y13, y27, y28, y29, y30, y31, cond_true, cond_false, Bool.not_true, Bool.not_false, Bool.true_and, Bool.and_true, Bool.false_and, Bool.and_false, Bool.true_or, Bool.or_true, Bool.false_or, Bool.or_false], H.out.off⟩)
                 · skip
                   have y30d : ¬ (0 < (r.getD 14 0)) := of_decide_eq_false y30
                   refine wReg ?_
                   refine wE (.pointer (some ⟨b1, 14, none⟩)) rfl rfl rfl (fun aa ww hs _ => by have e1 := hs 1 _ rfl; have g1 := gt_of e1; simp only [execOp]; go_simp <;> omega) ?_
                   refine wLd rfl tyint 1 rfl rfl ?_
                   refine p_goodC rfl ?_
                   refine wB 94 rfl y28 ?_
                   refine p_goodC rfl ?_
                   refine wE (.pointer (some ⟨b1, 15, none⟩)) rfl rfl rfl (fun aa ww hs _ => by have e1 := hs 1 _ rfl; have g1 := gt_of e1; simp only [execOp]; go_simp <;> omega) ?_
                   refine wLd rfl tyint 1 rfl rfl ?_
                   refine p_goodC rfl ?_
                   refine wB 98 rfl y29 ?_
                   iterate 2 refine p_goodC rfl ?_
                   refine wE (.pointer (some ⟨b1, 14, none⟩)) rfl rfl rfl (fun aa ww hs _ => by have e1 := hs 1 _ rfl; have g1 := gt_of e1; simp only [execOp]; go_simp <;> omega) ?_
                   refine wLd rfl tyint 1 rfl rfl ?_
                   refine p_goodC rfl ?_
                   refine wB 103 rfl y30 ?_
                   iterate 17 refine p_goodC rfl ?_
                   refine wN ?_
                   refine tN (wKK hK29 ?_)
                   refine wRet ?_
                   exact wR1 rfl rfl (fun ww H => ⟨by unfold goodR; rw [show headR r = false by unfold headR; simp only [y1, y2, y3, cond_true, cond_false, Bool.not_true, Bool.not_false, Bool.true_and, Bool.and_true, Bool.false_and, Bool.and_false, Bool.true_or, Bool.or_true, Bool.false_or, Bool.or_false], hall]; unfold whoR filR szR; simp only [y13, y27, y28, y29, y30, cond_true, cond_false, Bool.not_true, Bool.not_false, Bool.true_and, Bool.and_true, Bool.false_and, Bool.and_false, Bool.true_or, Bool.or_true, Bool.false_or, Bool.or_false], H.out.off⟩)
             · skip
               have y28o : ((r.getD 14 0) != 0) = true := eqq_f y28
               rcases Bool.eq_false_or_eq_true (decide (0 < r.getD 14 0)) with y34 | y34
               · skip
                 have y34d : 0 < (r.getD 14 0) := of_decide_eq_true y34
                 rcases Bool.eq_false_or_eq_true (decide (r.getD 14 0 < 4)) with y35 | y35
                 · skip
                   have y35d : (r.getD 14 0) < 4 := of_decide_eq_true y35
                   rcases Bool.eq_false_or_eq_true (decide (0 < r.getD 15 0)) with y36 | y36
                   · skip
                     have y36d : 0 < (r.getD 15 0) := of_decide_eq_true y36
                     rcases Bool.eq_false_or_eq_true (decide (r.getD 15 0 ≤ 1073741824)) with y37 | y37
                     · skip
                       have y37d : (r.getD 15 0) ≤ 1073741824 := of_decide_eq_true y37
                       refine wReg ?_
                       refine wE (.pointer (some ⟨b1, 14, none⟩)) rfl rfl rfl (fun aa ww hs _ => by have e1 := hs 1 _ rfl; have g1 := gt_of e1; simp only [execOp]; go_simp <;> omega) ?_
                       refine wLd rfl tyint 1 rfl rfl ?_
                       refine p_goodC rfl ?_
                       refine wB 94 rfl y28 ?_
                       iterate 6 refine p_goodC rfl ?_
                       refine wE (.pointer (some ⟨b1, 14, none⟩)) rfl rfl rfl (fun aa ww hs _ => by have e1 := hs 1 _ rfl; have g1 := gt_of e1; simp only [execOp]; go_simp <;> omega) ?_
                       refine wLd rfl tyint 1 rfl rfl ?_
                       refine p_goodC rfl ?_
                       refine wB 103 rfl y34 ?_
                       refine p_goodC rfl ?_
                       refine wE (.pointer (some ⟨b1, 14, none⟩)) rfl rfl rfl (fun aa ww hs _ => by have e1 := hs 1 _ rfl; have g1 := gt_of e1; simp only [execOp]; go_simp <;> omega) ?_
                       refine wLd rfl tyint 1 rfl rfl ?_
                       refine p_goodC rfl ?_
                       refine wB 107 rfl y35 ?_
                       iterate 2 refine p_goodC rfl ?_
                       refine wE (.pointer (some ⟨b1, 15, none⟩)) rfl rfl rfl (fun aa ww hs _ => by have e1 := hs 1 _ rfl; have g1 := gt_of e1; simp only [execOp]; go_simp <;> omega) ?_
                       refine wLd rfl tyint 1 rfl rfl ?_
                       refine p_goodC rfl ?_
                       refine wB 112 rfl y36 ?_
                       iterate 2 refine p_goodC rfl ?_
                       refine wE (.pointer (some ⟨b1, 15, none⟩)) rfl rfl rfl (fun aa ww hs _ => by have e1 := hs 1 _ rfl; have g1 := gt_of e1; simp only [execOp]; go_simp <;> omega) ?_
                       refine wLd rfl tyint 1 rfl rfl ?_
                       refine p_goodC rfl ?_
                       refine wB 117 rfl y37 ?_
                       iterate 3 refine p_goodC rfl ?_
                       refine wN ?_
                       refine tN (wKK hK29 ?_)
                       refine wRet ?_
                       exact wR1 rfl rfl (fun ww H => ⟨by unfold goodR; rw [show headR r = false by unfold headR; simp only [y1, y2, y3, cond_true, cond_false, Bool.not_true, Bool.not_false, Bool.true_and, Bool.and_true, Bool.false_and, Bool.and_false, Bool.true_or, Bool.or_true, Bool.false_or, Bool.or_false], hall]; unfold whoR filR szR; simp only [y13, y27, y28, y34, y35, y36, y37, cond_true, cond_false, Bool.not_true, Bool.not_false, Bool.true_and, Bool.and_true, Bool.false_and, Bool.and_false, Bool.true_or, Bool.or_true, Bool.false_or, Bool.or_false], H.out.off⟩)
                     · skip
                       have y37d : ¬ ((r.getD 15 0) ≤ 1073741824) := of_decide_eq_false y37
                       refine wReg ?_
                       refine wE (.pointer (some ⟨b1, 14, none⟩)) rfl rfl rfl (fun aa ww hs _ => by have e1 := hs 1 _ rfl; have g1 := gt_of e1; simp only [execOp]; go_simp <;> omega) ?_
                       refine wLd rfl tyint 1 rfl rfl ?_
                       refine p_goodC rfl ?_
                       refine wB 94 rfl y28 ?_
                       iterate 6 refine p_goodC rfl ?_
                       refine wE (.pointer (some ⟨b1, 14, none⟩)) rfl rfl rfl (fun aa ww hs _ => by have e1 := hs 1 _ rfl; have g1 := gt_of e1; simp only [execOp]; go_simp <;> omega) ?_
                       refine wLd rfl tyint 1 rfl rfl ?_
                       refine p_goodC rfl ?_
                       refine wB 103 rfl y34 ?_
                       refine p_goodC rfl ?_
                       refine wE (.pointer (some ⟨b1, 14, none⟩)) rfl rfl rfl (fun aa ww hs _ => by have e1 := hs 1 _ rfl; have g1 := gt_of e1; simp only [execOp]; go_simp <;> omega) ?_
                       refine wLd rfl tyint 1 rfl rfl ?_
                       refine p_goodC rfl ?_
                       refine wB 107 rfl y35 ?_
                       iterate 2 refine p_goodC rfl ?_
                       refine wE (.pointer (some ⟨b1, 15, none⟩)) rfl rfl rfl (fun aa ww hs _ => by have e1 := hs 1 _ rfl; have g1 := gt_of e1; simp only [execOp]; go_simp <;> omega) ?_
                       refine wLd rfl tyint 1 rfl rfl ?_
                       refine p_goodC rfl ?_
                       refine wB 112 rfl y36 ?_
                       iterate 2 refine p_goodC rfl ?_
                       refine wE (.pointer (some ⟨b1, 15, none⟩)) rfl rfl rfl (fun aa ww hs _ => by have e1 := hs 1 _ rfl; have g1 := gt_of e1; simp only [execOp]; go_simp <;> omega) ?_
                       refine wLd rfl tyint 1 rfl rfl ?_
                       refine p_goodC rfl ?_
                       refine wB 117 rfl y37 ?_
                       iterate 3 refine p_goodC rfl ?_
                       refine wN ?_
                       refine tN (wKK hK29 ?_)
                       refine wRet ?_
                       exact wR1 rfl rfl (fun ww H => ⟨by unfold goodR; rw [show headR r = false by unfold headR; simp only [y1, y2, y3, cond_true, cond_false, Bool.not_true, Bool.not_false, Bool.true_and, Bool.and_true, Bool.false_and, Bool.and_false, Bool.true_or, Bool.or_true, Bool.false_or, Bool.or_false], hall]; unfold whoR filR szR; simp only [y13, y27, y28, y34, y35, y36, y37, cond_true, cond_false, Bool.not_true, Bool.not_false, Bool.true_and, Bool.and_true, Bool.false_and, Bool.and_false, Bool.true_or, Bool.or_true, Bool.false_or, Bool.or_false], H.out.off⟩)
                   · skip
                     have y36d : ¬ (0 < (r.getD 15 0)) := of_decide_eq_false y36
                     refine wReg ?_
                     refine wE (.pointer (some ⟨b1, 14, none⟩)) rfl rfl rfl (fun aa ww hs _ => by have e1 := hs 1 _ rfl; have g1 := gt_of e1; simp only [execOp]; go_simp <;> omega) ?_
                     refine wLd rfl tyint 1 rfl rfl ?_
                     refine p_goodC rfl ?_
                     refine wB 94 rfl y28 ?_
                     iterate 6 refine p_goodC rfl ?_
                     refine wE (.pointer (some ⟨b1, 14, none⟩)) rfl rfl rfl (fun aa ww hs _ => by have e1 := hs 1 _ rfl; have g1 := gt_of e1; simp only [execOp]; go_simp <;> omega) ?_
                     refine wLd rfl tyint 1 rfl rfl ?_
                     refine p_goodC rfl ?_
                     refine wB 103 rfl y34 ?_
                     refine p_goodC rfl ?_
                     refine wE (.pointer (some ⟨b1, 14, none⟩)) rfl rfl rfl (fun aa ww hs _ => by have e1 := hs 1 _ rfl; have g1 := gt_of e1; simp only [execOp]; go_simp <;> omega) ?_
                     refine wLd rfl tyint 1 rfl rfl ?_
                     refine p_goodC rfl ?_
                     refine wB 107 rfl y35 ?_
                     iterate 2 refine p_goodC rfl ?_
                     refine wE (.pointer (some ⟨b1, 15, none⟩)) rfl rfl rfl (fun aa ww hs _ => by have e1 := hs 1 _ rfl; have g1 := gt_of e1; simp only [execOp]; go_simp <;> omega) ?_
                     refine wLd rfl tyint 1 rfl rfl ?_
                     refine p_goodC rfl ?_
                     refine wB 112 rfl y36 ?_
                     iterate 8 refine p_goodC rfl ?_
                     refine wN ?_
                     refine tN (wKK hK29 ?_)
                     refine wRet ?_
                     exact wR1 rfl rfl (fun ww H => ⟨by unfold goodR; rw [show headR r = false by unfold headR; simp only [y1, y2, y3, cond_true, cond_false, Bool.not_true, Bool.not_false, Bool.true_and, Bool.and_true, Bool.false_and, Bool.and_false, Bool.true_or, Bool.or_true, Bool.false_or, Bool.or_false], hall]; unfold whoR filR szR; simp only [y13, y27, y28, y34, y35, y36, cond_true, cond_false, Bool.not_true, Bool.not_false, Bool.true_and, Bool.and_true, Bool.false_and, Bool.and_false, Bool.true_or, Bool.or_true, Bool.false_or, Bool.or_false], H.out.off⟩)
                 · skip
                   have y35d : ¬ ((r.getD 14 0) < 4) := of_decide_eq_false y35
                   refine wReg ?_
                   refine wE (.pointer (some ⟨b1, 14, none⟩)) rfl rfl rfl (fun aa ww hs _ => by have e1 := hs 1 _ rfl; have g1 := gt_of e1; simp only [execOp]; go_simp <;> omega) ?_
                   refine wLd rfl tyint 1 rfl rfl ?_
                   refine p_goodC rfl ?_
                   refine wB 94 rfl y28 ?_
                   iterate 6 refine p_goodC rfl ?_
                   refine wE (.pointer (some ⟨b1, 14, none⟩)) rfl rfl rfl (fun aa ww hs _ => by have e1 := hs 1 _ rfl; have g1 := gt_of e1; simp only [execOp]; go_simp <;> omega) ?_
                   refine wLd rfl tyint 1 rfl rfl ?_
                   refine p_goodC rfl ?_
                   refine wB 103 rfl y34 ?_
                   refine p_goodC rfl ?_
                   refine wE (.pointer (some ⟨b1, 14, none⟩)) rfl rfl rfl (fun aa ww hs _ => by have e1 := hs 1 _ rfl; have g1 := gt_of e1; simp only [execOp]; go_simp <;> omega) ?_
                   refine wLd rfl tyint 1 rfl rfl ?_
                   refine p_goodC rfl ?_
                   refine wB 107 rfl y35 ?_
                   iterate 13 refine p_goodC rfl ?_
                   refine wN ?_
                   refine tN (wKK hK29 ?_)
                   refine wRet ?_
                   exact wR1 rfl rfl (fun ww H => ⟨by unfold goodR; rw [show headR r = false by unfold headR; simp only [y1, y2, y3, cond_true, cond_false, Bool.not_true, Bool.not_false, Bool.true_and, Bool.and_true, Bool.false_and, Bool.and_false, Bool.true_or, Bool.or_true, Bool.false_or, Bool.or_false], hall]; unfold whoR filR szR; simp only [y13, y27, y28, y34, y35, cond_true, cond_false, Bool.not_true, Bool.not_false, Bool.true_and, Bool.and_true, Bool.false_and, Bool.and_false, Bool.true_or, Bool.or_true, Bool.false_or, Bool.or_false], H.out.off⟩)
               · skip
                 have y34d : ¬ (0 < (r.getD 14 0)) := of_decide_eq_false y34
                 refine wReg ?_
                 refine wE (.pointer (some ⟨b1, 14, none⟩)) rfl rfl rfl (fun aa ww hs _ => by have e1 := hs 1 _ rfl; have g1 := gt_of e1; simp only [execOp]; go_simp <;> omega) ?_
                 refine wLd rfl tyint 1 rfl rfl ?_
                 refine p_goodC rfl ?_
                 refine wB 94 rfl y28 ?_
                 iterate 6 refine p_goodC rfl ?_
                 refine wE (.pointer (some ⟨b1, 14, none⟩)) rfl rfl rfl (fun aa ww hs _ => by have e1 := hs 1 _ rfl; have g1 := gt_of e1; simp only [execOp]; go_simp <;> omega) ?_
                 refine wLd rfl tyint 1 rfl rfl ?_
                 refine p_goodC rfl ?_
                 refine wB 103 rfl y34 ?_
                 iterate 17 refine p_goodC rfl ?_
                 refine wN ?_
                 refine tN (wKK hK29 ?_)
                 refine wRet ?_
                 exact wR1 rfl rfl (fun ww H => ⟨by unfold goodR; rw [show headR r = false by unfold headR; simp only [y1, y2, y3, cond_true, cond_false, Bool.not_true, Bool.not_false, Bool.true_and, Bool.and_true, Bool.false_and, Bool.and_false, Bool.true_or, Bool.or_true, Bool.false_or, Bool.or_false], hall]; unfold whoR filR szR; simp only [y13, y27, y28, y34, cond_true, cond_false, Bool.not_true, Bool.not_false, Bool.true_and, Bool.and_true, Bool.false_and, Bool.and_false, Bool.true_or, Bool.or_true, Bool.false_or, Bool.or_false], H.out.off⟩)
 · skip
   refine wReg ?_
   refine wE (.pointer (some ⟨b1, 0, none⟩)) rfl rfl rfl (fun aa ww hs _ => by have e1 := hs 1 _ rfl; have g1 := gt_of e1; simp only [execOp]; go_simp <;> omega) ?_
   refine wLd rfl tyint 0 rfl rfl ?_
   refine wQ (l := [.int .i64 (r.getD 0 0)]) Tryz.func69 rfl (by kernel_rfl) (.tuple #[.agg #[.int .i64 ((sizeL (r.getD 0 0)).getD 0 0), .int .i64 ((sizeL (r.getD 0 0)).getD 1 0), .int .i64 ((sizeL (r.getD 0 0)).getD 2 0), .int .i64 ((sizeL (r.getD 0 0)).getD 3 0), .int .i64 ((sizeL (r.getD 0 0)).getD 4 0), .int .i64 ((sizeL (r.getD 0 0)).getD 5 0), .int .i64 ((sizeL (r.getD 0 0)).getD 6 0), .int .i64 ((sizeL (r.getD 0 0)).getD 7 0), .int .i64 ((sizeL (r.getD 0 0)).getD 8 0), .int .i64 ((sizeL (r.getD 0 0)).getD 9 0), .int .i64 ((sizeL (r.getD 0 0)).getD 10 0), .int .i64 ((sizeL (r.getD 0 0)).getD 11 0), .int .i64 ((sizeL (r.getD 0 0)).getD 12 0), .int .i64 ((sizeL (r.getD 0 0)).getD 13 0), .int .i64 ((sizeL (r.getD 0 0)).getD 14 0), .int .i64 ((sizeL (r.getD 0 0)).getD 15 0)], .bool false]) (fun wc H => by have h := sizesC (r.getD 0 0) wc; rw [y1] at h; exact h) rfl rfl rfl rfl ?_
   iterate 3 refine p_goodC rfl ?_
   refine wAl rfl rfl ty_16_int fun b3 => ?_
   refine wSr rfl ty_16_int 0 rfl rfl rfl rfl [.int .i64 ((sizeL (r.getD 0 0)).getD 0 0), .int .i64 ((sizeL (r.getD 0 0)).getD 1 0), .int .i64 ((sizeL (r.getD 0 0)).getD 2 0), .int .i64 ((sizeL (r.getD 0 0)).getD 3 0), .int .i64 ((sizeL (r.getD 0 0)).getD 4 0), .int .i64 ((sizeL (r.getD 0 0)).getD 5 0), .int .i64 ((sizeL (r.getD 0 0)).getD 6 0), .int .i64 ((sizeL (r.getD 0 0)).getD 7 0), .int .i64 ((sizeL (r.getD 0 0)).getD 8 0), .int .i64 ((sizeL (r.getD 0 0)).getD 9 0), .int .i64 ((sizeL (r.getD 0 0)).getD 10 0), .int .i64 ((sizeL (r.getD 0 0)).getD 11 0), .int .i64 ((sizeL (r.getD 0 0)).getD 12 0), .int .i64 ((sizeL (r.getD 0 0)).getD 13 0), .int .i64 ((sizeL (r.getD 0 0)).getD 14 0), .int .i64 ((sizeL (r.getD 0 0)).getD 15 0)] (by first | rfl | (simp only [spl]; rfl)) ?_
   refine p_goodC rfl ?_
   refine wN ?_
   refine tN (wKK hK2 ?_)
   refine wSeqK fun KK30 hK30 => ?_
   refine wSeqK fun KK31 hK31 => ?_
   refine wReg ?_
   iterate 12 refine p_goodC rfl ?_
   refine wN ?_
   refine tN (wKK hK31 ?_)
   refine wCt rfl ?_
   refine wSeqK fun KK32 hK32 => ?_
   refine wReg ?_
   refine p_goodC rfl ?_
   refine wN ?_
   refine tN (wKK hK32 ?_)
   refine wRet ?_
   refine tR ?_
   exact wR1 rfl rfl (fun ww H => ⟨by unfold goodR headR; simp only [y1, cond_true, cond_false, Bool.not_true, Bool.not_false, Bool.true_and, Bool.and_true, Bool.false_and, Bool.and_false, Bool.true_or, Bool.or_true, Bool.false_or, Bool.or_false], H.out.off⟩)
end Go.Proofs.YthflkhalipkdgaaGreat.Ms
