/- Layer 35: MintApart. -/
import Derived.Test.YthflkhalipkdgaaProg
import Derived.Below
import Derived.WalkKit
import Derived.KernelRfl
import Derived.RowKit3
import Derived.Deep.LoopGhost
import Derived.Deep.QuietTactic
import Derived.BigQuiet
import Derived.WideLaws
import Derived.Deep.DeepCutAuto
import Derived.Deep.CutBlock
import Derived.Lib.Hide
import Derived.Laws.BitsLemmas
import Derived.Laws.Bits64
import Derived.Laws.BitsAllLaws
import Derived.IntWalk
import Derived.Outline
import Derived.WalkSpells
import Derived.Test.YthflkhalipkdgaaGA
import Derived.Test.YthflkhalipkdgaaMn8
namespace Go.Proofs.Ythflkhalipkdgaa.Mn
set_option maxRecDepth 20000
open Go.RowKit Go.Proofs.Ythflkhalipkdgaa.Mem Go.Proofs.Ythflkhalipkdgaa.Reg Go.Proofs.Ythflkhalipkdgaa.Wk Go.Proofs.Ythflkhalipkdgaa.Si Go.Proofs.Ythflkhalipkdgaa.Ca Go.Proofs.Ythflkhalipkdgaa.Ms Go.Proofs.Ythflkhalipkdgaa.Fr Go.Proofs.Ythflkhalipkdgaa.Bld
set_option linter.unusedVariables false
set_option linter.unusedSimpArgs false

theorem apart_round {x y sa sb : Nat} {A B : Int} (hA : A = (sa : Int)) (hB : B = (sb : Int)) (h : x = y ↔ sa = sb) (hx : x ≠ 0) : ((!(((nextN x : Int) == (nextN y : Int)) == (A == B))) || ((nextN x : Int) == 0)) = false := by
  have h1 : ((nextN x : Int) == (nextN y : Int)) = (A == B) := by
    rw [Bool.eq_iff_iff, beq_iff_eq, beq_iff_eq, hA, hB]
    exact ⟨fun e => by have := h.1 (nextN_inj (by omega)); omega, fun e => by rw [h.2 (by omega)]⟩
  have h2 : ((nextN x : Int) == 0) = false := by
    have := nextN_ne hx
    rw [beq_eq_false_iff_ne]
    omega
  rw [h1, h2]
  simp
theorem belR_ok (s : Nat) (n : Int) : 0 ≤ (belR s n).1 ∧ ((n < 1 ∧ (belR s n).1 = 0) ∨ (1 ≤ n ∧ (belR s n).1 < n)) := by
  unfold belR
  cases h : (decide (n < 1) || decide (2147483648 < n)) with
  | true =>
    simp at h ⊢
    omega
  | false =>
    simp at h
    have := belV_lt s (n := n) (by omega)
    show 0 ≤ belV s n ∧ ((n < 1 ∧ belV s n = 0) ∨ (1 ≤ n ∧ belV s n < n))
    omega
theorem apart_round1 {x y sa sb : Nat} {A : Int} (hA : A = (sa : Int)) (hB : A = (sb : Int)) (h : x = y ↔ sa = sb) (hx : x ≠ 0) : ((!((nextN x : Int) == (nextN y : Int))) || ((nextN x : Int) == 0)) = false := by
  have h1 := apart_round hA hB h hx
  rw [beq_self_eq_true] at h1
  revert h1
  cases ((nextN x : Int) == (nextN y : Int)) <;> exact id
theorem belR_fin (s : Nat) (n : Int) : (decide (0 ≤ (belR s n).1) && (decide (n < 1) && (belR s n).1 == 0 || decide (1 ≤ n) && decide ((belR s n).1 < n))) = true := by
  have h := belR_ok s n
  simp
  omega
theorem seedV_0 {s : Nat} (h : ((s : Int) == 0) = true) : (88172645463325252 : Int) = (seedV s : Int) := by
  unfold seedV
  rw [h]
  rfl
theorem seedV_1 {s : Nat} (h : ((s : Int) == 0) = false) : (s : Int) = (seedV s : Int) := by
  unfold seedV
  rw [h]
  rfl
def tab_apartM : Wk.Tab := []
theorem p_apartM {ops : Array Oper} {rest : List Oper} {o : Oper} {w0 : World} {Q : Exit → Act → World → Prop} {S : List Nat} {R : List Res} {K K' : Wk.Env} {N : Nat} (h : Wk.stp tab_apartM N ops K o = some K') (n : Wk.Wk N S w0 K' R (wpList Try.prog ops Q rest)) : Wk.Wk N S w0 K R (wpList Try.prog ops Q (o :: rest)) := Wk.wP (T := tab_apartM) (by kernel_rfl) h n
set_option maxHeartbeats 16000000 in
set_option maxRecDepth 20000 in
theorem apartM (a : Nat) (b : Nat) (n : Int) (w : World) (hal : a < 18446744073709551616) (hbl : b < 18446744073709551616) : Calls Try.prog 3 #[.int .u64 a, .int .u64 b, .int .i64 n] w fun e w' => e = .returned (.bool true) ∧ Off [] w w' := by
 have H := Lib.hid (Hp.start [] w)
 refine wStart (args := [.int .u64 a, .int .u64 b, .int .i64 n]) Try.func3 rfl rfl rfl H ?_
 clear H
 show Wk 62 _ _ [(0, .int .u64 a), (1, .int .u64 b), (2, .int .i64 n)] _ _
 refine wSeqK fun KK1 hK1 => ?_
 refine wReg ?_
 refine p_apartM rfl ?_
 refine wN ?_
 refine tN (wKK hK1 ?_)
 refine wSeqK fun KK2 hK2 => ?_
 refine wSeqK fun KK3 hK3 => ?_
 refine wReg ?_
 refine wQ (l := []) Try.func5 rfl (by kernel_rfl) (.bool true) (fun wc H => awake35 wc) rfl rfl rfl rfl ?_
 refine p_apartM rfl ?_
 refine wN ?_
 refine tN (wKK hK3 ?_)
 refine wCf rfl ?_
 refine wSk ?_
 refine tN (wKK hK2 ?_)
 refine wSeqK fun KK4 hK4 => ?_
 refine wReg ?_
 refine p_apartM rfl ?_
 refine wC (l := [.int .u64 a]) Try.func6 rfl (by kernel_rfl) (fun wc H => newC a wc) rfl rfl rfl rfl ?_
 intro wc H
 rintro er wd ⟨b3_1, rfl, hb, hlt, ho⟩
 have H2 := hp_gotBk H ho hb hlt
 refine ⟨_, rfl, wkAt H2 ?_⟩
 clear H H2
 refine p_apartM rfl ?_
 refine wN ?_
 refine tN (wKK hK4 ?_)
 refine wSeqK fun KK5 hK5 => ?_
 refine wReg ?_
 refine p_apartM rfl ?_
 refine wC (l := [.int .u64 b]) Try.func6 rfl (by kernel_rfl) (fun wc H => newC b wc) rfl rfl rfl rfl ?_
 intro wc H
 rintro er wd ⟨b4_1, rfl, hb, hlt, ho⟩
 have H2 := hp_gotBk H ho hb hlt
 refine ⟨_, rfl, wkAt H2 ?_⟩
 clear H H2
 refine p_apartM rfl ?_
 refine wN ?_
 refine tN (wKK hK5 ?_)
 refine wSeqK fun KK6 hK6 => ?_
 refine wSeqK fun KK7 hK7 => ?_
 refine wReg ?_
 iterate 2 refine p_apartM rfl ?_
 refine wN ?_
 refine tN (wKK hK7 ?_)
 refine wCond (E := (a : Int) == 0) rfl (fun z1 => ?_) (fun z1 => ?_)
 · skip
   have z1o : ((a : Int) != 0) = false := eqq_t z1
   refine wReg ?_
   refine p_apartM rfl ?_
   refine wN ?_
   refine tN (wKK hK6 ?_)
   refine wSeqK fun KK8 hK8 => ?_
   refine wSeqK fun KK9 hK9 => ?_
   refine wReg ?_
   iterate 2 refine p_apartM rfl ?_
   refine wN ?_
   refine tN (wKK hK9 ?_)
   refine wCond (E := (b : Int) == 0) rfl (fun z2 => ?_) (fun z2 => ?_)
   · skip
     have z2o : ((b : Int) != 0) = false := eqq_t z2
     refine wReg ?_
     refine p_apartM rfl ?_
     refine wN ?_
     refine tN (wKK hK8 ?_)
     refine wSeqK fun KK10 hK10 => ?_
     refine wSeqK fun KK11 hK11 => ?_
     refine wReg ?_
     refine p_apartM rfl ?_
     refine wN ?_
     refine tN (wKK hK11 ?_)
     refine wBlk ?_
     refine wLoop (fun ab wv => ∃ i : Nat, ∃ x : Nat, ∃ y : Nat, (i ≤ 20) ∧ (x < 18446744073709551616) ∧ (y < 18446744073709551616) ∧ (Hid (x = y ↔ seedV a = seedV b)) ∧ (Hid (x ≠ 0)) ∧ ab.tmps.size = 62 ∧ ab.defers = [] ∧ Sat [(0, .int .u64 88172645463325252), (1, .int .u64 88172645463325252), (2, .int .i64 n), (7, .pointer (some ⟨b3_1, 0, none⟩)), (8, .pointer (some ⟨b4_1, 0, none⟩)), (9, .int .i64 i), (13, .bool false), (19, .bool ((a : Int) == 0)), (21, .bool ((b : Int) == 0))] ab ∧ Hid (Hp [] w wv [rB b4_1 54 [.int .u64 y], rB b3_1 54 [.int .u64 x]])) (fun ab _ => 20 - (intOf (ab.eval (.tmp 9))).toNat) (fun aa ww nn dd hs H => ⟨0, seedV a, seedV b, (by omega), (seedV_lt hal), (seedV_lt hbl), (Lib.hid Iff.rfl), (Lib.hid (seed_ne a)), nn, dd, (sat_sub ⟨rfl, rfl, rfl, rfl, rfl, rfl, rfl, rfl, rfl, trivial⟩ hs), H⟩) ?_
     rintro a1 wv ⟨i, x, y, hi, hxl, hyl, hxy, hx0, nn, dd, hs, H⟩
     have mu1_9 := hs 9 _ rfl
     refine wIn nn dd hs H ?_
     clear nn dd hs H
     refine wSeqK fun KK12 hK12 => ?_
     refine wSeqK fun KK13 hK13 => ?_
     refine wReg ?_
     iterate 2 refine p_apartM rfl ?_
     refine wN ?_
     refine tN (wKK hK13 ?_)
     refine wCond (E := decide ((i : Int) < 20)) rfl (fun z3 => ?_) (fun z3 => ?_)
     · skip
       have z3d : (i : Int) < 20 := of_decide_eq_true z3
       refine wSk ?_
       refine tN (wKK hK12 ?_)
       refine wSeqK fun KK14 hK14 => ?_
       refine wBlk ?_
       refine wSeqK fun KK15 hK15 => ?_
       refine wReg ?_
       refine p_apartM rfl ?_
       refine wC (l := [.pointer (some ⟨b3_1, 0, none⟩)]) Try.func7 rfl (by kernel_rfl) (fun wc H => nextC b3_1 x wc (H.out.blk 1 rfl) hxl) rfl rfl rfl rfl ?_
       intro wc H
       rintro er wd ⟨rfl, hb, ho⟩
       have H2 := hp_turn H (i := 1) (cs' := [.int .u64 (nextN x)]) rfl hb ho
       refine ⟨_, rfl, wkAt H2 ?_⟩
       clear H H2
       refine p_apartM rfl ?_
       refine wN ?_
       refine tN (wKK hK15 ?_)
       refine wSeqK fun KK16 hK16 => ?_
       refine wReg ?_
       iterate 2 refine p_apartM rfl ?_
       refine wC (l := [.pointer (some ⟨b4_1, 0, none⟩)]) Try.func7 rfl (by kernel_rfl) (fun wc H => nextC b4_1 y wc (H.out.blk 0 rfl) hyl) rfl rfl rfl rfl ?_
       intro wc H
       rintro er wd ⟨rfl, hb, ho⟩
       have H2 := hp_turn H (i := 0) (cs' := [.int .u64 (nextN y)]) rfl hb ho
       refine ⟨_, rfl, wkAt H2 ?_⟩
       clear H H2
       iterate 4 refine p_apartM rfl ?_
       refine wE (.bool (!(((nextN x) : Int) == ((nextN y) : Int)))) rfl rfl rfl (fun aa ww hs _ => by have e31 := hs 31 _ rfl; have g31 := gt_of e31; have e34 := hs 34 _ rfl; have g34 := gt_of e34; simp only [execOp]; go_simp <;> first | rfl | omega) ?_
       refine p_apartM rfl ?_
       refine wCut 3 [(39, .bool ((!(((nextN x) : Int) == ((nextN y) : Int))) || (((nextN x) : Int) == 0))), (0, .int .u64 88172645463325252), (1, .int .u64 88172645463325252), (2, .int .i64 n), (7, .pointer (some ⟨b3_1, 0, none⟩)), (8, .pointer (some ⟨b4_1, 0, none⟩)), (9, .int .i64 i), (10, .int .u64 (nextN x)), (13, .bool false), (19, .bool ((a : Int) == 0)), (21, .bool ((b : Int) == 0)), (23, .bool (decide ((i : Int) < 20)))] ?_ ?_
       · intro KK hKK
         rcases Bool.eq_false_or_eq_true (!(((nextN x) : Int) == ((nextN y) : Int))) with u4 | u4
         · skip
           refine wB (c := true) 36 rfl u4 ?_
           iterate 2 refine p_apartM rfl ?_
           refine p_apartM rfl ?_
           refine wB (c := (!(((nextN x) : Int) == ((nextN y) : Int))) || (((nextN x) : Int) == 0)) 39 rfl (by rw [u4]; rfl) ?_
           refine wN (tN ?_)
           exact fun aa ww nn dd hs H => hKK aa ww nn dd (sat_sub ⟨rfl, rfl, rfl, rfl, rfl, rfl, rfl, rfl, rfl, rfl, rfl, rfl, trivial⟩ hs) H
         · skip
           refine wB (c := false) 36 rfl u4 ?_
           iterate 2 refine p_apartM rfl ?_
           refine p_apartM rfl ?_
           refine wB (c := (!(((nextN x) : Int) == ((nextN y) : Int))) || (((nextN x) : Int) == 0)) 39 rfl (by rw [u4]; rfl) ?_
           refine wN (tN ?_)
           exact fun aa ww nn dd hs H => hKK aa ww nn dd (sat_sub ⟨rfl, rfl, rfl, rfl, rfl, rfl, rfl, rfl, rfl, rfl, rfl, rfl, trivial⟩ hs) H
       refine wN ?_
       refine tN (wKK hK16 ?_)
       refine wCond (E := (!(((nextN x) : Int) == ((nextN y) : Int))) || (((nextN x) : Int) == 0)) rfl (fun z5 => ?_) (fun z5 => ?_)
       · skip
         exact absurd (z5.symm.trans (apart_round1 (seedV_0 z1) (seedV_0 z2) hxy.out hx0.out)) (by decide)
       · skip
         have z5l : (!(((nextN x) : Int) == ((nextN y) : Int))) = false := Reg.ol z5
         have z5ln : (((nextN x) : Int) == ((nextN y) : Int)) = true := Reg.bt z5l
         have z5lno : (((nextN x) : Int) != ((nextN y) : Int)) = false := eqq_t z5ln
         have z5r : (((nextN x) : Int) == 0) = false := Reg.orr z5
         have z5ro : (((nextN x) : Int) != 0) = true := eqq_f z5r
         refine wSk ?_
         refine bN (tN (wKK hK14 ?_))
         refine wReg ?_
         iterate 2 refine p_apartM rfl ?_
         refine wI 25 rfl (IntWalk.i64_in _ (by omega)) ?_
         refine p_apartM rfl ?_
         refine wN ?_
         refine tN ?_
         intro aa ww nn dd hs H
         refine ⟨⟨i + 1, nextN x, nextN y, (by omega), (nextN_lt hxl), (nextN_lt hyl), (Lib.hid ⟨fun e => hxy.out.1 (nextN_inj e), fun e => by rw [hxy.out.2 e]⟩), (Lib.hid (nextN_ne hx0.out)), nn, dd, (sat_sub ⟨rfl, rfl, rfl, rfl, rfl, rfl, rfl, rfl, rfl, trivial⟩ hs), H⟩, ?_⟩
         have m9 := hs 9 _ rfl
         simp only [mu1_9, m9, intOf]
         omega
     · skip
       have z3d : ¬ ((i : Int) < 20) := of_decide_eq_false z3
       refine wEx ?_
       refine tX (tX (bX (tN (wKK hK10 ?_))))
       refine wSeqK fun KK17 hK17 => ?_
       refine wReg ?_
       iterate 2 refine p_apartM rfl ?_
       refine wC (l := [.pointer (some ⟨b3_1, 0, none⟩), .int .i64 n]) Try.func8 rfl (by kernel_rfl) (fun wc H => belowC b3_1 x n wc (H.out.blk 1 rfl) hxl) rfl rfl rfl rfl ?_
       intro wc H
       rintro er wd ⟨rfl, hb, ho⟩
       have H2 := hp_turn H (i := 1) (cs' := [.int .u64 ((belR x n).2)]) rfl hb ho
       refine ⟨_, rfl, wkAt H2 ?_⟩
       clear H H2
       refine p_apartM rfl ?_
       refine wN ?_
       refine tN (wKK hK17 ?_)
       refine wSeqK fun KK18 hK18 => ?_
       refine wReg ?_
       iterate 3 refine p_apartM rfl ?_
       refine wCut 16 [(61, .bool ((decide (0 ≤ ((belR x n).1))) && (((decide (n < 1)) && (((belR x n).1) == 0)) || ((decide (1 ≤ n)) && (decide (((belR x n).1) < n)))))), (0, .int .u64 88172645463325252), (1, .int .u64 88172645463325252), (2, .int .i64 n), (7, .pointer (some ⟨b3_1, 0, none⟩)), (8, .pointer (some ⟨b4_1, 0, none⟩)), (9, .int .i64 i), (11, .int .i64 ((belR x n).1)), (13, .bool false), (19, .bool ((a : Int) == 0)), (21, .bool ((b : Int) == 0)), (23, .bool (decide ((i : Int) < 20)))] ?_ ?_
       · intro KK hKK
         rcases Bool.eq_false_or_eq_true (decide (0 ≤ ((belR x n).1))) with u6 | u6
         · skip
           refine wB (c := true) 45 rfl u6 ?_
           iterate 3 refine p_apartM rfl ?_
           refine wCut 3 [(51, .bool ((decide (n < 1)) && (((belR x n).1) == 0))), (0, .int .u64 88172645463325252), (1, .int .u64 88172645463325252), (2, .int .i64 n), (7, .pointer (some ⟨b3_1, 0, none⟩)), (8, .pointer (some ⟨b4_1, 0, none⟩)), (9, .int .i64 i), (11, .int .i64 ((belR x n).1)), (13, .bool false), (19, .bool ((a : Int) == 0)), (21, .bool ((b : Int) == 0)), (23, .bool (decide ((i : Int) < 20))), (45, .bool true)] ?_ ?_
           · intro KK hKK
             rcases Bool.eq_false_or_eq_true (decide (n < 1)) with u7 | u7
             · skip
               refine wB (c := true) 48 rfl u7 ?_
               iterate 2 refine p_apartM rfl ?_
               refine p_apartM rfl ?_
               refine wB (c := (decide (n < 1)) && (((belR x n).1) == 0)) 51 rfl (by rw [u7]; rfl) ?_
               refine wN (tN ?_)
               exact fun aa ww nn dd hs H => hKK aa ww nn dd (sat_sub ⟨rfl, rfl, rfl, rfl, rfl, rfl, rfl, rfl, rfl, rfl, rfl, rfl, rfl, trivial⟩ hs) H
             · skip
               refine wB (c := false) 48 rfl u7 ?_
               iterate 2 refine p_apartM rfl ?_
               refine p_apartM rfl ?_
               refine wB (c := (decide (n < 1)) && (((belR x n).1) == 0)) 51 rfl (by rw [u7]; rfl) ?_
               refine wN (tN ?_)
               exact fun aa ww nn dd hs H => hKK aa ww nn dd (sat_sub ⟨rfl, rfl, rfl, rfl, rfl, rfl, rfl, rfl, rfl, rfl, rfl, rfl, rfl, trivial⟩ hs) H
           refine p_apartM rfl ?_
           refine wCut 8 [(60, .bool (((decide (n < 1)) && (((belR x n).1) == 0)) || ((decide (1 ≤ n)) && (decide (((belR x n).1) < n))))), (0, .int .u64 88172645463325252), (1, .int .u64 88172645463325252), (2, .int .i64 n), (7, .pointer (some ⟨b3_1, 0, none⟩)), (8, .pointer (some ⟨b4_1, 0, none⟩)), (9, .int .i64 i), (11, .int .i64 ((belR x n).1)), (13, .bool false), (19, .bool ((a : Int) == 0)), (21, .bool ((b : Int) == 0)), (23, .bool (decide ((i : Int) < 20))), (45, .bool true)] ?_ ?_
           · intro KK hKK
             rcases Bool.eq_false_or_eq_true ((decide (n < 1)) && (((belR x n).1) == 0)) with u8 | u8
             · skip
               refine wB (c := true) 52 rfl u8 ?_
               iterate 7 refine p_apartM rfl ?_
               refine p_apartM rfl ?_
               refine wB (c := ((decide (n < 1)) && (((belR x n).1) == 0)) || ((decide (1 ≤ n)) && (decide (((belR x n).1) < n)))) 60 rfl (by rw [u8]; rfl) ?_
               refine wN (tN ?_)
               exact fun aa ww nn dd hs H => hKK aa ww nn dd (sat_sub ⟨rfl, rfl, rfl, rfl, rfl, rfl, rfl, rfl, rfl, rfl, rfl, rfl, rfl, trivial⟩ hs) H
             · skip
               refine wB (c := false) 52 rfl u8 ?_
               iterate 3 refine p_apartM rfl ?_
               refine wCut 4 [(59, .bool ((decide (1 ≤ n)) && (decide (((belR x n).1) < n)))), (0, .int .u64 88172645463325252), (1, .int .u64 88172645463325252), (2, .int .i64 n), (7, .pointer (some ⟨b3_1, 0, none⟩)), (8, .pointer (some ⟨b4_1, 0, none⟩)), (9, .int .i64 i), (11, .int .i64 ((belR x n).1)), (13, .bool false), (19, .bool ((a : Int) == 0)), (21, .bool ((b : Int) == 0)), (23, .bool (decide ((i : Int) < 20))), (45, .bool true), (52, .bool false)] ?_ ?_
               · intro KK hKK
                 rcases Bool.eq_false_or_eq_true (decide (1 ≤ n)) with u9 | u9
                 · skip
                   refine wB (c := true) 55 rfl u9 ?_
                   iterate 3 refine p_apartM rfl ?_
                   refine p_apartM rfl ?_
                   refine wB (c := (decide (1 ≤ n)) && (decide (((belR x n).1) < n))) 59 rfl (by rw [u9]; rfl) ?_
                   refine wN (tN ?_)
                   exact fun aa ww nn dd hs H => hKK aa ww nn dd (sat_sub ⟨rfl, rfl, rfl, rfl, rfl, rfl, rfl, rfl, rfl, rfl, rfl, rfl, rfl, rfl, trivial⟩ hs) H
                 · skip
                   refine wB (c := false) 55 rfl u9 ?_
                   iterate 3 refine p_apartM rfl ?_
                   refine p_apartM rfl ?_
                   refine wB (c := (decide (1 ≤ n)) && (decide (((belR x n).1) < n))) 59 rfl (by rw [u9]; rfl) ?_
                   refine wN (tN ?_)
                   exact fun aa ww nn dd hs H => hKK aa ww nn dd (sat_sub ⟨rfl, rfl, rfl, rfl, rfl, rfl, rfl, rfl, rfl, rfl, rfl, rfl, rfl, rfl, trivial⟩ hs) H
               refine p_apartM rfl ?_
               refine wB (c := ((decide (n < 1)) && (((belR x n).1) == 0)) || ((decide (1 ≤ n)) && (decide (((belR x n).1) < n)))) 60 rfl (by rw [u8]; rfl) ?_
               refine wN (tN ?_)
               exact fun aa ww nn dd hs H => hKK aa ww nn dd (sat_sub ⟨rfl, rfl, rfl, rfl, rfl, rfl, rfl, rfl, rfl, rfl, rfl, rfl, rfl, trivial⟩ hs) H
           refine p_apartM rfl ?_
           refine wB (c := (decide (0 ≤ ((belR x n).1))) && (((decide (n < 1)) && (((belR x n).1) == 0)) || ((decide (1 ≤ n)) && (decide (((belR x n).1) < n))))) 61 rfl (by rw [u6]; rfl) ?_
           refine wN (tN ?_)
           exact fun aa ww nn dd hs H => hKK aa ww nn dd (sat_sub ⟨rfl, rfl, rfl, rfl, rfl, rfl, rfl, rfl, rfl, rfl, rfl, rfl, trivial⟩ hs) H
         · skip
           refine wB (c := false) 45 rfl u6 ?_
           iterate 15 refine p_apartM rfl ?_
           refine p_apartM rfl ?_
           refine wB (c := (decide (0 ≤ ((belR x n).1))) && (((decide (n < 1)) && (((belR x n).1) == 0)) || ((decide (1 ≤ n)) && (decide (((belR x n).1) < n))))) 61 rfl (by rw [u6]; rfl) ?_
           refine wN (tN ?_)
           exact fun aa ww nn dd hs H => hKK aa ww nn dd (sat_sub ⟨rfl, rfl, rfl, rfl, rfl, rfl, rfl, rfl, rfl, rfl, rfl, rfl, trivial⟩ hs) H
       refine p_apartM rfl ?_
       refine wN ?_
       refine tN (wKK hK18 ?_)
       refine wRet ?_
       exact wR1 rfl rfl (fun ww H => ⟨congrArg (fun z => Ending.returned (Value.bool z)) (belR_fin x n), H.out.off⟩)
   · skip
     have z2o : ((b : Int) != 0) = true := eqq_f z2
     refine wSk ?_
     refine tN (wKK hK8 ?_)
     refine wSeqK fun KK19 hK19 => ?_
     refine wSeqK fun KK20 hK20 => ?_
     refine wReg ?_
     refine p_apartM rfl ?_
     refine wN ?_
     refine tN (wKK hK20 ?_)
     refine wBlk ?_
     refine wLoop (fun ab wv => ∃ i : Nat, ∃ x : Nat, ∃ y : Nat, (i ≤ 20) ∧ (x < 18446744073709551616) ∧ (y < 18446744073709551616) ∧ (Hid (x = y ↔ seedV a = seedV b)) ∧ (Hid (x ≠ 0)) ∧ ab.tmps.size = 62 ∧ ab.defers = [] ∧ Sat [(0, .int .u64 88172645463325252), (1, .int .u64 b), (2, .int .i64 n), (7, .pointer (some ⟨b3_1, 0, none⟩)), (8, .pointer (some ⟨b4_1, 0, none⟩)), (9, .int .i64 i), (13, .bool false), (19, .bool ((a : Int) == 0)), (21, .bool ((b : Int) == 0))] ab ∧ Hid (Hp [] w wv [rB b4_1 54 [.int .u64 y], rB b3_1 54 [.int .u64 x]])) (fun ab _ => 20 - (intOf (ab.eval (.tmp 9))).toNat) (fun aa ww nn dd hs H => ⟨0, seedV a, seedV b, (by omega), (seedV_lt hal), (seedV_lt hbl), (Lib.hid Iff.rfl), (Lib.hid (seed_ne a)), nn, dd, (sat_sub ⟨rfl, rfl, rfl, rfl, rfl, rfl, rfl, rfl, rfl, trivial⟩ hs), H⟩) ?_
     rintro a2 wv ⟨i, x, y, hi, hxl, hyl, hxy, hx0, nn, dd, hs, H⟩
     have mu2_9 := hs 9 _ rfl
     refine wIn nn dd hs H ?_
     clear nn dd hs H
     refine wSeqK fun KK21 hK21 => ?_
     refine wSeqK fun KK22 hK22 => ?_
     refine wReg ?_
     iterate 2 refine p_apartM rfl ?_
     refine wN ?_
     refine tN (wKK hK22 ?_)
     refine wCond (E := decide ((i : Int) < 20)) rfl (fun z10 => ?_) (fun z10 => ?_)
     · skip
       have z10d : (i : Int) < 20 := of_decide_eq_true z10
       refine wSk ?_
       refine tN (wKK hK21 ?_)
       refine wSeqK fun KK23 hK23 => ?_
       refine wBlk ?_
       refine wSeqK fun KK24 hK24 => ?_
       refine wReg ?_
       refine p_apartM rfl ?_
       refine wC (l := [.pointer (some ⟨b3_1, 0, none⟩)]) Try.func7 rfl (by kernel_rfl) (fun wc H => nextC b3_1 x wc (H.out.blk 1 rfl) hxl) rfl rfl rfl rfl ?_
       intro wc H
       rintro er wd ⟨rfl, hb, ho⟩
       have H2 := hp_turn H (i := 1) (cs' := [.int .u64 (nextN x)]) rfl hb ho
       refine ⟨_, rfl, wkAt H2 ?_⟩
       clear H H2
       refine p_apartM rfl ?_
       refine wN ?_
       refine tN (wKK hK24 ?_)
       refine wSeqK fun KK25 hK25 => ?_
       refine wReg ?_
       iterate 2 refine p_apartM rfl ?_
       refine wC (l := [.pointer (some ⟨b4_1, 0, none⟩)]) Try.func7 rfl (by kernel_rfl) (fun wc H => nextC b4_1 y wc (H.out.blk 0 rfl) hyl) rfl rfl rfl rfl ?_
       intro wc H
       rintro er wd ⟨rfl, hb, ho⟩
       have H2 := hp_turn H (i := 0) (cs' := [.int .u64 (nextN y)]) rfl hb ho
       refine ⟨_, rfl, wkAt H2 ?_⟩
       clear H H2
       iterate 4 refine p_apartM rfl ?_
       refine wE (.bool (!((((nextN x) : Int) == ((nextN y) : Int)) == (88172645463325252 == (b : Int))))) rfl rfl rfl (fun aa ww hs _ => by have e31 := hs 31 _ rfl; have g31 := gt_of e31; have e34 := hs 34 _ rfl; have g34 := gt_of e34; simp only [execOp]; go_simp <;> first | rfl | omega) ?_
       refine p_apartM rfl ?_
       refine wCut 3 [(39, .bool ((!((((nextN x) : Int) == ((nextN y) : Int)) == (88172645463325252 == (b : Int)))) || (((nextN x) : Int) == 0))), (0, .int .u64 88172645463325252), (1, .int .u64 b), (2, .int .i64 n), (7, .pointer (some ⟨b3_1, 0, none⟩)), (8, .pointer (some ⟨b4_1, 0, none⟩)), (9, .int .i64 i), (10, .int .u64 (nextN x)), (13, .bool false), (19, .bool ((a : Int) == 0)), (21, .bool ((b : Int) == 0)), (23, .bool (decide ((i : Int) < 20)))] ?_ ?_
       · intro KK hKK
         rcases Bool.eq_false_or_eq_true (!((((nextN x) : Int) == ((nextN y) : Int)) == (88172645463325252 == (b : Int)))) with u11 | u11
         · skip
           refine wB (c := true) 36 rfl u11 ?_
           iterate 2 refine p_apartM rfl ?_
           refine p_apartM rfl ?_
           refine wB (c := (!((((nextN x) : Int) == ((nextN y) : Int)) == (88172645463325252 == (b : Int)))) || (((nextN x) : Int) == 0)) 39 rfl (by rw [u11]; rfl) ?_
           refine wN (tN ?_)
           exact fun aa ww nn dd hs H => hKK aa ww nn dd (sat_sub ⟨rfl, rfl, rfl, rfl, rfl, rfl, rfl, rfl, rfl, rfl, rfl, rfl, trivial⟩ hs) H
         · skip
           refine wB (c := false) 36 rfl u11 ?_
           iterate 2 refine p_apartM rfl ?_
           refine p_apartM rfl ?_
           refine wB (c := (!((((nextN x) : Int) == ((nextN y) : Int)) == (88172645463325252 == (b : Int)))) || (((nextN x) : Int) == 0)) 39 rfl (by rw [u11]; rfl) ?_
           refine wN (tN ?_)
           exact fun aa ww nn dd hs H => hKK aa ww nn dd (sat_sub ⟨rfl, rfl, rfl, rfl, rfl, rfl, rfl, rfl, rfl, rfl, rfl, rfl, trivial⟩ hs) H
       refine wN ?_
       refine tN (wKK hK25 ?_)
       refine wCond (E := (!((((nextN x) : Int) == ((nextN y) : Int)) == (88172645463325252 == (b : Int)))) || (((nextN x) : Int) == 0)) rfl (fun z12 => ?_) (fun z12 => ?_)
       · skip
         exact absurd (z12.symm.trans (apart_round (seedV_0 z1) (seedV_1 z2) hxy.out hx0.out)) (by decide)
       · skip
         have z12l : (!((((nextN x) : Int) == ((nextN y) : Int)) == (88172645463325252 == (b : Int)))) = false := Reg.ol z12
         have z12ln : ((((nextN x) : Int) == ((nextN y) : Int)) == (88172645463325252 == (b : Int))) = true := Reg.bt z12l
         have z12r : (((nextN x) : Int) == 0) = false := Reg.orr z12
         have z12ro : (((nextN x) : Int) != 0) = true := eqq_f z12r
         refine wSk ?_
         refine bN (tN (wKK hK23 ?_))
         refine wReg ?_
         iterate 2 refine p_apartM rfl ?_
         refine wI 25 rfl (IntWalk.i64_in _ (by omega)) ?_
         refine p_apartM rfl ?_
         refine wN ?_
         refine tN ?_
         intro aa ww nn dd hs H
         refine ⟨⟨i + 1, nextN x, nextN y, (by omega), (nextN_lt hxl), (nextN_lt hyl), (Lib.hid ⟨fun e => hxy.out.1 (nextN_inj e), fun e => by rw [hxy.out.2 e]⟩), (Lib.hid (nextN_ne hx0.out)), nn, dd, (sat_sub ⟨rfl, rfl, rfl, rfl, rfl, rfl, rfl, rfl, rfl, trivial⟩ hs), H⟩, ?_⟩
         have m9 := hs 9 _ rfl
         simp only [mu2_9, m9, intOf]
         omega
     · skip
       have z10d : ¬ ((i : Int) < 20) := of_decide_eq_false z10
       refine wEx ?_
       refine tX (tX (bX (tN (wKK hK19 ?_))))
       refine wSeqK fun KK26 hK26 => ?_
       refine wReg ?_
       iterate 2 refine p_apartM rfl ?_
       refine wC (l := [.pointer (some ⟨b3_1, 0, none⟩), .int .i64 n]) Try.func8 rfl (by kernel_rfl) (fun wc H => belowC b3_1 x n wc (H.out.blk 1 rfl) hxl) rfl rfl rfl rfl ?_
       intro wc H
       rintro er wd ⟨rfl, hb, ho⟩
       have H2 := hp_turn H (i := 1) (cs' := [.int .u64 ((belR x n).2)]) rfl hb ho
       refine ⟨_, rfl, wkAt H2 ?_⟩
       clear H H2
       refine p_apartM rfl ?_
       refine wN ?_
       refine tN (wKK hK26 ?_)
       refine wSeqK fun KK27 hK27 => ?_
       refine wReg ?_
       iterate 3 refine p_apartM rfl ?_
       refine wCut 16 [(61, .bool ((decide (0 ≤ ((belR x n).1))) && (((decide (n < 1)) && (((belR x n).1) == 0)) || ((decide (1 ≤ n)) && (decide (((belR x n).1) < n)))))), (0, .int .u64 88172645463325252), (1, .int .u64 b), (2, .int .i64 n), (7, .pointer (some ⟨b3_1, 0, none⟩)), (8, .pointer (some ⟨b4_1, 0, none⟩)), (9, .int .i64 i), (11, .int .i64 ((belR x n).1)), (13, .bool false), (19, .bool ((a : Int) == 0)), (21, .bool ((b : Int) == 0)), (23, .bool (decide ((i : Int) < 20)))] ?_ ?_
       · intro KK hKK
         rcases Bool.eq_false_or_eq_true (decide (0 ≤ ((belR x n).1))) with u13 | u13
         · skip
           refine wB (c := true) 45 rfl u13 ?_
           iterate 3 refine p_apartM rfl ?_
           refine wCut 3 [(51, .bool ((decide (n < 1)) && (((belR x n).1) == 0))), (0, .int .u64 88172645463325252), (1, .int .u64 b), (2, .int .i64 n), (7, .pointer (some ⟨b3_1, 0, none⟩)), (8, .pointer (some ⟨b4_1, 0, none⟩)), (9, .int .i64 i), (11, .int .i64 ((belR x n).1)), (13, .bool false), (19, .bool ((a : Int) == 0)), (21, .bool ((b : Int) == 0)), (23, .bool (decide ((i : Int) < 20))), (45, .bool true)] ?_ ?_
           · intro KK hKK
             rcases Bool.eq_false_or_eq_true (decide (n < 1)) with u14 | u14
             · skip
               refine wB (c := true) 48 rfl u14 ?_
               iterate 2 refine p_apartM rfl ?_
               refine p_apartM rfl ?_
               refine wB (c := (decide (n < 1)) && (((belR x n).1) == 0)) 51 rfl (by rw [u14]; rfl) ?_
               refine wN (tN ?_)
               exact fun aa ww nn dd hs H => hKK aa ww nn dd (sat_sub ⟨rfl, rfl, rfl, rfl, rfl, rfl, rfl, rfl, rfl, rfl, rfl, rfl, rfl, trivial⟩ hs) H
             · skip
               refine wB (c := false) 48 rfl u14 ?_
               iterate 2 refine p_apartM rfl ?_
               refine p_apartM rfl ?_
               refine wB (c := (decide (n < 1)) && (((belR x n).1) == 0)) 51 rfl (by rw [u14]; rfl) ?_
               refine wN (tN ?_)
               exact fun aa ww nn dd hs H => hKK aa ww nn dd (sat_sub ⟨rfl, rfl, rfl, rfl, rfl, rfl, rfl, rfl, rfl, rfl, rfl, rfl, rfl, trivial⟩ hs) H
           refine p_apartM rfl ?_
           refine wCut 8 [(60, .bool (((decide (n < 1)) && (((belR x n).1) == 0)) || ((decide (1 ≤ n)) && (decide (((belR x n).1) < n))))), (0, .int .u64 88172645463325252), (1, .int .u64 b), (2, .int .i64 n), (7, .pointer (some ⟨b3_1, 0, none⟩)), (8, .pointer (some ⟨b4_1, 0, none⟩)), (9, .int .i64 i), (11, .int .i64 ((belR x n).1)), (13, .bool false), (19, .bool ((a : Int) == 0)), (21, .bool ((b : Int) == 0)), (23, .bool (decide ((i : Int) < 20))), (45, .bool true)] ?_ ?_
           · intro KK hKK
             rcases Bool.eq_false_or_eq_true ((decide (n < 1)) && (((belR x n).1) == 0)) with u15 | u15
             · skip
               refine wB (c := true) 52 rfl u15 ?_
               iterate 7 refine p_apartM rfl ?_
               refine p_apartM rfl ?_
               refine wB (c := ((decide (n < 1)) && (((belR x n).1) == 0)) || ((decide (1 ≤ n)) && (decide (((belR x n).1) < n)))) 60 rfl (by rw [u15]; rfl) ?_
               refine wN (tN ?_)
               exact fun aa ww nn dd hs H => hKK aa ww nn dd (sat_sub ⟨rfl, rfl, rfl, rfl, rfl, rfl, rfl, rfl, rfl, rfl, rfl, rfl, rfl, trivial⟩ hs) H
             · skip
               refine wB (c := false) 52 rfl u15 ?_
               iterate 3 refine p_apartM rfl ?_
               refine wCut 4 [(59, .bool ((decide (1 ≤ n)) && (decide (((belR x n).1) < n)))), (0, .int .u64 88172645463325252), (1, .int .u64 b), (2, .int .i64 n), (7, .pointer (some ⟨b3_1, 0, none⟩)), (8, .pointer (some ⟨b4_1, 0, none⟩)), (9, .int .i64 i), (11, .int .i64 ((belR x n).1)), (13, .bool false), (19, .bool ((a : Int) == 0)), (21, .bool ((b : Int) == 0)), (23, .bool (decide ((i : Int) < 20))), (45, .bool true), (52, .bool false)] ?_ ?_
               · intro KK hKK
                 rcases Bool.eq_false_or_eq_true (decide (1 ≤ n)) with u16 | u16
                 · skip
                   refine wB (c := true) 55 rfl u16 ?_
                   iterate 3 refine p_apartM rfl ?_
                   refine p_apartM rfl ?_
                   refine wB (c := (decide (1 ≤ n)) && (decide (((belR x n).1) < n))) 59 rfl (by rw [u16]; rfl) ?_
                   refine wN (tN ?_)
                   exact fun aa ww nn dd hs H => hKK aa ww nn dd (sat_sub ⟨rfl, rfl, rfl, rfl, rfl, rfl, rfl, rfl, rfl, rfl, rfl, rfl, rfl, rfl, trivial⟩ hs) H
                 · skip
                   refine wB (c := false) 55 rfl u16 ?_
                   iterate 3 refine p_apartM rfl ?_
                   refine p_apartM rfl ?_
                   refine wB (c := (decide (1 ≤ n)) && (decide (((belR x n).1) < n))) 59 rfl (by rw [u16]; rfl) ?_
                   refine wN (tN ?_)
                   exact fun aa ww nn dd hs H => hKK aa ww nn dd (sat_sub ⟨rfl, rfl, rfl, rfl, rfl, rfl, rfl, rfl, rfl, rfl, rfl, rfl, rfl, rfl, trivial⟩ hs) H
               refine p_apartM rfl ?_
               refine wB (c := ((decide (n < 1)) && (((belR x n).1) == 0)) || ((decide (1 ≤ n)) && (decide (((belR x n).1) < n)))) 60 rfl (by rw [u15]; rfl) ?_
               refine wN (tN ?_)
               exact fun aa ww nn dd hs H => hKK aa ww nn dd (sat_sub ⟨rfl, rfl, rfl, rfl, rfl, rfl, rfl, rfl, rfl, rfl, rfl, rfl, rfl, trivial⟩ hs) H
           refine p_apartM rfl ?_
           refine wB (c := (decide (0 ≤ ((belR x n).1))) && (((decide (n < 1)) && (((belR x n).1) == 0)) || ((decide (1 ≤ n)) && (decide (((belR x n).1) < n))))) 61 rfl (by rw [u13]; rfl) ?_
           refine wN (tN ?_)
           exact fun aa ww nn dd hs H => hKK aa ww nn dd (sat_sub ⟨rfl, rfl, rfl, rfl, rfl, rfl, rfl, rfl, rfl, rfl, rfl, rfl, trivial⟩ hs) H
         · skip
           refine wB (c := false) 45 rfl u13 ?_
           iterate 15 refine p_apartM rfl ?_
           refine p_apartM rfl ?_
           refine wB (c := (decide (0 ≤ ((belR x n).1))) && (((decide (n < 1)) && (((belR x n).1) == 0)) || ((decide (1 ≤ n)) && (decide (((belR x n).1) < n))))) 61 rfl (by rw [u13]; rfl) ?_
           refine wN (tN ?_)
           exact fun aa ww nn dd hs H => hKK aa ww nn dd (sat_sub ⟨rfl, rfl, rfl, rfl, rfl, rfl, rfl, rfl, rfl, rfl, rfl, rfl, trivial⟩ hs) H
       refine p_apartM rfl ?_
       refine wN ?_
       refine tN (wKK hK27 ?_)
       refine wRet ?_
       exact wR1 rfl rfl (fun ww H => ⟨congrArg (fun z => Ending.returned (Value.bool z)) (belR_fin x n), H.out.off⟩)
 · skip
   have z1o : ((a : Int) != 0) = true := eqq_f z1
   refine wSk ?_
   refine tN (wKK hK6 ?_)
   refine wSeqK fun KK28 hK28 => ?_
   refine wSeqK fun KK29 hK29 => ?_
   refine wReg ?_
   iterate 2 refine p_apartM rfl ?_
   refine wN ?_
   refine tN (wKK hK29 ?_)
   refine wCond (E := (b : Int) == 0) rfl (fun z17 => ?_) (fun z17 => ?_)
   · skip
     have z17o : ((b : Int) != 0) = false := eqq_t z17
     refine wReg ?_
     refine p_apartM rfl ?_
     refine wN ?_
     refine tN (wKK hK28 ?_)
     refine wSeqK fun KK30 hK30 => ?_
     refine wSeqK fun KK31 hK31 => ?_
     refine wReg ?_
     refine p_apartM rfl ?_
     refine wN ?_
     refine tN (wKK hK31 ?_)
     refine wBlk ?_
     refine wLoop (fun ab wv => ∃ i : Nat, ∃ x : Nat, ∃ y : Nat, (i ≤ 20) ∧ (x < 18446744073709551616) ∧ (y < 18446744073709551616) ∧ (Hid (x = y ↔ seedV a = seedV b)) ∧ (Hid (x ≠ 0)) ∧ ab.tmps.size = 62 ∧ ab.defers = [] ∧ Sat [(0, .int .u64 a), (1, .int .u64 88172645463325252), (2, .int .i64 n), (7, .pointer (some ⟨b3_1, 0, none⟩)), (8, .pointer (some ⟨b4_1, 0, none⟩)), (9, .int .i64 i), (13, .bool false), (19, .bool ((a : Int) == 0)), (21, .bool ((b : Int) == 0))] ab ∧ Hid (Hp [] w wv [rB b4_1 54 [.int .u64 y], rB b3_1 54 [.int .u64 x]])) (fun ab _ => 20 - (intOf (ab.eval (.tmp 9))).toNat) (fun aa ww nn dd hs H => ⟨0, seedV a, seedV b, (by omega), (seedV_lt hal), (seedV_lt hbl), (Lib.hid Iff.rfl), (Lib.hid (seed_ne a)), nn, dd, (sat_sub ⟨rfl, rfl, rfl, rfl, rfl, rfl, rfl, rfl, rfl, trivial⟩ hs), H⟩) ?_
     rintro a3 wv ⟨i, x, y, hi, hxl, hyl, hxy, hx0, nn, dd, hs, H⟩
     have mu3_9 := hs 9 _ rfl
     refine wIn nn dd hs H ?_
     clear nn dd hs H
     refine wSeqK fun KK32 hK32 => ?_
     refine wSeqK fun KK33 hK33 => ?_
     refine wReg ?_
     iterate 2 refine p_apartM rfl ?_
     refine wN ?_
     refine tN (wKK hK33 ?_)
     refine wCond (E := decide ((i : Int) < 20)) rfl (fun z18 => ?_) (fun z18 => ?_)
     · skip
       have z18d : (i : Int) < 20 := of_decide_eq_true z18
       refine wSk ?_
       refine tN (wKK hK32 ?_)
       refine wSeqK fun KK34 hK34 => ?_
       refine wBlk ?_
       refine wSeqK fun KK35 hK35 => ?_
       refine wReg ?_
       refine p_apartM rfl ?_
       refine wC (l := [.pointer (some ⟨b3_1, 0, none⟩)]) Try.func7 rfl (by kernel_rfl) (fun wc H => nextC b3_1 x wc (H.out.blk 1 rfl) hxl) rfl rfl rfl rfl ?_
       intro wc H
       rintro er wd ⟨rfl, hb, ho⟩
       have H2 := hp_turn H (i := 1) (cs' := [.int .u64 (nextN x)]) rfl hb ho
       refine ⟨_, rfl, wkAt H2 ?_⟩
       clear H H2
       refine p_apartM rfl ?_
       refine wN ?_
       refine tN (wKK hK35 ?_)
       refine wSeqK fun KK36 hK36 => ?_
       refine wReg ?_
       iterate 2 refine p_apartM rfl ?_
       refine wC (l := [.pointer (some ⟨b4_1, 0, none⟩)]) Try.func7 rfl (by kernel_rfl) (fun wc H => nextC b4_1 y wc (H.out.blk 0 rfl) hyl) rfl rfl rfl rfl ?_
       intro wc H
       rintro er wd ⟨rfl, hb, ho⟩
       have H2 := hp_turn H (i := 0) (cs' := [.int .u64 (nextN y)]) rfl hb ho
       refine ⟨_, rfl, wkAt H2 ?_⟩
       clear H H2
       iterate 4 refine p_apartM rfl ?_
       refine wE (.bool (!((((nextN x) : Int) == ((nextN y) : Int)) == ((a : Int) == 88172645463325252)))) rfl rfl rfl (fun aa ww hs _ => by have e31 := hs 31 _ rfl; have g31 := gt_of e31; have e34 := hs 34 _ rfl; have g34 := gt_of e34; simp only [execOp]; go_simp <;> first | rfl | omega) ?_
       refine p_apartM rfl ?_
       refine wCut 3 [(39, .bool ((!((((nextN x) : Int) == ((nextN y) : Int)) == ((a : Int) == 88172645463325252))) || (((nextN x) : Int) == 0))), (0, .int .u64 a), (1, .int .u64 88172645463325252), (2, .int .i64 n), (7, .pointer (some ⟨b3_1, 0, none⟩)), (8, .pointer (some ⟨b4_1, 0, none⟩)), (9, .int .i64 i), (10, .int .u64 (nextN x)), (13, .bool false), (19, .bool ((a : Int) == 0)), (21, .bool ((b : Int) == 0)), (23, .bool (decide ((i : Int) < 20)))] ?_ ?_
       · intro KK hKK
         rcases Bool.eq_false_or_eq_true (!((((nextN x) : Int) == ((nextN y) : Int)) == ((a : Int) == 88172645463325252))) with u19 | u19
         · skip
           refine wB (c := true) 36 rfl u19 ?_
           iterate 2 refine p_apartM rfl ?_
           refine p_apartM rfl ?_
           refine wB (c := (!((((nextN x) : Int) == ((nextN y) : Int)) == ((a : Int) == 88172645463325252))) || (((nextN x) : Int) == 0)) 39 rfl (by rw [u19]; rfl) ?_
           refine wN (tN ?_)
           exact fun aa ww nn dd hs H => hKK aa ww nn dd (sat_sub ⟨rfl, rfl, rfl, rfl, rfl, rfl, rfl, rfl, rfl, rfl, rfl, rfl, trivial⟩ hs) H
         · skip
           refine wB (c := false) 36 rfl u19 ?_
           iterate 2 refine p_apartM rfl ?_
           refine p_apartM rfl ?_
           refine wB (c := (!((((nextN x) : Int) == ((nextN y) : Int)) == ((a : Int) == 88172645463325252))) || (((nextN x) : Int) == 0)) 39 rfl (by rw [u19]; rfl) ?_
           refine wN (tN ?_)
           exact fun aa ww nn dd hs H => hKK aa ww nn dd (sat_sub ⟨rfl, rfl, rfl, rfl, rfl, rfl, rfl, rfl, rfl, rfl, rfl, rfl, trivial⟩ hs) H
       refine wN ?_
       refine tN (wKK hK36 ?_)
       refine wCond (E := (!((((nextN x) : Int) == ((nextN y) : Int)) == ((a : Int) == 88172645463325252))) || (((nextN x) : Int) == 0)) rfl (fun z20 => ?_) (fun z20 => ?_)
       · skip
         exact absurd (z20.symm.trans (apart_round (seedV_1 z1) (seedV_0 z17) hxy.out hx0.out)) (by decide)
       · skip
         have z20l : (!((((nextN x) : Int) == ((nextN y) : Int)) == ((a : Int) == 88172645463325252))) = false := Reg.ol z20
         have z20ln : ((((nextN x) : Int) == ((nextN y) : Int)) == ((a : Int) == 88172645463325252)) = true := Reg.bt z20l
         have z20r : (((nextN x) : Int) == 0) = false := Reg.orr z20
         have z20ro : (((nextN x) : Int) != 0) = true := eqq_f z20r
         refine wSk ?_
         refine bN (tN (wKK hK34 ?_))
         refine wReg ?_
         iterate 2 refine p_apartM rfl ?_
         refine wI 25 rfl (IntWalk.i64_in _ (by omega)) ?_
         refine p_apartM rfl ?_
         refine wN ?_
         refine tN ?_
         intro aa ww nn dd hs H
         refine ⟨⟨i + 1, nextN x, nextN y, (by omega), (nextN_lt hxl), (nextN_lt hyl), (Lib.hid ⟨fun e => hxy.out.1 (nextN_inj e), fun e => by rw [hxy.out.2 e]⟩), (Lib.hid (nextN_ne hx0.out)), nn, dd, (sat_sub ⟨rfl, rfl, rfl, rfl, rfl, rfl, rfl, rfl, rfl, trivial⟩ hs), H⟩, ?_⟩
         have m9 := hs 9 _ rfl
         simp only [mu3_9, m9, intOf]
         omega
     · skip
       have z18d : ¬ ((i : Int) < 20) := of_decide_eq_false z18
       refine wEx ?_
       refine tX (tX (bX (tN (wKK hK30 ?_))))
       refine wSeqK fun KK37 hK37 => ?_
       refine wReg ?_
       iterate 2 refine p_apartM rfl ?_
       refine wC (l := [.pointer (some ⟨b3_1, 0, none⟩), .int .i64 n]) Try.func8 rfl (by kernel_rfl) (fun wc H => belowC b3_1 x n wc (H.out.blk 1 rfl) hxl) rfl rfl rfl rfl ?_
       intro wc H
       rintro er wd ⟨rfl, hb, ho⟩
       have H2 := hp_turn H (i := 1) (cs' := [.int .u64 ((belR x n).2)]) rfl hb ho
       refine ⟨_, rfl, wkAt H2 ?_⟩
       clear H H2
       refine p_apartM rfl ?_
       refine wN ?_
       refine tN (wKK hK37 ?_)
       refine wSeqK fun KK38 hK38 => ?_
       refine wReg ?_
       iterate 3 refine p_apartM rfl ?_
       refine wCut 16 [(61, .bool ((decide (0 ≤ ((belR x n).1))) && (((decide (n < 1)) && (((belR x n).1) == 0)) || ((decide (1 ≤ n)) && (decide (((belR x n).1) < n)))))), (0, .int .u64 a), (1, .int .u64 88172645463325252), (2, .int .i64 n), (7, .pointer (some ⟨b3_1, 0, none⟩)), (8, .pointer (some ⟨b4_1, 0, none⟩)), (9, .int .i64 i), (11, .int .i64 ((belR x n).1)), (13, .bool false), (19, .bool ((a : Int) == 0)), (21, .bool ((b : Int) == 0)), (23, .bool (decide ((i : Int) < 20)))] ?_ ?_
       · intro KK hKK
         rcases Bool.eq_false_or_eq_true (decide (0 ≤ ((belR x n).1))) with u21 | u21
         · skip
           refine wB (c := true) 45 rfl u21 ?_
           iterate 3 refine p_apartM rfl ?_
           refine wCut 3 [(51, .bool ((decide (n < 1)) && (((belR x n).1) == 0))), (0, .int .u64 a), (1, .int .u64 88172645463325252), (2, .int .i64 n), (7, .pointer (some ⟨b3_1, 0, none⟩)), (8, .pointer (some ⟨b4_1, 0, none⟩)), (9, .int .i64 i), (11, .int .i64 ((belR x n).1)), (13, .bool false), (19, .bool ((a : Int) == 0)), (21, .bool ((b : Int) == 0)), (23, .bool (decide ((i : Int) < 20))), (45, .bool true)] ?_ ?_
           · intro KK hKK
             rcases Bool.eq_false_or_eq_true (decide (n < 1)) with u22 | u22
             · skip
               refine wB (c := true) 48 rfl u22 ?_
               iterate 2 refine p_apartM rfl ?_
               refine p_apartM rfl ?_
               refine wB (c := (decide (n < 1)) && (((belR x n).1) == 0)) 51 rfl (by rw [u22]; rfl) ?_
               refine wN (tN ?_)
               exact fun aa ww nn dd hs H => hKK aa ww nn dd (sat_sub ⟨rfl, rfl, rfl, rfl, rfl, rfl, rfl, rfl, rfl, rfl, rfl, rfl, rfl, trivial⟩ hs) H
             · skip
               refine wB (c := false) 48 rfl u22 ?_
               iterate 2 refine p_apartM rfl ?_
               refine p_apartM rfl ?_
               refine wB (c := (decide (n < 1)) && (((belR x n).1) == 0)) 51 rfl (by rw [u22]; rfl) ?_
               refine wN (tN ?_)
               exact fun aa ww nn dd hs H => hKK aa ww nn dd (sat_sub ⟨rfl, rfl, rfl, rfl, rfl, rfl, rfl, rfl, rfl, rfl, rfl, rfl, rfl, trivial⟩ hs) H
           refine p_apartM rfl ?_
           refine wCut 8 [(60, .bool (((decide (n < 1)) && (((belR x n).1) == 0)) || ((decide (1 ≤ n)) && (decide (((belR x n).1) < n))))), (0, .int .u64 a), (1, .int .u64 88172645463325252), (2, .int .i64 n), (7, .pointer (some ⟨b3_1, 0, none⟩)), (8, .pointer (some ⟨b4_1, 0, none⟩)), (9, .int .i64 i), (11, .int .i64 ((belR x n).1)), (13, .bool false), (19, .bool ((a : Int) == 0)), (21, .bool ((b : Int) == 0)), (23, .bool (decide ((i : Int) < 20))), (45, .bool true)] ?_ ?_
           · intro KK hKK
             rcases Bool.eq_false_or_eq_true ((decide (n < 1)) && (((belR x n).1) == 0)) with u23 | u23
             · skip
               refine wB (c := true) 52 rfl u23 ?_
               iterate 7 refine p_apartM rfl ?_
               refine p_apartM rfl ?_
               refine wB (c := ((decide (n < 1)) && (((belR x n).1) == 0)) || ((decide (1 ≤ n)) && (decide (((belR x n).1) < n)))) 60 rfl (by rw [u23]; rfl) ?_
               refine wN (tN ?_)
               exact fun aa ww nn dd hs H => hKK aa ww nn dd (sat_sub ⟨rfl, rfl, rfl, rfl, rfl, rfl, rfl, rfl, rfl, rfl, rfl, rfl, rfl, trivial⟩ hs) H
             · skip
               refine wB (c := false) 52 rfl u23 ?_
               iterate 3 refine p_apartM rfl ?_
               refine wCut 4 [(59, .bool ((decide (1 ≤ n)) && (decide (((belR x n).1) < n)))), (0, .int .u64 a), (1, .int .u64 88172645463325252), (2, .int .i64 n), (7, .pointer (some ⟨b3_1, 0, none⟩)), (8, .pointer (some ⟨b4_1, 0, none⟩)), (9, .int .i64 i), (11, .int .i64 ((belR x n).1)), (13, .bool false), (19, .bool ((a : Int) == 0)), (21, .bool ((b : Int) == 0)), (23, .bool (decide ((i : Int) < 20))), (45, .bool true), (52, .bool false)] ?_ ?_
               · intro KK hKK
                 rcases Bool.eq_false_or_eq_true (decide (1 ≤ n)) with u24 | u24
                 · skip
                   refine wB (c := true) 55 rfl u24 ?_
                   iterate 3 refine p_apartM rfl ?_
                   refine p_apartM rfl ?_
                   refine wB (c := (decide (1 ≤ n)) && (decide (((belR x n).1) < n))) 59 rfl (by rw [u24]; rfl) ?_
                   refine wN (tN ?_)
                   exact fun aa ww nn dd hs H => hKK aa ww nn dd (sat_sub ⟨rfl, rfl, rfl, rfl, rfl, rfl, rfl, rfl, rfl, rfl, rfl, rfl, rfl, rfl, trivial⟩ hs) H
                 · skip
                   refine wB (c := false) 55 rfl u24 ?_
                   iterate 3 refine p_apartM rfl ?_
                   refine p_apartM rfl ?_
                   refine wB (c := (decide (1 ≤ n)) && (decide (((belR x n).1) < n))) 59 rfl (by rw [u24]; rfl) ?_
                   refine wN (tN ?_)
                   exact fun aa ww nn dd hs H => hKK aa ww nn dd (sat_sub ⟨rfl, rfl, rfl, rfl, rfl, rfl, rfl, rfl, rfl, rfl, rfl, rfl, rfl, rfl, trivial⟩ hs) H
               refine p_apartM rfl ?_
               refine wB (c := ((decide (n < 1)) && (((belR x n).1) == 0)) || ((decide (1 ≤ n)) && (decide (((belR x n).1) < n)))) 60 rfl (by rw [u23]; rfl) ?_
               refine wN (tN ?_)
               exact fun aa ww nn dd hs H => hKK aa ww nn dd (sat_sub ⟨rfl, rfl, rfl, rfl, rfl, rfl, rfl, rfl, rfl, rfl, rfl, rfl, rfl, trivial⟩ hs) H
           refine p_apartM rfl ?_
           refine wB (c := (decide (0 ≤ ((belR x n).1))) && (((decide (n < 1)) && (((belR x n).1) == 0)) || ((decide (1 ≤ n)) && (decide (((belR x n).1) < n))))) 61 rfl (by rw [u21]; rfl) ?_
           refine wN (tN ?_)
           exact fun aa ww nn dd hs H => hKK aa ww nn dd (sat_sub ⟨rfl, rfl, rfl, rfl, rfl, rfl, rfl, rfl, rfl, rfl, rfl, rfl, trivial⟩ hs) H
         · skip
           refine wB (c := false) 45 rfl u21 ?_
           iterate 15 refine p_apartM rfl ?_
           refine p_apartM rfl ?_
           refine wB (c := (decide (0 ≤ ((belR x n).1))) && (((decide (n < 1)) && (((belR x n).1) == 0)) || ((decide (1 ≤ n)) && (decide (((belR x n).1) < n))))) 61 rfl (by rw [u21]; rfl) ?_
           refine wN (tN ?_)
           exact fun aa ww nn dd hs H => hKK aa ww nn dd (sat_sub ⟨rfl, rfl, rfl, rfl, rfl, rfl, rfl, rfl, rfl, rfl, rfl, rfl, trivial⟩ hs) H
       refine p_apartM rfl ?_
       refine wN ?_
       refine tN (wKK hK38 ?_)
       refine wRet ?_
       exact wR1 rfl rfl (fun ww H => ⟨congrArg (fun z => Ending.returned (Value.bool z)) (belR_fin x n), H.out.off⟩)
   · skip
     have z17o : ((b : Int) != 0) = true := eqq_f z17
     refine wSk ?_
     refine tN (wKK hK28 ?_)
     refine wSeqK fun KK39 hK39 => ?_
     refine wSeqK fun KK40 hK40 => ?_
     refine wReg ?_
     refine p_apartM rfl ?_
     refine wN ?_
     refine tN (wKK hK40 ?_)
     refine wBlk ?_
     refine wLoop (fun ab wv => ∃ i : Nat, ∃ x : Nat, ∃ y : Nat, (i ≤ 20) ∧ (x < 18446744073709551616) ∧ (y < 18446744073709551616) ∧ (Hid (x = y ↔ seedV a = seedV b)) ∧ (Hid (x ≠ 0)) ∧ ab.tmps.size = 62 ∧ ab.defers = [] ∧ Sat [(0, .int .u64 a), (1, .int .u64 b), (2, .int .i64 n), (7, .pointer (some ⟨b3_1, 0, none⟩)), (8, .pointer (some ⟨b4_1, 0, none⟩)), (9, .int .i64 i), (13, .bool false), (19, .bool ((a : Int) == 0)), (21, .bool ((b : Int) == 0))] ab ∧ Hid (Hp [] w wv [rB b4_1 54 [.int .u64 y], rB b3_1 54 [.int .u64 x]])) (fun ab _ => 20 - (intOf (ab.eval (.tmp 9))).toNat) (fun aa ww nn dd hs H => ⟨0, seedV a, seedV b, (by omega), (seedV_lt hal), (seedV_lt hbl), (Lib.hid Iff.rfl), (Lib.hid (seed_ne a)), nn, dd, (sat_sub ⟨rfl, rfl, rfl, rfl, rfl, rfl, rfl, rfl, rfl, trivial⟩ hs), H⟩) ?_
     rintro a4 wv ⟨i, x, y, hi, hxl, hyl, hxy, hx0, nn, dd, hs, H⟩
     have mu4_9 := hs 9 _ rfl
     refine wIn nn dd hs H ?_
     clear nn dd hs H
     refine wSeqK fun KK41 hK41 => ?_
     refine wSeqK fun KK42 hK42 => ?_
     refine wReg ?_
     iterate 2 refine p_apartM rfl ?_
     refine wN ?_
     refine tN (wKK hK42 ?_)
     refine wCond (E := decide ((i : Int) < 20)) rfl (fun z25 => ?_) (fun z25 => ?_)
     · skip
       have z25d : (i : Int) < 20 := of_decide_eq_true z25
       refine wSk ?_
       refine tN (wKK hK41 ?_)
       refine wSeqK fun KK43 hK43 => ?_
       refine wBlk ?_
       refine wSeqK fun KK44 hK44 => ?_
       refine wReg ?_
       refine p_apartM rfl ?_
       refine wC (l := [.pointer (some ⟨b3_1, 0, none⟩)]) Try.func7 rfl (by kernel_rfl) (fun wc H => nextC b3_1 x wc (H.out.blk 1 rfl) hxl) rfl rfl rfl rfl ?_
       intro wc H
       rintro er wd ⟨rfl, hb, ho⟩
       have H2 := hp_turn H (i := 1) (cs' := [.int .u64 (nextN x)]) rfl hb ho
       refine ⟨_, rfl, wkAt H2 ?_⟩
       clear H H2
       refine p_apartM rfl ?_
       refine wN ?_
       refine tN (wKK hK44 ?_)
       refine wSeqK fun KK45 hK45 => ?_
       refine wReg ?_
       iterate 2 refine p_apartM rfl ?_
       refine wC (l := [.pointer (some ⟨b4_1, 0, none⟩)]) Try.func7 rfl (by kernel_rfl) (fun wc H => nextC b4_1 y wc (H.out.blk 0 rfl) hyl) rfl rfl rfl rfl ?_
       intro wc H
       rintro er wd ⟨rfl, hb, ho⟩
       have H2 := hp_turn H (i := 0) (cs' := [.int .u64 (nextN y)]) rfl hb ho
       refine ⟨_, rfl, wkAt H2 ?_⟩
       clear H H2
       iterate 4 refine p_apartM rfl ?_
       refine wE (.bool (!((((nextN x) : Int) == ((nextN y) : Int)) == ((a : Int) == (b : Int))))) rfl rfl rfl (fun aa ww hs _ => by have e31 := hs 31 _ rfl; have g31 := gt_of e31; have e34 := hs 34 _ rfl; have g34 := gt_of e34; simp only [execOp]; go_simp <;> first | rfl | omega) ?_
       refine p_apartM rfl ?_
       refine wCut 3 [(39, .bool ((!((((nextN x) : Int) == ((nextN y) : Int)) == ((a : Int) == (b : Int)))) || (((nextN x) : Int) == 0))), (0, .int .u64 a), (1, .int .u64 b), (2, .int .i64 n), (7, .pointer (some ⟨b3_1, 0, none⟩)), (8, .pointer (some ⟨b4_1, 0, none⟩)), (9, .int .i64 i), (10, .int .u64 (nextN x)), (13, .bool false), (19, .bool ((a : Int) == 0)), (21, .bool ((b : Int) == 0)), (23, .bool (decide ((i : Int) < 20)))] ?_ ?_
       · intro KK hKK
         rcases Bool.eq_false_or_eq_true (!((((nextN x) : Int) == ((nextN y) : Int)) == ((a : Int) == (b : Int)))) with u26 | u26
         · skip
           refine wB (c := true) 36 rfl u26 ?_
           iterate 2 refine p_apartM rfl ?_
           refine p_apartM rfl ?_
           refine wB (c := (!((((nextN x) : Int) == ((nextN y) : Int)) == ((a : Int) == (b : Int)))) || (((nextN x) : Int) == 0)) 39 rfl (by rw [u26]; rfl) ?_
           refine wN (tN ?_)
           exact fun aa ww nn dd hs H => hKK aa ww nn dd (sat_sub ⟨rfl, rfl, rfl, rfl, rfl, rfl, rfl, rfl, rfl, rfl, rfl, rfl, trivial⟩ hs) H
         · skip
           refine wB (c := false) 36 rfl u26 ?_
           iterate 2 refine p_apartM rfl ?_
           refine p_apartM rfl ?_
           refine wB (c := (!((((nextN x) : Int) == ((nextN y) : Int)) == ((a : Int) == (b : Int)))) || (((nextN x) : Int) == 0)) 39 rfl (by rw [u26]; rfl) ?_
           refine wN (tN ?_)
           exact fun aa ww nn dd hs H => hKK aa ww nn dd (sat_sub ⟨rfl, rfl, rfl, rfl, rfl, rfl, rfl, rfl, rfl, rfl, rfl, rfl, trivial⟩ hs) H
       refine wN ?_
       refine tN (wKK hK45 ?_)
       refine wCond (E := (!((((nextN x) : Int) == ((nextN y) : Int)) == ((a : Int) == (b : Int)))) || (((nextN x) : Int) == 0)) rfl (fun z27 => ?_) (fun z27 => ?_)
       · skip
         exact absurd (z27.symm.trans (apart_round (seedV_1 z1) (seedV_1 z17) hxy.out hx0.out)) (by decide)
       · skip
         have z27l : (!((((nextN x) : Int) == ((nextN y) : Int)) == ((a : Int) == (b : Int)))) = false := Reg.ol z27
         have z27ln : ((((nextN x) : Int) == ((nextN y) : Int)) == ((a : Int) == (b : Int))) = true := Reg.bt z27l
         have z27r : (((nextN x) : Int) == 0) = false := Reg.orr z27
         have z27ro : (((nextN x) : Int) != 0) = true := eqq_f z27r
         refine wSk ?_
         refine bN (tN (wKK hK43 ?_))
         refine wReg ?_
         iterate 2 refine p_apartM rfl ?_
         refine wI 25 rfl (IntWalk.i64_in _ (by omega)) ?_
         refine p_apartM rfl ?_
         refine wN ?_
         refine tN ?_
         intro aa ww nn dd hs H
         refine ⟨⟨i + 1, nextN x, nextN y, (by omega), (nextN_lt hxl), (nextN_lt hyl), (Lib.hid ⟨fun e => hxy.out.1 (nextN_inj e), fun e => by rw [hxy.out.2 e]⟩), (Lib.hid (nextN_ne hx0.out)), nn, dd, (sat_sub ⟨rfl, rfl, rfl, rfl, rfl, rfl, rfl, rfl, rfl, trivial⟩ hs), H⟩, ?_⟩
         have m9 := hs 9 _ rfl
         simp only [mu4_9, m9, intOf]
         omega
     · skip
       have z25d : ¬ ((i : Int) < 20) := of_decide_eq_false z25
       refine wEx ?_
       refine tX (tX (bX (tN (wKK hK39 ?_))))
       refine wSeqK fun KK46 hK46 => ?_
       refine wReg ?_
       iterate 2 refine p_apartM rfl ?_
       refine wC (l := [.pointer (some ⟨b3_1, 0, none⟩), .int .i64 n]) Try.func8 rfl (by kernel_rfl) (fun wc H => belowC b3_1 x n wc (H.out.blk 1 rfl) hxl) rfl rfl rfl rfl ?_
       intro wc H
       rintro er wd ⟨rfl, hb, ho⟩
       have H2 := hp_turn H (i := 1) (cs' := [.int .u64 ((belR x n).2)]) rfl hb ho
       refine ⟨_, rfl, wkAt H2 ?_⟩
       clear H H2
       refine p_apartM rfl ?_
       refine wN ?_
       refine tN (wKK hK46 ?_)
       refine wSeqK fun KK47 hK47 => ?_
       refine wReg ?_
       iterate 3 refine p_apartM rfl ?_
       refine wCut 16 [(61, .bool ((decide (0 ≤ ((belR x n).1))) && (((decide (n < 1)) && (((belR x n).1) == 0)) || ((decide (1 ≤ n)) && (decide (((belR x n).1) < n)))))), (0, .int .u64 a), (1, .int .u64 b), (2, .int .i64 n), (7, .pointer (some ⟨b3_1, 0, none⟩)), (8, .pointer (some ⟨b4_1, 0, none⟩)), (9, .int .i64 i), (11, .int .i64 ((belR x n).1)), (13, .bool false), (19, .bool ((a : Int) == 0)), (21, .bool ((b : Int) == 0)), (23, .bool (decide ((i : Int) < 20)))] ?_ ?_
       · intro KK hKK
         rcases Bool.eq_false_or_eq_true (decide (0 ≤ ((belR x n).1))) with u28 | u28
         · skip
           refine wB (c := true) 45 rfl u28 ?_
           iterate 3 refine p_apartM rfl ?_
           refine wCut 3 [(51, .bool ((decide (n < 1)) && (((belR x n).1) == 0))), (0, .int .u64 a), (1, .int .u64 b), (2, .int .i64 n), (7, .pointer (some ⟨b3_1, 0, none⟩)), (8, .pointer (some ⟨b4_1, 0, none⟩)), (9, .int .i64 i), (11, .int .i64 ((belR x n).1)), (13, .bool false), (19, .bool ((a : Int) == 0)), (21, .bool ((b : Int) == 0)), (23, .bool (decide ((i : Int) < 20))), (45, .bool true)] ?_ ?_
           · intro KK hKK
             rcases Bool.eq_false_or_eq_true (decide (n < 1)) with u29 | u29
             · skip
               refine wB (c := true) 48 rfl u29 ?_
               iterate 2 refine p_apartM rfl ?_
               refine p_apartM rfl ?_
               refine wB (c := (decide (n < 1)) && (((belR x n).1) == 0)) 51 rfl (by rw [u29]; rfl) ?_
               refine wN (tN ?_)
               exact fun aa ww nn dd hs H => hKK aa ww nn dd (sat_sub ⟨rfl, rfl, rfl, rfl, rfl, rfl, rfl, rfl, rfl, rfl, rfl, rfl, rfl, trivial⟩ hs) H
             · skip
               refine wB (c := false) 48 rfl u29 ?_
               iterate 2 refine p_apartM rfl ?_
               refine p_apartM rfl ?_
               refine wB (c := (decide (n < 1)) && (((belR x n).1) == 0)) 51 rfl (by rw [u29]; rfl) ?_
               refine wN (tN ?_)
               exact fun aa ww nn dd hs H => hKK aa ww nn dd (sat_sub ⟨rfl, rfl, rfl, rfl, rfl, rfl, rfl, rfl, rfl, rfl, rfl, rfl, rfl, trivial⟩ hs) H
           refine p_apartM rfl ?_
           refine wCut 8 [(60, .bool (((decide (n < 1)) && (((belR x n).1) == 0)) || ((decide (1 ≤ n)) && (decide (((belR x n).1) < n))))), (0, .int .u64 a), (1, .int .u64 b), (2, .int .i64 n), (7, .pointer (some ⟨b3_1, 0, none⟩)), (8, .pointer (some ⟨b4_1, 0, none⟩)), (9, .int .i64 i), (11, .int .i64 ((belR x n).1)), (13, .bool false), (19, .bool ((a : Int) == 0)), (21, .bool ((b : Int) == 0)), (23, .bool (decide ((i : Int) < 20))), (45, .bool true)] ?_ ?_
           · intro KK hKK
             rcases Bool.eq_false_or_eq_true ((decide (n < 1)) && (((belR x n).1) == 0)) with u30 | u30
             · skip
               refine wB (c := true) 52 rfl u30 ?_
               iterate 7 refine p_apartM rfl ?_
               refine p_apartM rfl ?_
               refine wB (c := ((decide (n < 1)) && (((belR x n).1) == 0)) || ((decide (1 ≤ n)) && (decide (((belR x n).1) < n)))) 60 rfl (by rw [u30]; rfl) ?_
               refine wN (tN ?_)
               exact fun aa ww nn dd hs H => hKK aa ww nn dd (sat_sub ⟨rfl, rfl, rfl, rfl, rfl, rfl, rfl, rfl, rfl, rfl, rfl, rfl, rfl, trivial⟩ hs) H
             · skip
               refine wB (c := false) 52 rfl u30 ?_
               iterate 3 refine p_apartM rfl ?_
               refine wCut 4 [(59, .bool ((decide (1 ≤ n)) && (decide (((belR x n).1) < n)))), (0, .int .u64 a), (1, .int .u64 b), (2, .int .i64 n), (7, .pointer (some ⟨b3_1, 0, none⟩)), (8, .pointer (some ⟨b4_1, 0, none⟩)), (9, .int .i64 i), (11, .int .i64 ((belR x n).1)), (13, .bool false), (19, .bool ((a : Int) == 0)), (21, .bool ((b : Int) == 0)), (23, .bool (decide ((i : Int) < 20))), (45, .bool true), (52, .bool false)] ?_ ?_
               · intro KK hKK
                 rcases Bool.eq_false_or_eq_true (decide (1 ≤ n)) with u31 | u31
                 · skip
                   refine wB (c := true) 55 rfl u31 ?_
                   iterate 3 refine p_apartM rfl ?_
                   refine p_apartM rfl ?_
                   refine wB (c := (decide (1 ≤ n)) && (decide (((belR x n).1) < n))) 59 rfl (by rw [u31]; rfl) ?_
                   refine wN (tN ?_)
                   exact fun aa ww nn dd hs H => hKK aa ww nn dd (sat_sub ⟨rfl, rfl, rfl, rfl, rfl, rfl, rfl, rfl, rfl, rfl, rfl, rfl, rfl, rfl, trivial⟩ hs) H
                 · skip
                   refine wB (c := false) 55 rfl u31 ?_
                   iterate 3 refine p_apartM rfl ?_
                   refine p_apartM rfl ?_
                   refine wB (c := (decide (1 ≤ n)) && (decide (((belR x n).1) < n))) 59 rfl (by rw [u31]; rfl) ?_
                   refine wN (tN ?_)
                   exact fun aa ww nn dd hs H => hKK aa ww nn dd (sat_sub ⟨rfl, rfl, rfl, rfl, rfl, rfl, rfl, rfl, rfl, rfl, rfl, rfl, rfl, rfl, trivial⟩ hs) H
               refine p_apartM rfl ?_
               refine wB (c := ((decide (n < 1)) && (((belR x n).1) == 0)) || ((decide (1 ≤ n)) && (decide (((belR x n).1) < n)))) 60 rfl (by rw [u30]; rfl) ?_
               refine wN (tN ?_)
               exact fun aa ww nn dd hs H => hKK aa ww nn dd (sat_sub ⟨rfl, rfl, rfl, rfl, rfl, rfl, rfl, rfl, rfl, rfl, rfl, rfl, rfl, trivial⟩ hs) H
           refine p_apartM rfl ?_
           refine wB (c := (decide (0 ≤ ((belR x n).1))) && (((decide (n < 1)) && (((belR x n).1) == 0)) || ((decide (1 ≤ n)) && (decide (((belR x n).1) < n))))) 61 rfl (by rw [u28]; rfl) ?_
           refine wN (tN ?_)
           exact fun aa ww nn dd hs H => hKK aa ww nn dd (sat_sub ⟨rfl, rfl, rfl, rfl, rfl, rfl, rfl, rfl, rfl, rfl, rfl, rfl, trivial⟩ hs) H
         · skip
           refine wB (c := false) 45 rfl u28 ?_
           iterate 15 refine p_apartM rfl ?_
           refine p_apartM rfl ?_
           refine wB (c := (decide (0 ≤ ((belR x n).1))) && (((decide (n < 1)) && (((belR x n).1) == 0)) || ((decide (1 ≤ n)) && (decide (((belR x n).1) < n))))) 61 rfl (by rw [u28]; rfl) ?_
           refine wN (tN ?_)
           exact fun aa ww nn dd hs H => hKK aa ww nn dd (sat_sub ⟨rfl, rfl, rfl, rfl, rfl, rfl, rfl, rfl, rfl, rfl, rfl, rfl, trivial⟩ hs) H
       refine p_apartM rfl ?_
       refine wN ?_
       refine tN (wKK hK47 ?_)
       refine wRet ?_
       exact wR1 rfl rfl (fun ww H => ⟨congrArg (fun z => Ending.returned (Value.bool z)) (belR_fin x n), H.out.off⟩)
end Go.Proofs.Ythflkhalipkdgaa.Mn
