/- Layer 35: the reference: draws, requests. -/
import Derived.Test.YthflkhalipkdgaaGreatProg
import Derived.Below
import Derived.WalkKit
import Derived.KernelRfl
import Derived.RowKit3
import Derived.Deep.LoopGhost
import Derived.Deep.QuietTactic
import Derived.BigQuiet
import Derived.WideLaws
import Derived.Deep.DeepCutAuto
import Derived.Deep.CutBlock
import Derived.Lib.Hide
import Derived.Laws.BitsLemmas
import Derived.Laws.Bits64
import Derived.Laws.BitsAllLaws
import Derived.IntWalk
import Derived.Outline
import Derived.WalkSpells
import Derived.Test.YthflkhalipkdgaaGreatGA
import Derived.Test.YthflkhalipkdgaaGreatMn8
import Derived.Test.YthflkhalipkdgaaGreatRg5
import Derived.Test.YthflkhalipkdgaaGreatGF
namespace Go.Proofs.YthflkhalipkdgaaGreat.Mn
set_option maxRecDepth 20000
open Go.RowKit Go.Proofs.YthflkhalipkdgaaGreat.Mem Go.Proofs.YthflkhalipkdgaaGreat.Reg Go.Proofs.YthflkhalipkdgaaGreat.Wk Go.Proofs.YthflkhalipkdgaaGreat.Si Go.Proofs.YthflkhalipkdgaaGreat.Ca Go.Proofs.YthflkhalipkdgaaGreat.Ms Go.Proofs.YthflkhalipkdgaaGreat.Fr Go.Proofs.YthflkhalipkdgaaGreat.Bld
set_option linter.unusedVariables false
set_option linter.unusedSimpArgs false

def loL : List Int := [2, 1, 1, 1, 1, 1, 1, 1, 1, 1, 1, 1, 1, 0, 0, 1, 0]
def hiL : List Int := [32, 4, 8, 64, 8, 64, 65536, 1024, 1024, 65536, 16, 16, 64, 8, 1048576, 4, 4]
def cfL (c : Cfg) : List Int := [c.floors, c.cars, c.seats, c.calls, c.lines, c.keys, c.window, c.burst, c.rate, c.idle, c.inn, c.out, c.feed, c.retries, c.life, c.door, c.holds]
theorem cell_of (l : List Int) {i : Nat} (h : i < l.length) : (l.map (Value.int .i64))[i]? = some (.int .i64 (l.getD i 0)) := by
  simp [List.getElem?_eq_getElem, h, List.getD_eq_getElem?_getD]
theorem cfg_iff (c : Cfg) : cfgOk c = true ↔ ∀ k, k < 17 → loL.getD k 0 ≤ (cfL c).getD k 0 ∧ (cfL c).getD k 0 ≤ hiL.getD k 0 := by
  constructor
  · intro h k hk
    unfold cfgOk at h
    simp at h
    have : k = 0 ∨ k = 1 ∨ k = 2 ∨ k = 3 ∨ k = 4 ∨ k = 5 ∨ k = 6 ∨ k = 7 ∨ k = 8 ∨ k = 9 ∨ k = 10 ∨ k = 11 ∨ k = 12 ∨ k = 13 ∨ k = 14 ∨ k = 15 ∨ k = 16 := by omega
    rcases this with rfl | rfl | rfl | rfl | rfl | rfl | rfl | rfl | rfl | rfl | rfl | rfl | rfl | rfl | rfl | rfl | rfl <;> simp [loL, hiL, cfL] <;> omega
  · intro h
    have g := fun k (hk : k < 17) => h k hk
    have g0 := g 0 (by decide)
    have g1 := g 1 (by decide)
    have g2 := g 2 (by decide)
    have g3 := g 3 (by decide)
    have g4 := g 4 (by decide)
    have g5 := g 5 (by decide)
    have g6 := g 6 (by decide)
    have g7 := g 7 (by decide)
    have g8 := g 8 (by decide)
    have g9 := g 9 (by decide)
    have g10 := g 10 (by decide)
    have g11 := g 11 (by decide)
    have g12 := g 12 (by decide)
    have g13 := g 13 (by decide)
    have g14 := g 14 (by decide)
    have g15 := g 15 (by decide)
    have g16 := g 16 (by decide)
    simp [loL, hiL, cfL] at g0 g1 g2 g3 g4 g5 g6 g7 g8 g9 g10 g11 g12 g13 g14 g15 g16
    unfold cfgOk
    simp
    omega
theorem check_ok (c : Cfg) : (checkV c == 0) = cfgOk c := by
  cases h : cfgOk c with
  | true => rw [checkV_good h]; rfl
  | false => rw [checkV_bad h]; rfl
theorem good_no {c : Cfg} {i : Nat} (hi : i < 17) (h : ((decide ((cfL c).getD i 0 < loL.getD i 0)) || (decide (hiL.getD i 0 < (cfL c).getD i 0))) = true) : false = (checkV c == 0) := by
  rw [check_ok]
  cases hc : cfgOk c with
  | false => rfl
  | true =>
    have := (cfg_iff c).1 hc i hi
    simp at h
    simp at this
    omega
theorem good_yes {c : Cfg} (h : ∀ k, k < 17 → loL.getD k 0 ≤ (cfL c).getD k 0 ∧ (cfL c).getD k 0 ≤ hiL.getD k 0) : true = (checkV c == 0) := by
  rw [check_ok, (cfg_iff c).2 h]
theorem good_step {c : Cfg} {i : Nat} (h : ∀ k, k < i → loL.getD k 0 ≤ (cfL c).getD k 0 ∧ (cfL c).getD k 0 ≤ hiL.getD k 0) (q1 : decide ((cfL c).getD i 0 < loL.getD i 0) = false) (q2 : decide (hiL.getD i 0 < (cfL c).getD i 0) = false) :
    ∀ k, k < i + 1 → loL.getD k 0 ≤ (cfL c).getD k 0 ∧ (cfL c).getD k 0 ≤ hiL.getD k 0 := fun k hk => by
  rcases Nat.lt_or_ge k i with h1 | h1
  · exact h k h1
  · obtain rfl : k = i := by omega
    have := of_decide_eq_false q1
    have := of_decide_eq_false q2
    omega
theorem ty_17_int : TyI Tryz.prog 78 17 true [.int .i64 0, .int .i64 0, .int .i64 0, .int .i64 0, .int .i64 0, .int .i64 0, .int .i64 0, .int .i64 0, .int .i64 0, .int .i64 0, .int .i64 0, .int .i64 0, .int .i64 0, .int .i64 0, .int .i64 0, .int .i64 0, .int .i64 0] := ⟨by kernel_rfl, by kernel_rfl, by kernel_rfl⟩
theorem tyhoistwayref35_Mint : TyI Tryz.prog 63 1 true [.int .u64 0] := ⟨by kernel_rfl, by kernel_rfl, by kernel_rfl⟩
theorem tyhoistwayref14_Request : TyI Tryz.prog 37 16 true [.int .i64 0, .int .i64 0, .int .i64 0, .int .i64 0, .int .i64 0, .int .i64 0, .int .i64 0, .int .i64 0, .int .i64 0, .int .i64 0, .int .i64 0, .int .i64 0, .int .i64 0, .int .i64 0, .int .i64 0, .int .i64 0] := ⟨by kernel_rfl, by kernel_rfl, by kernel_rfl⟩
theorem ty_10_int : TyI Tryz.prog 74 10 true [.int .i64 0, .int .i64 0, .int .i64 0, .int .i64 0, .int .i64 0, .int .i64 0, .int .i64 0, .int .i64 0, .int .i64 0, .int .i64 0] := ⟨by kernel_rfl, by kernel_rfl, by kernel_rfl⟩
theorem tyhoistwayref35_Event : TyI Tryz.prog 54 3 true [.int .i64 0, .int .i64 0, .string ⟨#[]⟩] := ⟨by kernel_rfl, by kernel_rfl, by kernel_rfl⟩
theorem ty_16_int : TyI Tryz.prog 36 16 true [.int .i64 0, .int .i64 0, .int .i64 0, .int .i64 0, .int .i64 0, .int .i64 0, .int .i64 0, .int .i64 0, .int .i64 0, .int .i64 0, .int .i64 0, .int .i64 0, .int .i64 0, .int .i64 0, .int .i64 0, .int .i64 0] := ⟨by kernel_rfl, by kernel_rfl, by kernel_rfl⟩
def tab_listR7 : Wk.Tab := [(25, 0, 0), (25, 1, 1), (25, 2, 2), (25, 3, 3), (25, 4, 4), (25, 5, 5), (25, 6, 6), (25, 7, 7), (25, 8, 8), (25, 9, 9), (25, 10, 10), (25, 11, 11), (25, 12, 12), (25, 13, 13), (25, 14, 14), (25, 15, 15), (25, 16, 16)]
theorem p_listR7 {ops : Array Oper} {rest : List Oper} {o : Oper} {w0 : World} {Q : Exit → Act → World → Prop} {S : List Nat} {R : List Res} {K K' : Wk.Env} {N : Nat} (h : Wk.stp tab_listR7 N ops K o = some K') (n : Wk.Wk N S w0 K' R (wpList Tryz.prog ops Q rest)) : Wk.Wk N S w0 K R (wpList Tryz.prog ops Q (o :: rest)) := Wk.wP (T := tab_listR7) (by kernel_rfl) h n
set_option maxHeartbeats 16000000 in
set_option maxRecDepth 20000 in
theorem listR7 (c : Cfg) (w : World) : Calls Tryz.prog 31 #[.agg (cA c)] w fun e w' => e = .returned (.agg #[.int .i64 c.floors, .int .i64 c.cars, .int .i64 c.seats, .int .i64 c.calls, .int .i64 c.lines, .int .i64 c.keys, .int .i64 c.window, .int .i64 c.burst, .int .i64 c.rate, .int .i64 c.idle, .int .i64 c.inn, .int .i64 c.out, .int .i64 c.feed, .int .i64 c.retries, .int .i64 c.life, .int .i64 c.door, .int .i64 c.holds]) ∧ Off [] w w' := by
 have H := Lib.hid (Hp.start [] w)
 refine wStart (args := [.agg (cA c)]) Tryz.func31 rfl rfl rfl H ?_
 clear H
 show Wk 38 _ _ [(0, .agg (cA c))] _ _
 refine wSeqK fun KK1 hK1 => ?_
 refine wReg ?_
 refine wBx rfl rfl rfl fun b1 => ?_
 refine wAl rfl rfl ty_17_int fun b2 => ?_
 refine wN ?_
 refine tN (wKK hK1 ?_)
 refine wSeqK fun KK2 hK2 => ?_
 refine wReg ?_
 refine p_listR7 rfl ?_
 refine wLd rfl tyint 1 rfl rfl ?_
 refine p_listR7 rfl ?_
 refine wLd rfl tyint 1 rfl rfl ?_
 refine p_listR7 rfl ?_
 refine wLd rfl tyint 1 rfl rfl ?_
 refine p_listR7 rfl ?_
 refine wLd rfl tyint 1 rfl rfl ?_
 refine p_listR7 rfl ?_
 refine wLd rfl tyint 1 rfl rfl ?_
 refine p_listR7 rfl ?_
 refine wLd rfl tyint 1 rfl rfl ?_
 refine p_listR7 rfl ?_
 refine wLd rfl tyint 1 rfl rfl ?_
 refine p_listR7 rfl ?_
 refine wLd rfl tyint 1 rfl rfl ?_
 refine p_listR7 rfl ?_
 refine wLd rfl tyint 1 rfl rfl ?_
 refine p_listR7 rfl ?_
 refine wLd rfl tyint 1 rfl rfl ?_
 refine p_listR7 rfl ?_
 refine wLd rfl tyint 1 rfl rfl ?_
 refine p_listR7 rfl ?_
 refine wLd rfl tyint 1 rfl rfl ?_
 refine p_listR7 rfl ?_
 refine wLd rfl tyint 1 rfl rfl ?_
 refine p_listR7 rfl ?_
 refine wLd rfl tyint 1 rfl rfl ?_
 refine p_listR7 rfl ?_
 refine wLd rfl tyint 1 rfl rfl ?_
 refine p_listR7 rfl ?_
 refine wLd rfl tyint 1 rfl rfl ?_
 refine p_listR7 rfl ?_
 refine wLd rfl tyint 1 rfl rfl ?_
 refine wE (.agg #[.int .i64 c.floors, .int .i64 c.cars, .int .i64 c.seats, .int .i64 c.calls, .int .i64 c.lines, .int .i64 c.keys, .int .i64 c.window, .int .i64 c.burst, .int .i64 c.rate, .int .i64 c.idle, .int .i64 c.inn, .int .i64 c.out, .int .i64 c.feed, .int .i64 c.retries, .int .i64 c.life, .int .i64 c.door, .int .i64 c.holds]) rfl rfl rfl (fun aa ww hs _ => by have e4 := hs 4 _ rfl; have g4 := gt_of e4; have e6 := hs 6 _ rfl; have g6 := gt_of e6; have e8 := hs 8 _ rfl; have g8 := gt_of e8; have e10 := hs 10 _ rfl; have g10 := gt_of e10; have e12 := hs 12 _ rfl; have g12 := gt_of e12; have e14 := hs 14 _ rfl; have g14 := gt_of e14; have e16 := hs 16 _ rfl; have g16 := gt_of e16; have e18 := hs 18 _ rfl; have g18 := gt_of e18; have e20 := hs 20 _ rfl; have g20 := gt_of e20; have e22 := hs 22 _ rfl; have g22 := gt_of e22; have e24 := hs 24 _ rfl; have g24 := gt_of e24; have e26 := hs 26 _ rfl; have g26 := gt_of e26; have e28 := hs 28 _ rfl; have g28 := gt_of e28; have e30 := hs 30 _ rfl; have g30 := gt_of e30; have e32 := hs 32 _ rfl; have g32 := gt_of e32; have e34 := hs 34 _ rfl; have g34 := gt_of e34; have e36 := hs 36 _ rfl; have g36 := gt_of e36; simp only [execOp]; go_simp <;> first | rfl | omega) ?_
 refine wSr rfl ty_17_int 0 rfl rfl rfl rfl [.int .i64 c.floors, .int .i64 c.cars, .int .i64 c.seats, .int .i64 c.calls, .int .i64 c.lines, .int .i64 c.keys, .int .i64 c.window, .int .i64 c.burst, .int .i64 c.rate, .int .i64 c.idle, .int .i64 c.inn, .int .i64 c.out, .int .i64 c.feed, .int .i64 c.retries, .int .i64 c.life, .int .i64 c.door, .int .i64 c.holds] (by first | rfl | (simp only [spl]; rfl)) ?_
 refine wN ?_
 refine tN (wKK hK2 ?_)
 refine wRet ?_
 exact wRc ty_17_int rfl rfl 0 rfl rfl (fun ww H => ⟨rfl, H.out.off⟩)
def tab_good7 : Wk.Tab := []
theorem p_good7 {ops : Array Oper} {rest : List Oper} {o : Oper} {w0 : World} {Q : Exit → Act → World → Prop} {S : List Nat} {R : List Res} {K K' : Wk.Env} {N : Nat} (h : Wk.stp tab_good7 N ops K o = some K') (n : Wk.Wk N S w0 K' R (wpList Tryz.prog ops Q rest)) : Wk.Wk N S w0 K R (wpList Tryz.prog ops Q (o :: rest)) := Wk.wP (T := tab_good7) (by kernel_rfl) h n
set_option maxRecDepth 20000 in
theorem good7_r7 (c : Cfg) (b1 : Nat) (b3 : Nat) (b4 : Nat) (b5 : Nat) (i : Nat) (hi : i ≤ 17) (z1d : (i : Int) < 17) {wa wb : World} (H : Hid (Hp [] wa wb [rB b5 78 [.int .i64 c.floors, .int .i64 c.cars, .int .i64 c.seats, .int .i64 c.calls, .int .i64 c.lines, .int .i64 c.keys, .int .i64 c.window, .int .i64 c.burst, .int .i64 c.rate, .int .i64 c.idle, .int .i64 c.inn, .int .i64 c.out, .int .i64 c.feed, .int .i64 c.retries, .int .i64 c.life, .int .i64 c.door, .int .i64 c.holds], rB b4 78 [.int .i64 32, .int .i64 4, .int .i64 8, .int .i64 64, .int .i64 8, .int .i64 64, .int .i64 65536, .int .i64 1024, .int .i64 1024, .int .i64 65536, .int .i64 16, .int .i64 16, .int .i64 64, .int .i64 8, .int .i64 1048576, .int .i64 4, .int .i64 4], rB b3 78 [.int .i64 2, .int .i64 1, .int .i64 1, .int .i64 1, .int .i64 1, .int .i64 1, .int .i64 1, .int .i64 1, .int .i64 1, .int .i64 1, .int .i64 1, .int .i64 1, .int .i64 1, .int .i64 0, .int .i64 0, .int .i64 1, .int .i64 0], rB b1 25 (cL c)])) (ac0 : Act) (hz : ac0.tmps.size = 31) (so3 : ac0.eval (.tmp 3) = .pointer (some ⟨b3, 0, none⟩)) (so4 : ac0.eval (.tmp 4) = .pointer (some ⟨b4, 0, none⟩)) (so5 : ac0.eval (.tmp 5) = .pointer (some ⟨b5, 0, none⟩)) (so6 : ac0.eval (.tmp 6) = .int .i64 i) {QR : Exit → Act → World → Prop} (hfin : ∀ (ac1 : Act) (wz : World), ac1.tmps.size = 31 → ac1.defers = ac0.defers → (∀ t, ([15, 16, 17, 18, 19, 20, 21, 22, 23, 24, 25, 26, 27, 28, 29, 30] : List Nat).contains t = false → ac1.eval (.tmp t) = ac0.eval (.tmp t)) → ac1.eval (.tmp 30) = .bool ((decide (((cfL c).getD i 0) < (loL.getD i 0))) || (decide ((hiL.getD i 0) < ((cfL c).getD i 0)))) →  Hid (Hp [] wa wz [rB b5 78 [.int .i64 c.floors, .int .i64 c.cars, .int .i64 c.seats, .int .i64 c.calls, .int .i64 c.lines, .int .i64 c.keys, .int .i64 c.window, .int .i64 c.burst, .int .i64 c.rate, .int .i64 c.idle, .int .i64 c.inn, .int .i64 c.out, .int .i64 c.feed, .int .i64 c.retries, .int .i64 c.life, .int .i64 c.door, .int .i64 c.holds], rB b4 78 [.int .i64 32, .int .i64 4, .int .i64 8, .int .i64 64, .int .i64 8, .int .i64 64, .int .i64 65536, .int .i64 1024, .int .i64 1024, .int .i64 65536, .int .i64 16, .int .i64 16, .int .i64 64, .int .i64 8, .int .i64 1048576, .int .i64 4, .int .i64 4], rB b3 78 [.int .i64 2, .int .i64 1, .int .i64 1, .int .i64 1, .int .i64 1, .int .i64 1, .int .i64 1, .int .i64 1, .int .i64 1, .int .i64 1, .int .i64 1, .int .i64 1, .int .i64 1, .int .i64 0, .int .i64 0, .int .i64 1, .int .i64 0], rB b1 25 (cL c)]) → QR .normal ac1 wz) : (regAt Tryz.f16 7).wp Tryz.prog QR ac0 wb := by
  refine wp_region_st mixedP ⟨[0, 1, 2, 0, 1, 2, 3, 4, 5, 6, 7, 5, 6, 7, 8, 9], by kernel_rfl⟩ [[], [0], [0, 1], [], [3], [3, 4], [0, 1, 2, 3, 4, 5], [0, 1, 2, 3, 4, 5, 6], [0, 1, 2, 3, 4, 5, 6, 7], [0, 1, 2, 3, 4, 5, 6, 7, 8], [0, 1, 2, 3, 4, 5, 6, 7, 8, 9], [0, 1, 2, 3, 4, 5, 6, 7], [0, 1, 2, 3, 4, 5, 6, 7, 11], [0, 1, 2, 3, 4, 5, 6, 7, 11, 12], [0, 1, 2, 3, 4, 5, 6, 7, 8, 9, 10, 11, 12, 13], [0, 1, 2, 3, 4, 5, 6, 7, 8, 9, 10, 11, 12, 13, 14]] (by kernel_rfl) (by kernel_rfl) 31 hz (by kernel_rfl) (fun (xx : Unit) jx => nth [.int .i64 i, .pointer (some ⟨b5, i, none⟩), .int .i64 ((cfL c).getD i 0), .int .i64 i, .pointer (some ⟨b3, i, none⟩), .int .i64 (loL.getD i 0), .bool (decide (((cfL c).getD i 0) < (loL.getD i 0))), .bool (decide (((cfL c).getD i 0) < (loL.getD i 0))), bif !(decide (((cfL c).getD i 0) < (loL.getD i 0))) then .int .i64 i else undef, bif !(decide (((cfL c).getD i 0) < (loL.getD i 0))) then .pointer (some ⟨b5, i, none⟩) else undef, bif !(decide (((cfL c).getD i 0) < (loL.getD i 0))) then .int .i64 ((cfL c).getD i 0) else undef, bif !(decide (((cfL c).getD i 0) < (loL.getD i 0))) then .int .i64 i else undef, bif !(decide (((cfL c).getD i 0) < (loL.getD i 0))) then .pointer (some ⟨b4, i, none⟩) else undef, bif !(decide (((cfL c).getD i 0) < (loL.getD i 0))) then .int .i64 (hiL.getD i 0) else undef, bif !(decide (((cfL c).getD i 0) < (loL.getD i 0))) then .bool (decide ((hiL.getD i 0) < ((cfL c).getD i 0))) else undef, .bool ((decide (((cfL c).getD i 0) < (loL.getD i 0))) || (decide ((hiL.getD i 0) < ((cfL c).getD i 0))))] jx) (fun (LL : Nat → Bool) (xx : Unit) ww => Hp [] wa ww [rB b5 78 [.int .i64 c.floors, .int .i64 c.cars, .int .i64 c.seats, .int .i64 c.calls, .int .i64 c.lines, .int .i64 c.keys, .int .i64 c.window, .int .i64 c.burst, .int .i64 c.rate, .int .i64 c.idle, .int .i64 c.inn, .int .i64 c.out, .int .i64 c.feed, .int .i64 c.retries, .int .i64 c.life, .int .i64 c.door, .int .i64 c.holds], rB b4 78 [.int .i64 32, .int .i64 4, .int .i64 8, .int .i64 64, .int .i64 8, .int .i64 64, .int .i64 65536, .int .i64 1024, .int .i64 1024, .int .i64 65536, .int .i64 16, .int .i64 16, .int .i64 64, .int .i64 8, .int .i64 1048576, .int .i64 4, .int .i64 4], rB b3 78 [.int .i64 2, .int .i64 1, .int .i64 1, .int .i64 1, .int .i64 1, .int .i64 1, .int .i64 1, .int .i64 1, .int .i64 1, .int .i64 1, .int .i64 1, .int .i64 1, .int .i64 1, .int .i64 0, .int .i64 0, .int .i64 1, .int .i64 0], rB b1 25 (cL c)]) () H.out.drew ?_ (steps_al ?_) ?_ ?_
  · exact fun _ _ _ _ _ h => h
  · refine al_cons ?_ (al_cons ?_ (al_cons ?_ (al_cons ?_ (al_cons ?_ (al_cons ?_ (al_cons ?_ (al_cons ?_ (al_cons ?_ (al_cons ?_ (al_cons ?_ (al_cons ?_ (al_cons ?_ (al_cons ?_ (al_cons ?_ (al_cons ?_ (al_nil))))))))))))))))
    · intro LL xx ac wc sg hst hwant QQ hgo
      exact op_val hwant hgo hst _ (exec_move rfl ((sg.free 6 (by kernel_rfl)).trans so6)) rfl
    · intro LL xx ac wc sg hst hwant QQ hgo
      have se5 : ac.eval (.tmp 5) = _ := ((sg.free 5 (by kernel_rfl)).trans so5)
      have sg5 := gt_of se5
      have se15 : ac.eval (.tmp 15) = _ := (sg.slot 0 (sg.anc 0 rfl))
      have sg15 := gt_of se15
      (try simp only [nth] at se5 sg5 se15 sg15)
      exact op_val hwant hgo hst _ (by simp only [execOp, nth]; go_simp <;> omega) rfl
    · intro LL xx ac wc sg hst hwant QQ hgo
      have H := Lib.hid hst
      refine hpA_load1 tyint H rfl (sg.slot 1 (sg.anc 1 rfl)) hwant (by (repeat (first | exact List.Mem.head _ | apply List.Mem.tail))) (cell_of (cfL c) (i := i) (by simp [cfL, loL, hiL]; omega)) ?_
      exact hgo _ () _ (fun _ _ => rfl) rfl hst
    · intro LL xx ac wc sg hst hwant QQ hgo
      exact op_val hwant hgo hst _ (exec_move rfl ((sg.free 6 (by kernel_rfl)).trans so6)) rfl
    · intro LL xx ac wc sg hst hwant QQ hgo
      have se3 : ac.eval (.tmp 3) = _ := ((sg.free 3 (by kernel_rfl)).trans so3)
      have sg3 := gt_of se3
      have se18 : ac.eval (.tmp 18) = _ := (sg.slot 3 (sg.anc 3 rfl))
      have sg18 := gt_of se18
      (try simp only [nth] at se3 sg3 se18 sg18)
      exact op_val hwant hgo hst _ (by simp only [execOp, nth]; go_simp <;> omega) rfl
    · intro LL xx ac wc sg hst hwant QQ hgo
      have H := Lib.hid hst
      refine hpA_load1 tyint H rfl (sg.slot 4 (sg.anc 4 rfl)) hwant (by (repeat (first | exact List.Mem.head _ | apply List.Mem.tail))) (cell_of loL (i := i) (by simp [cfL, loL, hiL]; omega)) ?_
      exact hgo _ () _ (fun _ _ => rfl) rfl hst
    · intro LL xx ac wc sg hst hwant QQ hgo
      have se17 : ac.eval (.tmp 17) = _ := (sg.slot 2 (sg.anc 2 rfl))
      have sg17 := gt_of se17
      have se20 : ac.eval (.tmp 20) = _ := (sg.slot 5 (sg.anc 5 rfl))
      have sg20 := gt_of se20
      (try simp only [nth] at se17 sg17 se20 sg20)
      exact op_val hwant hgo hst _ (by simp only [execOp, nth]; go_simp <;> omega) rfl
    · intro LL xx ac wc sg hst hwant QQ hgo
      exact op_val hwant hgo hst _ (exec_move rfl (sg.slot 6 (sg.anc 6 rfl))) rfl
    · intro LL xx ac wc sg hst hwant QQ hgo
      have hG : (!(decide (((cfL c).getD i 0) < (loL.getD i 0)))) = true := (want_f rfl rfl (sg.slot 7 (sg.anc 7 rfl))).symm.trans hwant
      exact op_val hwant hgo hst _ (exec_move rfl ((sg.free 6 (by kernel_rfl)).trans so6)) (cI hG)
    · intro LL xx ac wc sg hst hwant QQ hgo
      have hG : (!(decide (((cfL c).getD i 0) < (loL.getD i 0)))) = true := (want_f rfl rfl (sg.slot 7 (sg.anc 7 rfl))).symm.trans hwant
      have se5 : ac.eval (.tmp 5) = _ := ((sg.free 5 (by kernel_rfl)).trans so5)
      have sg5 := gt_of se5
      have se23 : ac.eval (.tmp 23) = _ := (cT (sg.slot 8 (sg.anc 8 rfl)) hG)
      have sg23 := gt_of se23
      (try simp only [nth] at se5 sg5 se23 sg23)
      exact op_val hwant hgo hst _ (by simp only [execOp, nth]; go_simp <;> omega) (cI hG)
    · intro LL xx ac wc sg hst hwant QQ hgo
      have hG : (!(decide (((cfL c).getD i 0) < (loL.getD i 0)))) = true := (want_f rfl rfl (sg.slot 7 (sg.anc 7 rfl))).symm.trans hwant
      have H := Lib.hid hst
      refine hpA_load1 tyint H rfl (cT (sg.slot 9 (sg.anc 9 rfl)) hG) hwant (by (repeat (first | exact List.Mem.head _ | apply List.Mem.tail))) (cell_of (cfL c) (i := i) (by simp [cfL, loL, hiL]; omega)) ?_
      exact hgo _ () _ (fun _ _ => rfl) (cI hG) hst
    · intro LL xx ac wc sg hst hwant QQ hgo
      have hG : (!(decide (((cfL c).getD i 0) < (loL.getD i 0)))) = true := (want_f rfl rfl (sg.slot 7 (sg.anc 7 rfl))).symm.trans hwant
      exact op_val hwant hgo hst _ (exec_move rfl ((sg.free 6 (by kernel_rfl)).trans so6)) (cI hG)
    · intro LL xx ac wc sg hst hwant QQ hgo
      have hG : (!(decide (((cfL c).getD i 0) < (loL.getD i 0)))) = true := (want_f rfl rfl (sg.slot 7 (sg.anc 7 rfl))).symm.trans hwant
      have se4 : ac.eval (.tmp 4) = _ := ((sg.free 4 (by kernel_rfl)).trans so4)
      have sg4 := gt_of se4
      have se26 : ac.eval (.tmp 26) = _ := (cT (sg.slot 11 (sg.anc 11 rfl)) hG)
      have sg26 := gt_of se26
      (try simp only [nth] at se4 sg4 se26 sg26)
      exact op_val hwant hgo hst _ (by simp only [execOp, nth]; go_simp <;> omega) (cI hG)
    · intro LL xx ac wc sg hst hwant QQ hgo
      have hG : (!(decide (((cfL c).getD i 0) < (loL.getD i 0)))) = true := (want_f rfl rfl (sg.slot 7 (sg.anc 7 rfl))).symm.trans hwant
      have H := Lib.hid hst
      refine hpA_load1 tyint H rfl (cT (sg.slot 12 (sg.anc 12 rfl)) hG) hwant (by (repeat (first | exact List.Mem.head _ | apply List.Mem.tail))) (cell_of hiL (i := i) (by simp [cfL, loL, hiL]; omega)) ?_
      exact hgo _ () _ (fun _ _ => rfl) (cI hG) hst
    · intro LL xx ac wc sg hst hwant QQ hgo
      have hG : (!(decide (((cfL c).getD i 0) < (loL.getD i 0)))) = true := (want_f rfl rfl (sg.slot 7 (sg.anc 7 rfl))).symm.trans hwant
      have se25 : ac.eval (.tmp 25) = _ := (cT (sg.slot 10 (sg.anc 10 rfl)) hG)
      have sg25 := gt_of se25
      have se28 : ac.eval (.tmp 28) = _ := (cT (sg.slot 13 (sg.anc 13 rfl)) hG)
      have sg28 := gt_of se28
      (try simp only [nth] at se25 sg25 se28 sg28)
      exact op_val hwant hgo hst _ (by simp only [execOp, nth]; go_simp <;> omega) (cI hG)
    · intro LL xx ac wc sg hst hwant QQ hgo
      exact op_val hwant hgo hst (.bool ((decide (((cfL c).getD i 0) < (loL.getD i 0))) || (decide ((hiL.getD i 0) < ((cfL c).getD i 0))))) (exec_or (Y := decide ((hiL.getD i 0) < ((cfL c).getD i 0))) rfl (sg.slot 7 (sg.anc 7 rfl)) (fun qq => cT (sg.slot 14 (sg.anc 14 rfl)) (bk qq))) rfl
  · refine skips [8, 9, 10, 11, 12, 13, 14] (by kernel_rfl) ?_
    refine List.forall_mem_cons.2 ⟨?_, List.forall_mem_cons.2 ⟨?_, List.forall_mem_cons.2 ⟨?_, List.forall_mem_cons.2 ⟨?_, List.forall_mem_cons.2 ⟨?_, List.forall_mem_cons.2 ⟨?_, List.forall_mem_cons.2 ⟨?_, fun _ h => by cases h⟩⟩⟩⟩⟩⟩⟩
    · intro oo hop LL xx ac sg hwant
      cases Option.some.inj hop
      have hG : (!(decide (((cfL c).getD i 0) < (loL.getD i 0)))) = false := (want_f rfl rfl (sg.slot 7 (sg.anc 7 rfl))).symm.trans hwant
      exact ⟨cF hG, fun _ h => h⟩
    · intro oo hop LL xx ac sg hwant
      cases Option.some.inj hop
      have hG : (!(decide (((cfL c).getD i 0) < (loL.getD i 0)))) = false := (want_f rfl rfl (sg.slot 7 (sg.anc 7 rfl))).symm.trans hwant
      exact ⟨cF hG, fun _ h => h⟩
    · intro oo hop LL xx ac sg hwant
      cases Option.some.inj hop
      have hG : (!(decide (((cfL c).getD i 0) < (loL.getD i 0)))) = false := (want_f rfl rfl (sg.slot 7 (sg.anc 7 rfl))).symm.trans hwant
      exact ⟨cF hG, fun _ h => h⟩
    · intro oo hop LL xx ac sg hwant
      cases Option.some.inj hop
      have hG : (!(decide (((cfL c).getD i 0) < (loL.getD i 0)))) = false := (want_f rfl rfl (sg.slot 7 (sg.anc 7 rfl))).symm.trans hwant
      exact ⟨cF hG, fun _ h => h⟩
    · intro oo hop LL xx ac sg hwant
      cases Option.some.inj hop
      have hG : (!(decide (((cfL c).getD i 0) < (loL.getD i 0)))) = false := (want_f rfl rfl (sg.slot 7 (sg.anc 7 rfl))).symm.trans hwant
      exact ⟨cF hG, fun _ h => h⟩
    · intro oo hop LL xx ac sg hwant
      cases Option.some.inj hop
      have hG : (!(decide (((cfL c).getD i 0) < (loL.getD i 0)))) = false := (want_f rfl rfl (sg.slot 7 (sg.anc 7 rfl))).symm.trans hwant
      exact ⟨cF hG, fun _ h => h⟩
    · intro oo hop LL xx ac sg hwant
      cases Option.some.inj hop
      have hG : (!(decide (((cfL c).getD i 0) < (loL.getD i 0)))) = false := (want_f rfl rfl (sg.slot 7 (sg.anc 7 rfl))).symm.trans hwant
      exact ⟨cF hG, fun _ h => h⟩
  · intro xx ac1 wz hfr hsl hst
    exact hfin ac1 wz (hfr.size.trans hz) hfr.defers (fr_keep hfr [15, 16, 17, 18, 19, 20, 21, 22, 23, 24, 25, 26, 27, 28, 29, 30] (by kernel_rfl)) (hsl 15 (by decide)) (Lib.hid hst)
set_option maxHeartbeats 16000000 in
set_option maxRecDepth 20000 in
theorem good7 (c : Cfg) (w : World) : Calls Tryz.prog 16 #[.agg (cA c)] w fun e w' => e = .returned (.bool (checkV c == 0)) ∧ Off [] w w' := by
 have H := Lib.hid (Hp.start [] w)
 refine wStart (args := [.agg (cA c)]) Tryz.func16 rfl rfl rfl H ?_
 clear H
 show Wk 31 _ _ [(0, .agg (cA c))] _ _
 refine wSeqK fun KK1 hK1 => ?_
 refine wReg ?_
 refine wBx rfl rfl rfl fun b1 => ?_
 refine p_good7 rfl ?_
 refine wN ?_
 refine tN (wKK hK1 ?_)
 refine wSeqK fun KK2 hK2 => ?_
 refine wReg ?_
 refine wE (.agg #[.int .i64 2, .int .i64 1, .int .i64 1, .int .i64 1, .int .i64 1, .int .i64 1, .int .i64 1, .int .i64 1, .int .i64 1, .int .i64 1, .int .i64 1, .int .i64 1, .int .i64 1, .int .i64 0, .int .i64 0, .int .i64 1, .int .i64 0]) rfl rfl rfl (fun aa ww hs _ => by simp only [execOp]; go_simp <;> first | rfl | omega) ?_
 refine wAl rfl rfl ty_17_int fun b3 => ?_
 refine wSr rfl ty_17_int 0 rfl rfl rfl rfl [.int .i64 2, .int .i64 1, .int .i64 1, .int .i64 1, .int .i64 1, .int .i64 1, .int .i64 1, .int .i64 1, .int .i64 1, .int .i64 1, .int .i64 1, .int .i64 1, .int .i64 1, .int .i64 0, .int .i64 0, .int .i64 1, .int .i64 0] (by first | rfl | (simp only [spl]; rfl)) ?_
 refine wN ?_
 refine tN (wKK hK2 ?_)
 refine wSeqK fun KK3 hK3 => ?_
 refine wReg ?_
 refine wE (.agg #[.int .i64 32, .int .i64 4, .int .i64 8, .int .i64 64, .int .i64 8, .int .i64 64, .int .i64 65536, .int .i64 1024, .int .i64 1024, .int .i64 65536, .int .i64 16, .int .i64 16, .int .i64 64, .int .i64 8, .int .i64 1048576, .int .i64 4, .int .i64 4]) rfl rfl rfl (fun aa ww hs _ => by simp only [execOp]; go_simp <;> first | rfl | omega) ?_
 refine wAl rfl rfl ty_17_int fun b4 => ?_
 refine wSr rfl ty_17_int 0 rfl rfl rfl rfl [.int .i64 32, .int .i64 4, .int .i64 8, .int .i64 64, .int .i64 8, .int .i64 64, .int .i64 65536, .int .i64 1024, .int .i64 1024, .int .i64 65536, .int .i64 16, .int .i64 16, .int .i64 64, .int .i64 8, .int .i64 1048576, .int .i64 4, .int .i64 4] (by first | rfl | (simp only [spl]; rfl)) ?_
 refine wN ?_
 refine tN (wKK hK3 ?_)
 refine wSeqK fun KK4 hK4 => ?_
 refine wReg ?_
 refine wLr rfl tyapi_Config 2 rfl (cL c) rfl rfl ?_
 refine wQ (l := [.agg (cA c)]) Tryz.func31 rfl (by kernel_rfl) (.agg #[.int .i64 c.floors, .int .i64 c.cars, .int .i64 c.seats, .int .i64 c.calls, .int .i64 c.lines, .int .i64 c.keys, .int .i64 c.window, .int .i64 c.burst, .int .i64 c.rate, .int .i64 c.idle, .int .i64 c.inn, .int .i64 c.out, .int .i64 c.feed, .int .i64 c.retries, .int .i64 c.life, .int .i64 c.door, .int .i64 c.holds]) (fun wc H => listR7 c wc) rfl rfl rfl rfl ?_
 refine wAl rfl rfl ty_17_int fun b5 => ?_
 refine wSr rfl ty_17_int 0 rfl rfl rfl rfl [.int .i64 c.floors, .int .i64 c.cars, .int .i64 c.seats, .int .i64 c.calls, .int .i64 c.lines, .int .i64 c.keys, .int .i64 c.window, .int .i64 c.burst, .int .i64 c.rate, .int .i64 c.idle, .int .i64 c.inn, .int .i64 c.out, .int .i64 c.feed, .int .i64 c.retries, .int .i64 c.life, .int .i64 c.door, .int .i64 c.holds] (by first | rfl | (simp only [spl]; rfl)) ?_
 refine wN ?_
 refine tN (wKK hK4 ?_)
 refine wSeqK fun KK5 hK5 => ?_
 refine wSeqK fun KK6 hK6 => ?_
 refine wReg ?_
 refine p_good7 rfl ?_
 refine wN ?_
 refine tN (wKK hK6 ?_)
 refine wBlk ?_
 refine wLoop (fun ab wv => ∃ i : Nat, (i ≤ 17) ∧ (Hid (∀ k, k < i → loL.getD k 0 ≤ (cfL c).getD k 0 ∧ (cfL c).getD k 0 ≤ hiL.getD k 0)) ∧ ab.tmps.size = 31 ∧ ab.defers = [] ∧ Sat [(0, .agg (cA c)), (1, .pointer (some ⟨b1, 0, none⟩)), (3, .pointer (some ⟨b3, 0, none⟩)), (4, .pointer (some ⟨b4, 0, none⟩)), (5, .pointer (some ⟨b5, 0, none⟩)), (6, .int .i64 i)] ab ∧ Hid (Hp [] w wv [rB b5 78 [.int .i64 c.floors, .int .i64 c.cars, .int .i64 c.seats, .int .i64 c.calls, .int .i64 c.lines, .int .i64 c.keys, .int .i64 c.window, .int .i64 c.burst, .int .i64 c.rate, .int .i64 c.idle, .int .i64 c.inn, .int .i64 c.out, .int .i64 c.feed, .int .i64 c.retries, .int .i64 c.life, .int .i64 c.door, .int .i64 c.holds], rB b4 78 [.int .i64 32, .int .i64 4, .int .i64 8, .int .i64 64, .int .i64 8, .int .i64 64, .int .i64 65536, .int .i64 1024, .int .i64 1024, .int .i64 65536, .int .i64 16, .int .i64 16, .int .i64 64, .int .i64 8, .int .i64 1048576, .int .i64 4, .int .i64 4], rB b3 78 [.int .i64 2, .int .i64 1, .int .i64 1, .int .i64 1, .int .i64 1, .int .i64 1, .int .i64 1, .int .i64 1, .int .i64 1, .int .i64 1, .int .i64 1, .int .i64 1, .int .i64 1, .int .i64 0, .int .i64 0, .int .i64 1, .int .i64 0], rB b1 25 (cL c)])) (fun ab _ => 17 - (intOf (ab.eval (.tmp 6))).toNat) (fun aa ww nn dd hs H => ⟨0, (by omega), (Lib.hid (fun k hk => absurd hk (by omega))), nn, dd, (sat_sub ⟨rfl, rfl, rfl, rfl, rfl, rfl, trivial⟩ hs), H⟩) ?_
 rintro a1 wv ⟨i, hi, hr, nn, dd, hs, H⟩
 have mu1_6 := hs 6 _ rfl
 refine wIn nn dd hs H ?_
 clear nn dd hs H
 refine wSeqK fun KK7 hK7 => ?_
 refine wSeqK fun KK8 hK8 => ?_
 refine wReg ?_
 iterate 2 refine p_good7 rfl ?_
 refine wN ?_
 refine tN (wKK hK8 ?_)
 refine wCond (E := decide ((i : Int) < 17)) rfl (fun z1 => ?_) (fun z1 => ?_)
 · skip
   have z1d : (i : Int) < 17 := of_decide_eq_true z1
   refine wSk ?_
   refine tN (wKK hK7 ?_)
   refine wSeqK fun KK9 hK9 => ?_
   refine wBlk ?_
   refine wSeqK fun KK10 hK10 => ?_
   intro aa ww nn dd hs H
   refine good7_r7 c b1 b3 b4 b5 i hi z1d H aa nn (hs 3 _ rfl) (hs 4 _ rfl) (hs 5 _ rfl) (hs 6 _ rfl) ?_
   intro ab wv nn2 dd2 kp o30 H2
   refine wIn nn2 (dd2.trans dd) (Sat.cons (Sat.cons (Sat.cons (Sat.cons (Sat.cons (Sat.cons (Sat.cons (Sat.cons (sat_nil ab) ((kp 12 rfl).trans (hs 12 _ rfl))) ((kp 6 rfl).trans (hs 6 _ rfl))) ((kp 5 rfl).trans (hs 5 _ rfl))) ((kp 4 rfl).trans (hs 4 _ rfl))) ((kp 3 rfl).trans (hs 3 _ rfl))) ((kp 1 rfl).trans (hs 1 _ rfl))) ((kp 0 rfl).trans (hs 0 _ rfl))) o30) H2 ?_
   clear hs H kp H2 dd dd2 nn nn2 o30
   refine tN (wKK hK10 ?_)
   refine wCond (E := (decide (((cfL c).getD i 0) < (loL.getD i 0))) || (decide ((hiL.getD i 0) < ((cfL c).getD i 0)))) rfl (fun z2 => ?_) (fun z2 => ?_)
   · skip
     refine wSeqK fun KK11 hK11 => ?_
     refine wReg ?_
     refine p_good7 rfl ?_
     refine wN ?_
     refine tN (wKK hK11 ?_)
     refine wRet ?_
     refine bR (tR (tR (bR (tR ?_))))
     exact wR1 rfl rfl (fun ww H => ⟨congrArg (fun z => Ending.returned (.bool z)) (good_no (by omega) z2), H.out.off⟩)
   · skip
     have z2l : (decide (((cfL c).getD i 0) < (loL.getD i 0))) = false := Reg.ol z2
     have z2ld : ¬ (((cfL c).getD i 0) < (loL.getD i 0)) := of_decide_eq_false z2l
     have z2r : (decide ((hiL.getD i 0) < ((cfL c).getD i 0))) = false := Reg.orr z2
     have z2rd : ¬ ((hiL.getD i 0) < ((cfL c).getD i 0)) := of_decide_eq_false z2r
     refine wSk ?_
     refine bN (tN (wKK hK9 ?_))
     refine wReg ?_
     iterate 2 refine p_good7 rfl ?_
     refine wI 14 rfl (IntWalk.i64_in _ (by omega)) ?_
     refine p_good7 rfl ?_
     refine wN ?_
     refine tN ?_
     intro aa ww nn dd hs H
     refine ⟨⟨i + 1, (by omega), (Lib.hid (good_step hr.out z2l z2r)), nn, dd, (sat_sub ⟨rfl, rfl, rfl, rfl, rfl, rfl, trivial⟩ hs), H⟩, ?_⟩
     have m6 := hs 6 _ rfl
     simp only [mu1_6, m6, intOf]
     omega
 · skip
   have z1d : ¬ ((i : Int) < 17) := of_decide_eq_false z1
   refine wEx ?_
   refine tX (tX (bX (tN (wKK hK5 ?_))))
   refine wSeqK fun KK12 hK12 => ?_
   refine wReg ?_
   refine p_good7 rfl ?_
   refine wN ?_
   refine tN (wKK hK12 ?_)
   refine wRet ?_
   exact wR1 rfl rfl (fun ww H => ⟨congrArg (fun z => Ending.returned (.bool z)) (good_yes (fun k hk => hr.out k (by omega))), H.out.off⟩)
def tab_newRC : Wk.Tab := []
theorem p_newRC {ops : Array Oper} {rest : List Oper} {o : Oper} {w0 : World} {Q : Exit → Act → World → Prop} {S : List Nat} {R : List Res} {K K' : Wk.Env} {N : Nat} (h : Wk.stp tab_newRC N ops K o = some K') (n : Wk.Wk N S w0 K' R (wpList Tryz.prog ops Q rest)) : Wk.Wk N S w0 K R (wpList Tryz.prog ops Q (o :: rest)) := Wk.wP (T := tab_newRC) (by kernel_rfl) h n
set_option maxHeartbeats 16000000 in
set_option maxRecDepth 20000 in
theorem newRC (s : Nat) (w : World) : Calls Tryz.prog 7 #[.int .u64 s] w fun e w' => ∃ b, e = .returned (.pointer (some ⟨b, 0, none⟩)) ∧ Blk w' b #[.int .u64 (seedV s)] 63 ∧ w.heap.size ≤ b ∧ Off [] w w' := by
 have H := Lib.hid (Hp.start [] w)
 refine wStart (args := [.int .u64 s]) Tryz.func7 rfl rfl rfl H ?_
 clear H
 show Wk 10 _ _ [(0, .int .u64 s)] _ _
 refine wSeqK fun KK1 hK1 => ?_
 refine wReg ?_
 refine p_newRC rfl ?_
 refine wN ?_
 refine tN (wKK hK1 ?_)
 refine wSeqK fun KK2 hK2 => ?_
 refine wSeqK fun KK3 hK3 => ?_
 refine wReg ?_
 iterate 2 refine p_newRC rfl ?_
 refine wN ?_
 refine tN (wKK hK3 ?_)
 refine wCond (E := (s : Int) == 0) rfl (fun z1 => ?_) (fun z1 => ?_)
 · skip
   have z1o : ((s : Int) != 0) = false := eqq_t z1
   refine wSeqK fun KK4 hK4 => ?_
   refine wReg ?_
   refine wE (.agg #[.int .u64 88172645463325252]) rfl rfl rfl (fun aa ww hs _ => by simp only [execOp]; go_simp <;> first | rfl | omega) ?_
   refine wBx rfl rfl rfl fun b6 => ?_
   refine p_newRC rfl ?_
   refine wN ?_
   refine tN (wKK hK4 ?_)
   refine wRet ?_
   refine tR ?_
   exact wR1 rfl rfl (fun ww H => ⟨b6, by rfl, (by simp only [seedV, z1, z1o, cond_true, cond_false]; exact H.out.blk 0 rfl), (H.out.newf _ (List.mem_of_getElem? (i := 0) rfl) rfl _ (by simp [rB])).resolve_left (by simp), H.out.off⟩)
 · skip
   have z1o : ((s : Int) != 0) = true := eqq_f z1
   refine wSk ?_
   refine tN (wKK hK2 ?_)
   refine wSeqK fun KK5 hK5 => ?_
   refine wReg ?_
   refine p_newRC rfl ?_
   refine wE (.agg #[.int .u64 s]) rfl rfl rfl (fun aa ww hs _ => by have e7 := hs 7 _ rfl; have g7 := gt_of e7; simp only [execOp]; go_simp <;> first | rfl | omega) ?_
   refine wBx rfl rfl rfl fun b9 => ?_
   refine p_newRC rfl ?_
   refine wN ?_
   refine tN (wKK hK5 ?_)
   refine wRet ?_
   exact wR1 rfl rfl (fun ww H => ⟨b9, by rfl, (by simp only [seedV, z1, z1o, cond_true, cond_false]; exact H.out.blk 0 rfl), (H.out.newf _ (List.mem_of_getElem? (i := 0) rfl) rfl _ (by simp [rB])).resolve_left (by simp), H.out.off⟩)
def tab_nextRC : Wk.Tab := [(63, 0, 0)]
theorem p_nextRC {ops : Array Oper} {rest : List Oper} {o : Oper} {w0 : World} {Q : Exit → Act → World → Prop} {S : List Nat} {R : List Res} {K K' : Wk.Env} {N : Nat} (h : Wk.stp tab_nextRC N ops K o = some K') (n : Wk.Wk N S w0 K' R (wpList Tryz.prog ops Q rest)) : Wk.Wk N S w0 K R (wpList Tryz.prog ops Q (o :: rest)) := Wk.wP (T := tab_nextRC) (by kernel_rfl) h n
set_option maxRecDepth 20000 in
theorem nextRC_r1 (m : Nat) (s : Nat) (f1 : IntKind.u64.wrap ((s : Int) * 8192) = (m1 s : Int)) (f2 : bits BinOp.xor IntKind.u64 s (m1 s) = (m2 s : Int)) (f3 : ((m2 s : Nat) : Int) / 128 = (m3 s : Int)) (f3b : IntKind.u64.wrap (((m2 s : Nat) : Int).tdiv 128) = (m3 s : Int)) (f4 : bits BinOp.xor IntKind.u64 (m2 s) (m3 s) = (m4 s : Int)) (f5 : IntKind.u64.wrap ((m4 s : Int) * 131072) = (m5 s : Int)) (f3c : IntKind.u64.wrap (m3 s : Int) = (m3 s : Int)) (f6 : bits BinOp.xor IntKind.u64 (m4 s) (m5 s) = (nextN s : Int)) {wa wb : World} (H : Hid (Hp [m] wa wb [rB m 63 [.int .u64 s]])) (ac0 : Act) (hz : ac0.tmps.size = 30) (so0 : ac0.eval (.tmp 0) = .pointer (some ⟨m, 0, none⟩)) {QR : Exit → Act → World → Prop} (hfin : ∀ (ac1 : Act) (wz : World), ac1.tmps.size = 30 → ac1.defers = ac0.defers → (∀ t, ([3, 5, 6, 7, 8, 9, 10, 11, 12, 13, 14] : List Nat).contains t = false → ac1.eval (.tmp t) = ac0.eval (.tmp t)) → ac1.eval (.tmp 3) = .int .u64 (m2 s) →  Hid (Hp [m] wa wz [rB m 63 [.int .u64 s]]) → QR .normal ac1 wz) : (regAt Tryz.f9 1).wp Tryz.prog QR ac0 wb := by
  refine wp_region_st mixedP ⟨[0, 1, 2, 3, 0, 1, 2, 3, 4, 5, 6], by kernel_rfl⟩ [[], [0], [0, 1], [0, 1, 2], [], [4], [4, 5], [4, 5, 6], [4, 5, 6, 7], [0, 1, 2, 3, 4, 5, 6, 7, 8], [0, 1, 2, 3, 4, 5, 6, 7, 8, 9]] (by kernel_rfl) (by kernel_rfl) 30 hz (by kernel_rfl) (fun (xx : Unit) jx => nth [.pointer (some ⟨m, 0, none⟩), .pointer (some ⟨m, 0, none⟩), .pointer (some ⟨m, 0, none⟩), .int .u64 s, .pointer (some ⟨m, 0, none⟩), .pointer (some ⟨m, 0, none⟩), .pointer (some ⟨m, 0, none⟩), .int .u64 s, .int .u64 (m1 s), .int .u64 (m2 s), .int .u64 (m2 s)] jx) (fun (LL : Nat → Bool) (xx : Unit) ww => Hp [m] wa ww [rB m 63 [.int .u64 s]]) () H.out.drew ?_ (steps_al ?_) ?_ ?_
  · exact fun _ _ _ _ _ h => h
  · refine al_cons ?_ (al_cons ?_ (al_cons ?_ (al_cons ?_ (al_cons ?_ (al_cons ?_ (al_cons ?_ (al_cons ?_ (al_cons ?_ (al_cons ?_ (al_cons ?_ (al_nil)))))))))))
    · intro LL xx ac wc sg hst hwant QQ hgo
      exact op_val hwant hgo hst _ (exec_move rfl ((sg.free 0 (by kernel_rfl)).trans so0)) rfl
    · intro LL xx ac wc sg hst hwant QQ hgo
      have se5 : ac.eval (.tmp 5) = _ := (sg.slot 0 (sg.anc 0 rfl))
      have sg5 := gt_of se5
      (try simp only [nth] at se5 sg5)
      exact op_val hwant hgo hst _ (by simp only [execOp, nth]; go_simp <;> omega) rfl
    · intro LL xx ac wc sg hst hwant QQ hgo
      have se6 : ac.eval (.tmp 6) = _ := (sg.slot 1 (sg.anc 1 rfl))
      have sg6 := gt_of se6
      (try simp only [nth] at se6 sg6)
      exact op_val hwant hgo hst _ (by simp only [execOp, nth]; go_simp <;> omega) rfl
    · intro LL xx ac wc sg hst hwant QQ hgo
      have H := Lib.hid hst
      refine hpA_load1 tyuint64 H rfl (sg.slot 2 (sg.anc 2 rfl)) hwant (by (repeat (first | exact List.Mem.head _ | apply List.Mem.tail))) (by rfl) ?_
      exact hgo _ () _ (fun _ _ => rfl) rfl hst
    · intro LL xx ac wc sg hst hwant QQ hgo
      exact op_val hwant hgo hst _ (exec_move rfl ((sg.free 0 (by kernel_rfl)).trans so0)) rfl
    · intro LL xx ac wc sg hst hwant QQ hgo
      have se9 : ac.eval (.tmp 9) = _ := (sg.slot 4 (sg.anc 4 rfl))
      have sg9 := gt_of se9
      (try simp only [nth] at se9 sg9)
      exact op_val hwant hgo hst _ (by simp only [execOp, nth]; go_simp <;> omega) rfl
    · intro LL xx ac wc sg hst hwant QQ hgo
      have se10 : ac.eval (.tmp 10) = _ := (sg.slot 5 (sg.anc 5 rfl))
      have sg10 := gt_of se10
      (try simp only [nth] at se10 sg10)
      exact op_val hwant hgo hst _ (by simp only [execOp, nth]; go_simp <;> omega) rfl
    · intro LL xx ac wc sg hst hwant QQ hgo
      have H := Lib.hid hst
      refine hpA_load1 tyuint64 H rfl (sg.slot 6 (sg.anc 6 rfl)) hwant (by (repeat (first | exact List.Mem.head _ | apply List.Mem.tail))) (by rfl) ?_
      exact hgo _ () _ (fun _ _ => rfl) rfl hst
    · intro LL xx ac wc sg hst hwant QQ hgo
      have se12 : ac.eval (.tmp 12) = _ := (sg.slot 7 (sg.anc 7 rfl))
      have sg12 := gt_of se12
      (try simp only [nth] at se12 sg12)
      exact op_val hwant hgo hst _ (by simp only [execOp, nth]; go_simp <;> omega) rfl
    · intro LL xx ac wc sg hst hwant QQ hgo
      have se8 : ac.eval (.tmp 8) = _ := (sg.slot 3 (sg.anc 3 rfl))
      have sg8 := gt_of se8
      have se13 : ac.eval (.tmp 13) = _ := (sg.slot 8 (sg.anc 8 rfl))
      have sg13 := gt_of se13
      (try simp only [nth] at se8 sg8 se13 sg13)
      exact op_val hwant hgo hst _ (by simp only [execOp, nth]; go_simp <;> omega) rfl
    · intro LL xx ac wc sg hst hwant QQ hgo
      exact op_val hwant hgo hst _ (exec_assign rfl (sg.slot 9 (sg.anc 9 rfl))) rfl
  · exact skips [] (by kernel_rfl) (fun _ h => by cases h)
  · intro xx ac1 wz hfr hsl hst
    exact hfin ac1 wz (hfr.size.trans hz) hfr.defers (fr_keep hfr [3, 5, 6, 7, 8, 9, 10, 11, 12, 13, 14] (by kernel_rfl)) (hsl 10 (by decide)) (Lib.hid hst)
set_option maxHeartbeats 16000000 in
set_option maxRecDepth 20000 in
theorem nextRC (m : Nat) (s : Nat) (w : World) (hm : Blk w m #[.int .u64 s] 63) (hsl : s < 18446744073709551616) : Calls Tryz.prog 9 #[.pointer (some ⟨m, 0, none⟩)] w fun e w' => e = .returned (.int .u64 (nextN s)) ∧ Blk w' m #[.int .u64 (nextN s)] 63 ∧ Off [m] w w' := by
 have H := Lib.hid (Hp.start [] w)
 have H := hp_one hm
 clear hm
 have f1 : IntKind.u64.wrap ((s : Int) * 8192) = (m1 s : Int) := by rw [show ((s : Int) * 8192) = ((s * 8192 : Nat) : Int) by omega, wrap_nat]; rfl
 have f2 : bits BinOp.xor IntKind.u64 s (m1 s) = (m2 s : Int) := bits_xor_u64_nat s (m1 s) hsl (m1_lt s)
 have f3 : ((m2 s : Nat) : Int) / 128 = (m3 s : Int) := by unfold m3; omega
 have f3b : IntKind.u64.wrap (((m2 s : Nat) : Int).tdiv 128) = (m3 s : Int) := by rw [Int.tdiv_eq_ediv_of_nonneg (by omega), f3]; exact IntWalk.u64_in _ (by have := m3_lt hsl; omega)
 have f4 : bits BinOp.xor IntKind.u64 (m2 s) (m3 s) = (m4 s : Int) := bits_xor_u64_nat (m2 s) (m3 s) (m2_lt hsl) (m3_lt hsl)
 have f5 : IntKind.u64.wrap ((m4 s : Int) * 131072) = (m5 s : Int) := by rw [show ((m4 s : Int) * 131072) = ((m4 s * 131072 : Nat) : Int) by omega, wrap_nat]; rfl
 have f3c : IntKind.u64.wrap (m3 s : Int) = (m3 s : Int) := IntWalk.u64_in _ (by have := m3_lt hsl; omega)
 have f6 : bits BinOp.xor IntKind.u64 (m4 s) (m5 s) = (nextN s : Int) := bits_xor_u64_nat (m4 s) (m5 s) (m4_lt hsl) (m5_lt s)
 refine wStart (args := [.pointer (some ⟨m, 0, none⟩)]) Tryz.func9 rfl rfl rfl H ?_
 clear H
 show Wk 30 _ _ [(0, .pointer (some ⟨m, 0, none⟩))] _ _
 refine wSeqK fun KK1 hK1 => ?_
 refine wReg ?_
 refine p_nextRC rfl ?_
 refine wN ?_
 refine tN (wKK hK1 ?_)
 refine wSeqK fun KK2 hK2 => ?_
 intro aa ww nn dd hs H
 refine nextRC_r1 m s f1 f2 f3 f3b f4 f5 f3c f6 H aa nn (hs 0 _ rfl) ?_
 intro ab wv nn2 dd2 kp o3 H2
 refine wIn nn2 (dd2.trans dd) (Sat.cons (Sat.cons (Sat.cons (sat_nil ab) ((kp 2 rfl).trans (hs 2 _ rfl))) ((kp 0 rfl).trans (hs 0 _ rfl))) o3) H2 ?_
 clear hs H kp H2 dd dd2 nn nn2 o3
 refine tN (wKK hK2 ?_)
 refine wSeqK fun KK3 hK3 => ?_
 refine wReg ?_
 iterate 2 refine p_nextRC rfl ?_
 refine wE (.int .u64 (m3 s)) rfl rfl rfl (fun aa ww hs _ => by have e16 := hs 16 _ rfl; have g16 := gt_of e16; simp only [execOp]; go_simp <;> first | rfl | omega) ?_
 refine wE (.int .u64 (m4 s)) rfl rfl rfl (fun aa ww hs _ => by have e15 := hs 15 _ rfl; have g15 := gt_of e15; have e17 := hs 17 _ rfl; have g17 := gt_of e17; simp only [execOp]; go_simp <;> first | rfl | omega) ?_
 refine p_nextRC rfl ?_
 refine wN ?_
 refine tN (wKK hK3 ?_)
 refine wSeqK fun KK4 hK4 => ?_
 refine wReg ?_
 iterate 4 refine p_nextRC rfl ?_
 refine wI 22 rfl f5 ?_
 refine wE (.int .u64 (nextN s)) rfl rfl rfl (fun aa ww hs _ => by have e20 := hs 20 _ rfl; have g20 := gt_of e20; have e22 := hs 22 _ rfl; have g22 := gt_of e22; simp only [execOp]; go_simp <;> first | rfl | omega) ?_
 iterate 2 refine p_nextRC rfl ?_
 refine wSt rfl tyuint64 0 rfl rfl rfl rfl ?_
 refine wN ?_
 refine tN (wKK hK4 ?_)
 refine wSeqK fun KK5 hK5 => ?_
 refine wReg ?_
 iterate 3 refine p_nextRC rfl ?_
 refine wLd rfl tyuint64 0 rfl rfl ?_
 refine p_nextRC rfl ?_
 refine wN ?_
 refine tN (wKK hK5 ?_)
 refine wRet ?_
 exact wR1 rfl rfl (fun ww H => ⟨rfl, H.out.blk 0 rfl, H.out.off⟩)
def tab_belowROk : Wk.Tab := []
theorem p_belowROk {ops : Array Oper} {rest : List Oper} {o : Oper} {w0 : World} {Q : Exit → Act → World → Prop} {S : List Nat} {R : List Res} {K K' : Wk.Env} {N : Nat} (h : Wk.stp tab_belowROk N ops K o = some K') (n : Wk.Wk N S w0 K' R (wpList Tryz.prog ops Q rest)) : Wk.Wk N S w0 K R (wpList Tryz.prog ops Q (o :: rest)) := Wk.wP (T := tab_belowROk) (by kernel_rfl) h n
set_option maxHeartbeats 16000000 in
set_option maxRecDepth 20000 in
theorem belowROk (m : Nat) (s : Nat) (n : Int) (w : World) (hm : Blk w m #[.int .u64 s] 63) (hsl : s < 18446744073709551616) (hn : 1 ≤ n ∧ n ≤ 2147483648) : Calls Tryz.prog 11 #[.pointer (some ⟨m, 0, none⟩), .int .i64 n] w fun e w' => e = .returned (.int .i64 (belV s n)) ∧ Blk w' m #[.int .u64 (nextN s)] 63 ∧ Off [m] w w' := by
 have H := Lib.hid (Hp.start [] w)
 have H := hp_one hm
 clear hm
 have hn1 : 1 ≤ n ∧ n ≤ 2147483648 := hn
 have hw : IntKind.u64.wrap n = n := IntWalk.u64_in _ (by omega)
 have hbt : ((nextN s : Nat) : Int).tmod n = belV s n := by unfold belV belN; rw [Int.tmod_eq_emod_of_nonneg (by omega)]; rw [show n = ((n.toNat : Nat) : Int) by omega]; simp; done
 have hbw : IntKind.i64.wrap (belV s n) = belV s n := IntWalk.i64_in _ (by have := belV_lt s (n := n) (by omega); omega)
 have ht1 : decide (n < 1) = false := decide_eq_false (by omega)
 have ht2 : decide (2147483648 < n) = false := decide_eq_false (by omega)
 refine wStart (args := [.pointer (some ⟨m, 0, none⟩), .int .i64 n]) Tryz.func11 rfl rfl rfl H ?_
 clear H
 show Wk 17 _ _ [(0, .pointer (some ⟨m, 0, none⟩)), (1, .int .i64 n)] _ _
 refine wSeqK fun KK1 hK1 => ?_
 refine wReg ?_
 refine p_belowROk rfl ?_
 refine wN ?_
 refine tN (wKK hK1 ?_)
 refine wSeqK fun KK2 hK2 => ?_
 refine wSeqK fun KK3 hK3 => ?_
 refine wReg ?_
 iterate 2 refine p_belowROk rfl ?_
 refine wB 6 rfl ht1 ?_
 iterate 3 refine p_belowROk rfl ?_
 refine wB 9 rfl ht2 ?_
 refine p_belowROk rfl ?_
 refine wN ?_
 refine tN (wKK hK3 ?_)
 refine wCf rfl ?_
 refine wSk ?_
 refine tN (wKK hK2 ?_)
 refine wSeqK fun KK4 hK4 => ?_
 refine wReg ?_
 refine p_belowROk rfl ?_
 refine wC (l := [.pointer (some ⟨m, 0, none⟩)]) Tryz.func9 rfl (by kernel_rfl) (fun wc H => nextRC m s wc (H.out.blk 0 rfl) hsl) rfl rfl rfl rfl ?_
 intro wc H
 rintro er wd ⟨rfl, hb, ho⟩
 have H2 := hp_turn H (i := 0) (cs' := [.int .u64 (nextN s)]) rfl hb ho
 refine ⟨_, rfl, wkAt H2 ?_⟩
 clear H H2
 refine p_belowROk rfl ?_
 refine wE (.int .u64 n) rfl rfl rfl (fun aa ww hs _ => by have e13 := hs 13 _ rfl; have g13 := gt_of e13; simp only [execOp]; go_simp <;> first | rfl | omega) ?_
 refine wE (.int .u64 (((nextN s) : Int).tmod n)) rfl rfl rfl (fun aa ww hs _ => exec_rem rfl (hs _ _ rfl) (hs _ _ rfl) (by omega)) ?_
 refine wI 15 rfl hbt ?_
 refine wE (.int .i64 (belV s n)) rfl rfl rfl (fun aa ww hs _ => by have e15 := hs 15 _ rfl; have g15 := gt_of e15; simp only [execOp]; go_simp <;> first | rfl | omega) ?_
 refine p_belowROk rfl ?_
 refine wN ?_
 refine tN (wKK hK4 ?_)
 refine wRet ?_
 exact wR1 rfl rfl (fun ww H => ⟨rfl, H.out.blk 0 rfl, H.out.off⟩)
theorem belowRN (m s n : Nat) (w : World) (hm : Blk w m #[.int .u64 s] 63) (hsl : s < 18446744073709551616) (hn : 1 ≤ n ∧ n ≤ 2147483648) : Calls Tryz.prog 11 #[.pointer (some ⟨m, 0, none⟩), .int .i64 n] w fun e w' => e = .returned (.int .i64 (belN s n)) ∧ Blk w' m #[.int .u64 (nextN s)] 63 ∧ Off [m] w w' := by
  have h := belowROk m s n w hm hsl (by omega)
  rw [show belV s (n : Int) = ((belN s n : Nat) : Int) from by unfold belV; simp] at h
  exact h
def tab_belowRBad : Wk.Tab := []
theorem p_belowRBad {ops : Array Oper} {rest : List Oper} {o : Oper} {w0 : World} {Q : Exit → Act → World → Prop} {S : List Nat} {R : List Res} {K K' : Wk.Env} {N : Nat} (h : Wk.stp tab_belowRBad N ops K o = some K') (n : Wk.Wk N S w0 K' R (wpList Tryz.prog ops Q rest)) : Wk.Wk N S w0 K R (wpList Tryz.prog ops Q (o :: rest)) := Wk.wP (T := tab_belowRBad) (by kernel_rfl) h n
set_option maxHeartbeats 16000000 in
set_option maxRecDepth 20000 in
theorem belowRBad (m : Nat) (s : Nat) (n : Int) (w : World) (hm : Blk w m #[.int .u64 s] 63) (hsl : s < 18446744073709551616) (hbad : (decide (n < 1) || decide (2147483648 < n)) = true) : Calls Tryz.prog 11 #[.pointer (some ⟨m, 0, none⟩), .int .i64 n] w fun e w' => e = .returned (.int .i64 0) ∧ Blk w' m #[.int .u64 s] 63 ∧ Off [m] w w' := by
 have H := Lib.hid (Hp.start [] w)
 have H := hp_one hm
 clear hm
 refine wStart (args := [.pointer (some ⟨m, 0, none⟩), .int .i64 n]) Tryz.func11 rfl rfl rfl H ?_
 clear H
 show Wk 17 _ _ [(0, .pointer (some ⟨m, 0, none⟩)), (1, .int .i64 n)] _ _
 refine wSeqK fun KK1 hK1 => ?_
 refine wReg ?_
 refine p_belowRBad rfl ?_
 refine wN ?_
 refine tN (wKK hK1 ?_)
 refine wSeqK fun KK2 hK2 => ?_
 refine wSeqK fun KK3 hK3 => ?_
 refine wReg ?_
 iterate 3 refine p_belowRBad rfl ?_
 refine wCut 3 [(10, .bool ((decide (n < 1)) || (decide (2147483648 < n)))), (0, .pointer (some ⟨m, 0, none⟩)), (1, .int .i64 n), (4, .int .i64 0)] ?_ ?_
 · intro KK hKK
   rcases Bool.eq_false_or_eq_true (decide (n < 1)) with u1 | u1
   · skip
     refine wB (c := true) 7 rfl u1 ?_
     iterate 2 refine p_belowRBad rfl ?_
     refine p_belowRBad rfl ?_
     refine wB (c := (decide (n < 1)) || (decide (2147483648 < n))) 10 rfl (by rw [u1]; rfl) ?_
     refine wN (tN ?_)
     exact fun aa ww nn dd hs H => hKK aa ww nn dd (sat_sub ⟨rfl, rfl, rfl, rfl, trivial⟩ hs) H
   · skip
     refine wB (c := false) 7 rfl u1 ?_
     iterate 2 refine p_belowRBad rfl ?_
     refine p_belowRBad rfl ?_
     refine wB (c := (decide (n < 1)) || (decide (2147483648 < n))) 10 rfl (by rw [u1]; rfl) ?_
     refine wN (tN ?_)
     exact fun aa ww nn dd hs H => hKK aa ww nn dd (sat_sub ⟨rfl, rfl, rfl, rfl, trivial⟩ hs) H
 refine wB 10 rfl hbad ?_
 refine wN ?_
 refine tN (wKK hK3 ?_)
 refine wCt rfl ?_
 refine wSeqK fun KK4 hK4 => ?_
 refine wReg ?_
 refine p_belowRBad rfl ?_
 refine wN ?_
 refine tN (wKK hK4 ?_)
 refine wRet ?_
 refine tR ?_
 exact wR1 rfl rfl (fun ww H => ⟨rfl, H.out.blk 0 rfl, H.out.off⟩)
theorem belowRR (m s : Nat) (n : Int) (w : World) (hm : Blk w m #[.int .u64 s] 63) (hsl : s < 18446744073709551616) : Calls Tryz.prog 11 #[.pointer (some ⟨m, 0, none⟩), .int .i64 n] w fun e w' => e = .returned (.int .i64 (belR s n).1) ∧ Blk w' m #[.int .u64 ((belR s n).2)] 63 ∧ Off [m] w w' := by
  unfold belR
  cases h : (decide (n < 1) || decide (2147483648 < n)) with
  | true => exact belowRBad m s n w hm hsl h
  | false =>
    have h1 := Bool.or_eq_false_iff.1 h
    have h2 := of_decide_eq_false h1.1
    have h3 := of_decide_eq_false h1.2
    exact belowROk m s n w hm hsl (by omega)
theorem keyV_d {now : Int} {n : Nat} (h : n < 4294967296) : keyV now n / 4294967296 = now := by unfold keyV; omega
theorem keyV_m {now : Int} {n : Nat} (h : n < 4294967296) : keyV now n % 4294967296 = n := by unfold keyV; omega
def tab_reqRC : Wk.Tab := [(25, 0, 0), (25, 1, 1)]
theorem p_reqRC {ops : Array Oper} {rest : List Oper} {o : Oper} {w0 : World} {Q : Exit → Act → World → Prop} {S : List Nat} {R : List Res} {K K' : Wk.Env} {N : Nat} (h : Wk.stp tab_reqRC N ops K o = some K') (n : Wk.Wk N S w0 K' R (wpList Tryz.prog ops Q rest)) : Wk.Wk N S w0 K R (wpList Tryz.prog ops Q (o :: rest)) := Wk.wP (T := tab_reqRC) (by kernel_rfl) h n
set_option maxHeartbeats 16000000 in
set_option maxRecDepth 20000 in
theorem reqRC (m : Nat) (s : Nat) (c : Cfg) (now : Int) (w : World) (hm : Blk w m #[.int .u64 s] 63) (hsl : s < 18446744073709551616) : Calls Tryz.prog 14 #[.pointer (some ⟨m, 0, none⟩), .agg (cA c), .int .i64 now] w fun e w' => e = .returned (.agg #[.int .i64 ((drawReq s c now).1.kind), .int .i64 ((drawReq s c now).1.seq), .int .i64 ((drawReq s c now).1.who), .int .i64 ((drawReq s c now).1.role), .int .i64 ((drawReq s c now).1.token), .int .i64 ((drawReq s c now).1.key / 4294967296), .int .i64 ((drawReq s c now).1.key % 4294967296), .int .i64 ((drawReq s c now).1.call.kind), .int .i64 ((drawReq s c now).1.call.src), .int .i64 ((drawReq s c now).1.call.dst), .int .i64 ((drawReq s c now).1.call.car), .int .i64 ((drawReq s c now).1.id), .int .i64 ((drawReq s c now).1.car), .int .i64 ((drawReq s c now).1.mode), .int .i64 ((drawReq s c now).1.filter.kind), .int .i64 ((drawReq s c now).1.filter.n)]) ∧ Blk w' m #[.int .u64 ((drawReq s c now).2)] 63 ∧ Off [m] w w' := by
 have H := Lib.hid (Hp.start [] w)
 have H := hp_one hm
 clear hm
 refine wStart (args := [.pointer (some ⟨m, 0, none⟩), .agg (cA c), .int .i64 now]) Tryz.func14 rfl rfl rfl H ?_
 clear H
 show Wk 131 _ _ [(0, .pointer (some ⟨m, 0, none⟩)), (1, .agg (cA c)), (2, .int .i64 now)] _ _
 refine wSeqK fun KK1 hK1 => ?_
 refine wReg ?_
 refine wBx rfl rfl rfl fun b4 => ?_
 refine wAl rfl rfl tyhoistwayref14_Request fun b6 => ?_
 refine wN ?_
 refine tN (wKK hK1 ?_)
 refine wSeqK fun KK2 hK2 => ?_
 refine wReg ?_
 refine wE (.agg #[.int .i64 0, .int .i64 0, .int .i64 0, .int .i64 0, .int .i64 0, .int .i64 0, .int .i64 0, .int .i64 0, .int .i64 0, .int .i64 0, .int .i64 0, .int .i64 0, .int .i64 0, .int .i64 0, .int .i64 0, .int .i64 0]) rfl rfl rfl (fun aa ww hs _ => by simp only [execOp]; go_simp <;> first | rfl | omega) ?_
 refine wAl rfl rfl tyhoistwayref14_Request fun b7 => ?_
 refine wSr rfl tyhoistwayref14_Request 0 rfl rfl rfl rfl [.int .i64 0, .int .i64 0, .int .i64 0, .int .i64 0, .int .i64 0, .int .i64 0, .int .i64 0, .int .i64 0, .int .i64 0, .int .i64 0, .int .i64 0, .int .i64 0, .int .i64 0, .int .i64 0, .int .i64 0, .int .i64 0] (by first | rfl | (simp only [spl]; rfl)) ?_
 refine wN ?_
 refine tN (wKK hK2 ?_)
 refine wSeqK fun KK3 hK3 => ?_
 refine wSeqK fun KK4 hK4 => ?_
 refine wReg ?_
 refine wLr rfl tyapi_Config 2 rfl (cL c) rfl rfl ?_
 refine wQ (l := [.agg (cA c)]) Tryz.func16 rfl (by kernel_rfl) (.bool (checkV c == 0)) (fun wc H => good7 c wc) rfl rfl rfl rfl ?_
 iterate 2 refine p_reqRC rfl ?_
 refine wCut 3 [(16, .bool ((!(checkV c == 0)) || (decide (now < 0)))), (0, .pointer (some ⟨m, 0, none⟩)), (1, .agg (cA c)), (2, .int .i64 now), (4, .pointer (some ⟨b4, 0, none⟩)), (6, .pointer (some ⟨b6, 0, none⟩)), (7, .pointer (some ⟨b7, 0, none⟩))] ?_ ?_
 · intro KK hKK
   rcases Bool.eq_false_or_eq_true (!(checkV c == 0)) with u1 | u1
   · skip
     refine wB (c := true) 13 rfl u1 ?_
     iterate 2 refine p_reqRC rfl ?_
     refine p_reqRC rfl ?_
     refine wB (c := (!(checkV c == 0)) || (decide (now < 0))) 16 rfl (by rw [u1]; rfl) ?_
     refine wN (tN ?_)
     exact fun aa ww nn dd hs H => hKK aa ww nn dd (sat_sub ⟨rfl, rfl, rfl, rfl, rfl, rfl, rfl, trivial⟩ hs) H
   · skip
     refine wB (c := false) 13 rfl u1 ?_
     iterate 2 refine p_reqRC rfl ?_
     refine p_reqRC rfl ?_
     refine wB (c := (!(checkV c == 0)) || (decide (now < 0))) 16 rfl (by rw [u1]; rfl) ?_
     refine wN (tN ?_)
     exact fun aa ww nn dd hs H => hKK aa ww nn dd (sat_sub ⟨rfl, rfl, rfl, rfl, rfl, rfl, rfl, trivial⟩ hs) H
 refine p_reqRC rfl ?_
 refine wCut 3 [(20, .bool (((!(checkV c == 0)) || (decide (now < 0))) || (decide (1073741824 < now)))), (0, .pointer (some ⟨m, 0, none⟩)), (1, .agg (cA c)), (2, .int .i64 now), (4, .pointer (some ⟨b4, 0, none⟩)), (6, .pointer (some ⟨b6, 0, none⟩)), (7, .pointer (some ⟨b7, 0, none⟩))] ?_ ?_
 · intro KK hKK
   rcases Bool.eq_false_or_eq_true ((!(checkV c == 0)) || (decide (now < 0))) with u2 | u2
   · skip
     refine wB (c := true) 17 rfl u2 ?_
     iterate 2 refine p_reqRC rfl ?_
     refine p_reqRC rfl ?_
     refine wB (c := ((!(checkV c == 0)) || (decide (now < 0))) || (decide (1073741824 < now))) 20 rfl (by rw [u2]; rfl) ?_
     refine wN (tN ?_)
     exact fun aa ww nn dd hs H => hKK aa ww nn dd (sat_sub ⟨rfl, rfl, rfl, rfl, rfl, rfl, rfl, trivial⟩ hs) H
   · skip
     refine wB (c := false) 17 rfl u2 ?_
     iterate 2 refine p_reqRC rfl ?_
     refine p_reqRC rfl ?_
     refine wB (c := ((!(checkV c == 0)) || (decide (now < 0))) || (decide (1073741824 < now))) 20 rfl (by rw [u2]; rfl) ?_
     refine wN (tN ?_)
     exact fun aa ww nn dd hs H => hKK aa ww nn dd (sat_sub ⟨rfl, rfl, rfl, rfl, rfl, rfl, rfl, trivial⟩ hs) H
 refine wN ?_
 refine tN (wKK hK4 ?_)
 refine wCond (E := ((!(checkV c == 0)) || (decide (now < 0))) || (decide (1073741824 < now))) rfl (fun z3 => ?_) (fun z3 => ?_)
 · skip
   intro aa ww nn dd hs H
   have z32 : (((checkV c != 0) || decide (now < 0)) || decide (1073741824 < now)) = true := z3
   refine wIn nn dd hs H ?_
   refine wSeqK fun KK5 hK5 => ?_
   refine wReg ?_
   refine wLr rfl tyhoistwayref14_Request 0 rfl [.int .i64 0, .int .i64 0, .int .i64 0, .int .i64 0, .int .i64 0, .int .i64 0, .int .i64 0, .int .i64 0, .int .i64 0, .int .i64 0, .int .i64 0, .int .i64 0, .int .i64 0, .int .i64 0, .int .i64 0, .int .i64 0] rfl rfl ?_
   refine wSr rfl tyhoistwayref14_Request 1 rfl rfl rfl rfl [.int .i64 0, .int .i64 0, .int .i64 0, .int .i64 0, .int .i64 0, .int .i64 0, .int .i64 0, .int .i64 0, .int .i64 0, .int .i64 0, .int .i64 0, .int .i64 0, .int .i64 0, .int .i64 0, .int .i64 0, .int .i64 0] (by first | rfl | (simp only [spl]; rfl)) ?_
   refine wN ?_
   refine tN (wKK hK5 ?_)
   refine wRet ?_
   refine tR ?_
   exact wRc tyhoistwayref14_Request rfl rfl 1 rfl rfl (fun ww H => (by have hk8 : belN (nextN (nextN s)) 8 < 4294967296 := Nat.lt_trans (belN_lt _ (by decide)) (by decide); simp only [drawReq, drawOk, kindOf, seqOf, drawCall, drawFilter, drawMode, keyV_d hk8, keyV_m hk8, Int.zero_ediv, Int.zero_emod, z3, z32, cond_true, cond_false, Bool.not_true, Bool.not_false, Bool.true_and, Bool.and_true, Bool.false_and, Bool.and_false, Bool.true_or, Bool.or_true, Bool.false_or, Bool.or_false]; exact ⟨by first | rfl | trivial, H.out.blk 3 rfl, H.out.off⟩))
 · skip
   have z3l : ((!(checkV c == 0)) || (decide (now < 0))) = false := Reg.ol z3
   have z3ll : (!(checkV c == 0)) = false := Reg.ol z3l
   have z3lln : (checkV c == 0) = true := Reg.bt z3ll
   have z3llno : (checkV c != 0) = false := eqq_t z3lln
   have z3lr : (decide (now < 0)) = false := Reg.orr z3l
   have z3lrd : ¬ (now < 0) := of_decide_eq_false z3lr
   have z3r : (decide (1073741824 < now)) = false := Reg.orr z3
   have z3rd : ¬ (1073741824 < now) := of_decide_eq_false z3r
   intro aa ww nn dd hs H
   have z32 : (((checkV c != 0) || decide (now < 0)) || decide (1073741824 < now)) = false := z3
   have hck : (checkV c != 0) = false := (Bool.or_eq_false_iff.1 (Bool.or_eq_false_iff.1 z32).1).1
   have hr := cfg_rng hck
   have hb10 := belN_lt s (n := 10) (by decide)
   have hn0_ := belN_lt (nextN s) (n := 1000) (by decide)
   have hn1_ := belN_lt (nextN (nextN s)) (n := 8) (by decide)
   have hn2_ := belN_lt (nextN (nextN (nextN s))) (n := 4) (by decide)
   have hn3_ := belN_lt (nextN (nextN (nextN s))) (n := 20) (by decide)
   have hn4_ := belN_lt (nextN (nextN s)) (n := 20) (by decide)
   have hn5_ := belN_lt (nextN (nextN s)) (n := 4) (by decide)
   have hn6_ := belN_lt (nextN (nextN (nextN s))) (n := 8) (by decide)
   have hv0_ := belV_lt (nextN (nextN (nextN (nextN s)))) (n := c.floors - 1) (by omega)
   have hv1_ := belV_lt (nextN (nextN (nextN (nextN s)))) (n := c.floors) (by omega)
   have hv2_ := belV_lt (nextN (nextN (nextN (nextN s)))) (n := c.cars) (by omega)
   have hv3_ := belV_lt (nextN (nextN (nextN (nextN (nextN s))))) (n := c.floors) (by omega)
   have hv4_ := belV_lt (nextN (nextN s)) (n := c.cars) (by omega)
   refine wIn nn dd hs H ?_
   refine wSk ?_
   refine tN (wKK hK3 ?_)
   refine wSeqK fun KK6 hK6 => ?_
   refine wReg ?_
   refine wE (.agg #[.int .i64 4, .int .i64 4, .int .i64 4, .int .i64 4, .int .i64 5, .int .i64 6, .int .i64 7, .int .i64 8, .int .i64 9, .int .i64 10]) rfl rfl rfl (fun aa ww hs _ => by simp only [execOp]; go_simp <;> first | rfl | omega) ?_
   refine wAl rfl rfl ty_10_int fun b8 => ?_
   refine wSr rfl ty_10_int 0 rfl rfl rfl rfl [.int .i64 4, .int .i64 4, .int .i64 4, .int .i64 4, .int .i64 5, .int .i64 6, .int .i64 7, .int .i64 8, .int .i64 9, .int .i64 10] (by first | rfl | (simp only [spl]; rfl)) ?_
   refine wN ?_
   refine tN (wKK hK6 ?_)
   refine wSeqK fun KK7 hK7 => ?_
   refine wReg ?_
   refine p_reqRC rfl ?_
   refine wC (l := [.pointer (some ⟨m, 0, none⟩), .int .i64 10]) Tryz.func11 rfl (by kernel_rfl) (fun wc H => belowRN m s 10 wc (H.out.blk 4 rfl) hsl (by decide)) rfl rfl rfl rfl ?_
   intro wc H
   rintro er wd ⟨rfl, hb, ho⟩
   have H2 := hp_turn H (i := 4) (cs' := [.int .u64 (nextN s)]) rfl hb ho
   refine ⟨_, rfl, wkAt H2 ?_⟩
   clear H H2
   refine wE (.pointer (some ⟨b8, (belN s 10), none⟩)) rfl rfl rfl (fun aa ww hs _ => by have e8 := hs 8 _ rfl; have g8 := gt_of e8; have e24 := hs 24 _ rfl; have g24 := gt_of e24; simp only [execOp]; go_simp <;> first | rfl | omega) ?_
   refine wX 26 (.int .i64 (kindsL.getD (belN s 10) 0)) rfl (fun aa ww KK hs H _ hk => hpA_load1 tyint H rfl (hs _ _ rfl) (wnt_ok hs rfl) (by (repeat (first | exact List.Mem.head _ | apply List.Mem.tail))) (cell_of kindsL (i := (belN s 10)) (belN_lt _ (by decide))) hk) ?_
   refine wE (.pointer (some ⟨b7, 0, none⟩)) rfl rfl rfl (fun aa ww hs _ => by have e7 := hs 7 _ rfl; have g7 := gt_of e7; simp only [execOp]; go_simp <;> first | rfl | omega) ?_
   refine wSt rfl tyint 1 rfl rfl rfl rfl ?_
   refine wN ?_
   refine tN (wKK hK7 ?_)
   refine wSeqK fun KK8 hK8 => ?_
   refine wReg ?_
   refine p_reqRC rfl ?_
   refine wC (l := [.pointer (some ⟨m, 0, none⟩), .int .i64 1000]) Tryz.func11 rfl (by kernel_rfl) (fun wc H => belowRN m (nextN s) 1000 wc (H.out.blk 4 rfl) (nextN_lt hsl) (by decide)) rfl rfl rfl rfl ?_
   intro wc H
   rintro er wd ⟨rfl, hb, ho⟩
   have H2 := hp_turn H (i := 4) (cs' := [.int .u64 (nextN (nextN s))]) rfl hb ho
   refine ⟨_, rfl, wkAt H2 ?_⟩
   clear H H2
   refine wE (.pointer (some ⟨b7, 1, none⟩)) rfl rfl rfl (fun aa ww hs _ => by have e7 := hs 7 _ rfl; have g7 := gt_of e7; simp only [execOp]; go_simp <;> first | rfl | omega) ?_
   refine wSt rfl tyint 1 rfl rfl rfl rfl ?_
   refine wN ?_
   refine tN (wKK hK8 ?_)
   refine wSeqK fun KK9 hK9 => ?_
   refine wSeqK fun KK10 hK10 => ?_
   refine wReg ?_
   refine wE (.pointer (some ⟨b7, 0, none⟩)) rfl rfl rfl (fun aa ww hs _ => by have e7 := hs 7 _ rfl; have g7 := gt_of e7; simp only [execOp]; go_simp <;> first | rfl | omega) ?_
   refine wLd rfl tyint 1 rfl rfl ?_
   iterate 2 refine p_reqRC rfl ?_
   refine wCut 4 [(38, .bool (((kindsL.getD (belN s 10) 0) == 4) || ((kindsL.getD (belN s 10) 0) == 5))), (0, .pointer (some ⟨m, 0, none⟩)), (1, .agg (cA c)), (2, .int .i64 now), (4, .pointer (some ⟨b4, 0, none⟩)), (6, .pointer (some ⟨b6, 0, none⟩)), (7, .pointer (some ⟨b7, 0, none⟩)), (8, .pointer (some ⟨b8, 0, none⟩)), (20, .bool (((!(checkV c == 0)) || (decide (now < 0))) || (decide (1073741824 < now))))] ?_ ?_
   · intro KK hKK
     rcases Bool.eq_false_or_eq_true ((kindsL.getD (belN s 10) 0) == 4) with u4 | u4
     · skip
       refine wB (c := true) 34 rfl u4 ?_
       iterate 3 refine p_reqRC rfl ?_
       refine p_reqRC rfl ?_
       refine wB (c := ((kindsL.getD (belN s 10) 0) == 4) || ((kindsL.getD (belN s 10) 0) == 5)) 38 rfl (by rw [u4]; rfl) ?_
       refine wN (tN ?_)
       exact fun aa ww nn dd hs H => hKK aa ww nn dd (sat_sub ⟨rfl, rfl, rfl, rfl, rfl, rfl, rfl, rfl, rfl, trivial⟩ hs) H
     · skip
       refine wB (c := false) 34 rfl u4 ?_
       refine wE (.pointer (some ⟨b7, 0, none⟩)) rfl rfl rfl (fun aa ww hs _ => by have e7 := hs 7 _ rfl; have g7 := gt_of e7; simp only [execOp]; go_simp <;> first | rfl | omega) ?_
       refine wLd rfl tyint 1 rfl rfl ?_
       refine p_reqRC rfl ?_
       refine p_reqRC rfl ?_
       refine wB (c := ((kindsL.getD (belN s 10) 0) == 4) || ((kindsL.getD (belN s 10) 0) == 5)) 38 rfl (by rw [u4]; rfl) ?_
       refine wN (tN ?_)
       exact fun aa ww nn dd hs H => hKK aa ww nn dd (sat_sub ⟨rfl, rfl, rfl, rfl, rfl, rfl, rfl, rfl, rfl, trivial⟩ hs) H
   refine wN ?_
   refine tN (wKK hK10 ?_)
   refine wCond (E := ((kindsL.getD (belN s 10) 0) == 4) || ((kindsL.getD (belN s 10) 0) == 5)) rfl (fun z5 => ?_) (fun z5 => ?_)
   · skip
     refine wSeqK fun KK11 hK11 => ?_
     refine wReg ?_
     refine p_reqRC rfl ?_
     refine wE (.pointer (some ⟨b7, 5, none⟩)) rfl rfl rfl (fun aa ww hs _ => by have e7 := hs 7 _ rfl; have g7 := gt_of e7; simp only [execOp]; go_simp <;> first | rfl | omega) ?_
     refine wSt rfl tyint 1 rfl rfl rfl rfl ?_
     refine wN ?_
     refine tN (wKK hK11 ?_)
     refine wReg ?_
     refine p_reqRC rfl ?_
     refine wC (l := [.pointer (some ⟨m, 0, none⟩), .int .i64 8]) Tryz.func11 rfl (by kernel_rfl) (fun wc H => belowRN m (nextN (nextN s)) 8 wc (H.out.blk 4 rfl) (nextN_lt (nextN_lt hsl)) (by decide)) rfl rfl rfl rfl ?_
     intro wc H
     rintro er wd ⟨rfl, hb, ho⟩
     have H2 := hp_turn H (i := 4) (cs' := [.int .u64 (nextN (nextN (nextN s)))]) rfl hb ho
     refine ⟨_, rfl, wkAt H2 ?_⟩
     clear H H2
     refine wE (.pointer (some ⟨b7, 6, none⟩)) rfl rfl rfl (fun aa ww hs _ => by have e7 := hs 7 _ rfl; have g7 := gt_of e7; simp only [execOp]; go_simp <;> first | rfl | omega) ?_
     refine wSt rfl tyint 1 rfl rfl rfl rfl ?_
     refine wN ?_
     refine tN (wKK hK9 ?_)
     refine wSeqK fun KK12 hK12 => ?_
     refine wSeqK fun KK13 hK13 => ?_
     refine wReg ?_
     refine wE (.pointer (some ⟨b7, 0, none⟩)) rfl rfl rfl (fun aa ww hs _ => by have e7 := hs 7 _ rfl; have g7 := gt_of e7; simp only [execOp]; go_simp <;> first | rfl | omega) ?_
     refine wLd rfl tyint 1 rfl rfl ?_
     refine wN ?_
     refine tN (wKK hK13 ?_)
     refine wBlk ?_
     refine wSeqK fun KK14 hK14 => ?_
     refine wReg ?_
     iterate 2 refine p_reqRC rfl ?_
     refine wN ?_
     refine tN (wKK hK14 ?_)
     refine wCond (E := (kindsL.getD (belN s 10) 0) == 4) rfl (fun z6 => ?_) (fun z6 => ?_)
     · skip
       have z6o : ((kindsL.getD (belN s 10) 0) != 4) = false := eqq_t z6
       refine wSeqK fun KK15 hK15 => ?_
       refine wReg ?_
       refine p_reqRC rfl ?_
       refine wC (l := [.pointer (some ⟨m, 0, none⟩), .int .i64 4]) Tryz.func11 rfl (by kernel_rfl) (fun wc H => belowRN m (nextN (nextN (nextN s))) 4 wc (H.out.blk 4 rfl) (nextN_lt (nextN_lt (nextN_lt hsl))) (by decide)) rfl rfl rfl rfl ?_
       intro wc H
       rintro er wd ⟨rfl, hb, ho⟩
       have H2 := hp_turn H (i := 4) (cs' := [.int .u64 (nextN (nextN (nextN (nextN s))))]) rfl hb ho
       refine ⟨_, rfl, wkAt H2 ?_⟩
       clear H H2
       refine p_reqRC rfl ?_
       refine wI 50 rfl (IntWalk.i64_in _ (by omega)) ?_
       refine wE (.pointer (some ⟨b7, 7, none⟩)) rfl rfl rfl (fun aa ww hs _ => by have e7 := hs 7 _ rfl; have g7 := gt_of e7; simp only [execOp]; go_simp <;> first | rfl | omega) ?_
       refine wSt rfl tyint 1 rfl rfl rfl rfl ?_
       refine wN ?_
       refine tN (wKK hK15 ?_)
       refine wSeqK fun KK16 hK16 => ?_
       refine wReg ?_
       refine wE (.pointer (some ⟨b7, 7, none⟩)) rfl rfl rfl (fun aa ww hs _ => by have e7 := hs 7 _ rfl; have g7 := gt_of e7; simp only [execOp]; go_simp <;> first | rfl | omega) ?_
       refine wLd rfl tyint 1 rfl rfl ?_
       refine wN ?_
       refine tN (wKK hK16 ?_)
       refine wBlk ?_
       refine wSeqK fun KK17 hK17 => ?_
       refine wReg ?_
       iterate 2 refine p_reqRC rfl ?_
       refine wN ?_
       refine tN (wKK hK17 ?_)
       refine wCond (E := (1 + ((belN (nextN (nextN (nextN s))) 4) : Int)) == 1) rfl (fun z7 => ?_) (fun z7 => ?_)
       · skip
         have z7o : ((1 + ((belN (nextN (nextN (nextN s))) 4) : Int)) != 1) = false := eqq_t z7
         refine wReg ?_
         iterate 2 refine p_reqRC rfl ?_
         refine wLd rfl tyint 3 rfl rfl ?_
         refine p_reqRC rfl ?_
         refine wI 71 rfl (IntWalk.i64_in _ (by omega)) ?_
         refine wC (l := [.pointer (some ⟨m, 0, none⟩), .int .i64 (c.floors - 1)]) Tryz.func11 rfl (by kernel_rfl) (fun wc H => belowROk m (nextN (nextN (nextN (nextN s)))) (c.floors - 1) wc (H.out.blk 4 rfl) (nextN_lt (nextN_lt (nextN_lt (nextN_lt hsl)))) (by omega)) rfl rfl rfl rfl ?_
         intro wc H
         rintro er wd ⟨rfl, hb, ho⟩
         have H2 := hp_turn H (i := 4) (cs' := [.int .u64 (nextN (nextN (nextN (nextN (nextN s)))))]) rfl hb ho
         refine ⟨_, rfl, wkAt H2 ?_⟩
         clear H H2
         refine p_reqRC rfl ?_
         refine wI 73 rfl (IntWalk.i64_in _ (by omega)) ?_
         refine wE (.pointer (some ⟨b7, 8, none⟩)) rfl rfl rfl (fun aa ww hs _ => by have e7 := hs 7 _ rfl; have g7 := gt_of e7; simp only [execOp]; go_simp <;> first | rfl | omega) ?_
         refine wSt rfl tyint 1 rfl rfl rfl rfl ?_
         refine wN ?_
         refine bN (bN (tN (wKK hK12 ?_)))
         refine wSeqK fun KK18 hK18 => ?_
         refine wReg ?_
         refine wLr rfl tyhoistwayref14_Request 1 rfl [.int .i64 (kindsL.getD (belN s 10) 0), .int .i64 (belN (nextN s) 1000), .int .i64 0, .int .i64 0, .int .i64 0, .int .i64 now, .int .i64 (belN (nextN (nextN s)) 8), .int .i64 (1 + ((belN (nextN (nextN (nextN s))) 4) : Int)), .int .i64 (1 + (belV (nextN (nextN (nextN (nextN s)))) (c.floors - 1))), .int .i64 0, .int .i64 0, .int .i64 0, .int .i64 0, .int .i64 0, .int .i64 0, .int .i64 0] rfl rfl ?_
         refine wSr rfl tyhoistwayref14_Request 2 rfl rfl rfl rfl [.int .i64 (kindsL.getD (belN s 10) 0), .int .i64 (belN (nextN s) 1000), .int .i64 0, .int .i64 0, .int .i64 0, .int .i64 now, .int .i64 (belN (nextN (nextN s)) 8), .int .i64 (1 + ((belN (nextN (nextN (nextN s))) 4) : Int)), .int .i64 (1 + (belV (nextN (nextN (nextN (nextN s)))) (c.floors - 1))), .int .i64 0, .int .i64 0, .int .i64 0, .int .i64 0, .int .i64 0, .int .i64 0, .int .i64 0] (by first | rfl | (simp only [spl]; rfl)) ?_
         refine wN ?_
         refine tN (wKK hK18 ?_)
         refine wRet ?_
         exact wRc tyhoistwayref14_Request rfl rfl 2 rfl rfl (fun ww H => (by have hk8 : belN (nextN (nextN s)) 8 < 4294967296 := Nat.lt_trans (belN_lt _ (by decide)) (by decide); simp only [drawReq, drawOk, kindOf, seqOf, drawCall, drawFilter, drawMode, keyV_d hk8, keyV_m hk8, Int.zero_ediv, Int.zero_emod, z3, z3l, z3ll, z3lln, z3llno, z3lr, z3r, z32, z5, z6, z6o, z7, z7o, cond_true, cond_false, Bool.not_true, Bool.not_false, Bool.true_and, Bool.and_true, Bool.false_and, Bool.and_false, Bool.true_or, Bool.or_true, Bool.false_or, Bool.or_false]; exact ⟨by first | rfl | trivial, H.out.blk 4 rfl, H.out.off⟩))
       · skip
         have z7o : ((1 + ((belN (nextN (nextN (nextN s))) 4) : Int)) != 1) = true := eqq_f z7
         refine wSeqK fun KK19 hK19 => ?_
         refine wReg ?_
         iterate 2 refine p_reqRC rfl ?_
         refine wN ?_
         refine tN (wKK hK19 ?_)
         refine wCond (E := (1 + ((belN (nextN (nextN (nextN s))) 4) : Int)) == 2) rfl (fun z8 => ?_) (fun z8 => ?_)
         · skip
           have z8o : ((1 + ((belN (nextN (nextN (nextN s))) 4) : Int)) != 2) = false := eqq_t z8
           refine wReg ?_
           iterate 2 refine p_reqRC rfl ?_
           refine wLd rfl tyint 3 rfl rfl ?_
           refine p_reqRC rfl ?_
           refine wI 80 rfl (IntWalk.i64_in _ (by omega)) ?_
           refine wC (l := [.pointer (some ⟨m, 0, none⟩), .int .i64 (c.floors - 1)]) Tryz.func11 rfl (by kernel_rfl) (fun wc H => belowROk m (nextN (nextN (nextN (nextN s)))) (c.floors - 1) wc (H.out.blk 4 rfl) (nextN_lt (nextN_lt (nextN_lt (nextN_lt hsl)))) (by omega)) rfl rfl rfl rfl ?_
           intro wc H
           rintro er wd ⟨rfl, hb, ho⟩
           have H2 := hp_turn H (i := 4) (cs' := [.int .u64 (nextN (nextN (nextN (nextN (nextN s)))))]) rfl hb ho
           refine ⟨_, rfl, wkAt H2 ?_⟩
           clear H H2
           refine p_reqRC rfl ?_
           refine wI 82 rfl (IntWalk.i64_in _ (by omega)) ?_
           refine wE (.pointer (some ⟨b7, 8, none⟩)) rfl rfl rfl (fun aa ww hs _ => by have e7 := hs 7 _ rfl; have g7 := gt_of e7; simp only [execOp]; go_simp <;> first | rfl | omega) ?_
           refine wSt rfl tyint 1 rfl rfl rfl rfl ?_
           refine wN ?_
           refine bN (bN (tN (wKK hK12 ?_)))
           refine wSeqK fun KK20 hK20 => ?_
           refine wReg ?_
           refine wLr rfl tyhoistwayref14_Request 1 rfl [.int .i64 (kindsL.getD (belN s 10) 0), .int .i64 (belN (nextN s) 1000), .int .i64 0, .int .i64 0, .int .i64 0, .int .i64 now, .int .i64 (belN (nextN (nextN s)) 8), .int .i64 (1 + ((belN (nextN (nextN (nextN s))) 4) : Int)), .int .i64 (2 + (belV (nextN (nextN (nextN (nextN s)))) (c.floors - 1))), .int .i64 0, .int .i64 0, .int .i64 0, .int .i64 0, .int .i64 0, .int .i64 0, .int .i64 0] rfl rfl ?_
           refine wSr rfl tyhoistwayref14_Request 2 rfl rfl rfl rfl [.int .i64 (kindsL.getD (belN s 10) 0), .int .i64 (belN (nextN s) 1000), .int .i64 0, .int .i64 0, .int .i64 0, .int .i64 now, .int .i64 (belN (nextN (nextN s)) 8), .int .i64 (1 + ((belN (nextN (nextN (nextN s))) 4) : Int)), .int .i64 (2 + (belV (nextN (nextN (nextN (nextN s)))) (c.floors - 1))), .int .i64 0, .int .i64 0, .int .i64 0, .int .i64 0, .int .i64 0, .int .i64 0, .int .i64 0] (by first | rfl | (simp only [spl]; rfl)) ?_
           refine wN ?_
           refine tN (wKK hK20 ?_)
           refine wRet ?_
           exact wRc tyhoistwayref14_Request rfl rfl 2 rfl rfl (fun ww H => (by have hk8 : belN (nextN (nextN s)) 8 < 4294967296 := Nat.lt_trans (belN_lt _ (by decide)) (by decide); simp only [drawReq, drawOk, kindOf, seqOf, drawCall, drawFilter, drawMode, keyV_d hk8, keyV_m hk8, Int.zero_ediv, Int.zero_emod, z3, z3l, z3ll, z3lln, z3llno, z3lr, z3r, z32, z5, z6, z6o, z7, z7o, z8, z8o, cond_true, cond_false, Bool.not_true, Bool.not_false, Bool.true_and, Bool.and_true, Bool.false_and, Bool.and_false, Bool.true_or, Bool.or_true, Bool.false_or, Bool.or_false]; exact ⟨by first | rfl | trivial, H.out.blk 4 rfl, H.out.off⟩))
         · skip
           have z8o : ((1 + ((belN (nextN (nextN (nextN s))) 4) : Int)) != 2) = true := eqq_f z8
           refine wSeqK fun KK21 hK21 => ?_
           refine wReg ?_
           iterate 2 refine p_reqRC rfl ?_
           refine wN ?_
           refine tN (wKK hK21 ?_)
           refine wCond (E := (1 + ((belN (nextN (nextN (nextN s))) 4) : Int)) == 3) rfl (fun z9 => ?_) (fun z9 => ?_)
           · skip
             have z9o : ((1 + ((belN (nextN (nextN (nextN s))) 4) : Int)) != 3) = false := eqq_t z9
             refine wSeqK fun KK22 hK22 => ?_
             refine wReg ?_
             iterate 2 refine p_reqRC rfl ?_
             refine wLd rfl tyint 3 rfl rfl ?_
             refine wC (l := [.pointer (some ⟨m, 0, none⟩), .int .i64 c.cars]) Tryz.func11 rfl (by kernel_rfl) (fun wc H => belowROk m (nextN (nextN (nextN (nextN s)))) c.cars wc (H.out.blk 4 rfl) (nextN_lt (nextN_lt (nextN_lt (nextN_lt hsl)))) (by omega)) rfl rfl rfl rfl ?_
             intro wc H
             rintro er wd ⟨rfl, hb, ho⟩
             have H2 := hp_turn H (i := 4) (cs' := [.int .u64 (nextN (nextN (nextN (nextN (nextN s)))))]) rfl hb ho
             refine ⟨_, rfl, wkAt H2 ?_⟩
             clear H H2
             refine p_reqRC rfl ?_
             refine wI 90 rfl (IntWalk.i64_in _ (by omega)) ?_
             refine wE (.pointer (some ⟨b7, 10, none⟩)) rfl rfl rfl (fun aa ww hs _ => by have e7 := hs 7 _ rfl; have g7 := gt_of e7; simp only [execOp]; go_simp <;> first | rfl | omega) ?_
             refine wSt rfl tyint 1 rfl rfl rfl rfl ?_
             refine wN ?_
             refine tN (wKK hK22 ?_)
             refine wReg ?_
             iterate 2 refine p_reqRC rfl ?_
             refine wLd rfl tyint 3 rfl rfl ?_
             refine wC (l := [.pointer (some ⟨m, 0, none⟩), .int .i64 c.floors]) Tryz.func11 rfl (by kernel_rfl) (fun wc H => belowROk m (nextN (nextN (nextN (nextN (nextN s))))) c.floors wc (H.out.blk 4 rfl) (nextN_lt (nextN_lt (nextN_lt (nextN_lt (nextN_lt hsl))))) (by omega)) rfl rfl rfl rfl ?_
             intro wc H
             rintro er wd ⟨rfl, hb, ho⟩
             have H2 := hp_turn H (i := 4) (cs' := [.int .u64 (nextN (nextN (nextN (nextN (nextN (nextN s))))))]) rfl hb ho
             refine ⟨_, rfl, wkAt H2 ?_⟩
             clear H H2
             refine p_reqRC rfl ?_
             refine wI 96 rfl (IntWalk.i64_in _ (by omega)) ?_
             refine wE (.pointer (some ⟨b7, 9, none⟩)) rfl rfl rfl (fun aa ww hs _ => by have e7 := hs 7 _ rfl; have g7 := gt_of e7; simp only [execOp]; go_simp <;> first | rfl | omega) ?_
             refine wSt rfl tyint 1 rfl rfl rfl rfl ?_
             refine wN ?_
             refine bN (bN (tN (wKK hK12 ?_)))
             refine wSeqK fun KK23 hK23 => ?_
             refine wReg ?_
             refine wLr rfl tyhoistwayref14_Request 1 rfl [.int .i64 (kindsL.getD (belN s 10) 0), .int .i64 (belN (nextN s) 1000), .int .i64 0, .int .i64 0, .int .i64 0, .int .i64 now, .int .i64 (belN (nextN (nextN s)) 8), .int .i64 (1 + ((belN (nextN (nextN (nextN s))) 4) : Int)), .int .i64 0, .int .i64 (1 + (belV (nextN (nextN (nextN (nextN (nextN s))))) c.floors)), .int .i64 (1 + (belV (nextN (nextN (nextN (nextN s)))) c.cars)), .int .i64 0, .int .i64 0, .int .i64 0, .int .i64 0, .int .i64 0] rfl rfl ?_
             refine wSr rfl tyhoistwayref14_Request 2 rfl rfl rfl rfl [.int .i64 (kindsL.getD (belN s 10) 0), .int .i64 (belN (nextN s) 1000), .int .i64 0, .int .i64 0, .int .i64 0, .int .i64 now, .int .i64 (belN (nextN (nextN s)) 8), .int .i64 (1 + ((belN (nextN (nextN (nextN s))) 4) : Int)), .int .i64 0, .int .i64 (1 + (belV (nextN (nextN (nextN (nextN (nextN s))))) c.floors)), .int .i64 (1 + (belV (nextN (nextN (nextN (nextN s)))) c.cars)), .int .i64 0, .int .i64 0, .int .i64 0, .int .i64 0, .int .i64 0] (by first | rfl | (simp only [spl]; rfl)) ?_
             refine wN ?_
             refine tN (wKK hK23 ?_)
             refine wRet ?_
             exact wRc tyhoistwayref14_Request rfl rfl 2 rfl rfl (fun ww H => (by have hk8 : belN (nextN (nextN s)) 8 < 4294967296 := Nat.lt_trans (belN_lt _ (by decide)) (by decide); simp only [drawReq, drawOk, kindOf, seqOf, drawCall, drawFilter, drawMode, keyV_d hk8, keyV_m hk8, Int.zero_ediv, Int.zero_emod, z3, z3l, z3ll, z3lln, z3llno, z3lr, z3r, z32, z5, z6, z6o, z7, z7o, z8, z8o, z9, z9o, cond_true, cond_false, Bool.not_true, Bool.not_false, Bool.true_and, Bool.and_true, Bool.false_and, Bool.and_false, Bool.true_or, Bool.or_true, Bool.false_or, Bool.or_false]; exact ⟨by first | rfl | trivial, H.out.blk 4 rfl, H.out.off⟩))
           · skip
             have z9o : ((1 + ((belN (nextN (nextN (nextN s))) 4) : Int)) != 3) = true := eqq_f z9
             refine wSeqK fun KK24 hK24 => ?_
             refine wReg ?_
             iterate 2 refine p_reqRC rfl ?_
             refine wLd rfl tyint 3 rfl rfl ?_
             refine wC (l := [.pointer (some ⟨m, 0, none⟩), .int .i64 c.floors]) Tryz.func11 rfl (by kernel_rfl) (fun wc H => belowROk m (nextN (nextN (nextN (nextN s)))) c.floors wc (H.out.blk 4 rfl) (nextN_lt (nextN_lt (nextN_lt (nextN_lt hsl)))) (by omega)) rfl rfl rfl rfl ?_
             intro wc H
             rintro er wd ⟨rfl, hb, ho⟩
             have H2 := hp_turn H (i := 4) (cs' := [.int .u64 (nextN (nextN (nextN (nextN (nextN s)))))]) rfl hb ho
             refine ⟨_, rfl, wkAt H2 ?_⟩
             clear H H2
             refine p_reqRC rfl ?_
             refine wI 58 rfl (IntWalk.i64_in _ (by omega)) ?_
             refine wE (.pointer (some ⟨b7, 8, none⟩)) rfl rfl rfl (fun aa ww hs _ => by have e7 := hs 7 _ rfl; have g7 := gt_of e7; simp only [execOp]; go_simp <;> first | rfl | omega) ?_
             refine wSt rfl tyint 1 rfl rfl rfl rfl ?_
             refine wN ?_
             refine tN (wKK hK24 ?_)
             refine wReg ?_
             iterate 2 refine p_reqRC rfl ?_
             refine wLd rfl tyint 3 rfl rfl ?_
             refine wC (l := [.pointer (some ⟨m, 0, none⟩), .int .i64 c.floors]) Tryz.func11 rfl (by kernel_rfl) (fun wc H => belowROk m (nextN (nextN (nextN (nextN (nextN s))))) c.floors wc (H.out.blk 4 rfl) (nextN_lt (nextN_lt (nextN_lt (nextN_lt (nextN_lt hsl))))) (by omega)) rfl rfl rfl rfl ?_
             intro wc H
             rintro er wd ⟨rfl, hb, ho⟩
             have H2 := hp_turn H (i := 4) (cs' := [.int .u64 (nextN (nextN (nextN (nextN (nextN (nextN s))))))]) rfl hb ho
             refine ⟨_, rfl, wkAt H2 ?_⟩
             clear H H2
             refine p_reqRC rfl ?_
             refine wI 64 rfl (IntWalk.i64_in _ (by omega)) ?_
             refine wE (.pointer (some ⟨b7, 9, none⟩)) rfl rfl rfl (fun aa ww hs _ => by have e7 := hs 7 _ rfl; have g7 := gt_of e7; simp only [execOp]; go_simp <;> first | rfl | omega) ?_
             refine wSt rfl tyint 1 rfl rfl rfl rfl ?_
             refine wN ?_
             refine bN (bN (tN (wKK hK12 ?_)))
             refine wSeqK fun KK25 hK25 => ?_
             refine wReg ?_
             refine wLr rfl tyhoistwayref14_Request 1 rfl [.int .i64 (kindsL.getD (belN s 10) 0), .int .i64 (belN (nextN s) 1000), .int .i64 0, .int .i64 0, .int .i64 0, .int .i64 now, .int .i64 (belN (nextN (nextN s)) 8), .int .i64 (1 + ((belN (nextN (nextN (nextN s))) 4) : Int)), .int .i64 (1 + (belV (nextN (nextN (nextN (nextN s)))) c.floors)), .int .i64 (1 + (belV (nextN (nextN (nextN (nextN (nextN s))))) c.floors)), .int .i64 0, .int .i64 0, .int .i64 0, .int .i64 0, .int .i64 0, .int .i64 0] rfl rfl ?_
             refine wSr rfl tyhoistwayref14_Request 2 rfl rfl rfl rfl [.int .i64 (kindsL.getD (belN s 10) 0), .int .i64 (belN (nextN s) 1000), .int .i64 0, .int .i64 0, .int .i64 0, .int .i64 now, .int .i64 (belN (nextN (nextN s)) 8), .int .i64 (1 + ((belN (nextN (nextN (nextN s))) 4) : Int)), .int .i64 (1 + (belV (nextN (nextN (nextN (nextN s)))) c.floors)), .int .i64 (1 + (belV (nextN (nextN (nextN (nextN (nextN s))))) c.floors)), .int .i64 0, .int .i64 0, .int .i64 0, .int .i64 0, .int .i64 0, .int .i64 0] (by first | rfl | (simp only [spl]; rfl)) ?_
             refine wN ?_
             refine tN (wKK hK25 ?_)
             refine wRet ?_
             exact wRc tyhoistwayref14_Request rfl rfl 2 rfl rfl (fun ww H => (by have hk8 : belN (nextN (nextN s)) 8 < 4294967296 := Nat.lt_trans (belN_lt _ (by decide)) (by decide); simp only [drawReq, drawOk, kindOf, seqOf, drawCall, drawFilter, drawMode, keyV_d hk8, keyV_m hk8, Int.zero_ediv, Int.zero_emod, z3, z3l, z3ll, z3lln, z3llno, z3lr, z3r, z32, z5, z6, z6o, z7, z7o, z8, z8o, z9, z9o, cond_true, cond_false, Bool.not_true, Bool.not_false, Bool.true_and, Bool.and_true, Bool.false_and, Bool.and_false, Bool.true_or, Bool.or_true, Bool.false_or, Bool.or_false]; exact ⟨by first | rfl | trivial, H.out.blk 4 rfl, H.out.off⟩))
     · skip
       have z6o : ((kindsL.getD (belN s 10) 0) != 4) = true := eqq_f z6
       have z5c1 : ((kindsL.getD (belN s 10) 0) == 5) = true := ot1 z5 z6
       have z5c1o : ((kindsL.getD (belN s 10) 0) != 5) = false := eqq_t z5c1
       refine wSeqK fun KK26 hK26 => ?_
       refine wSeqK fun KK27 hK27 => ?_
       refine wReg ?_
       refine p_reqRC rfl ?_
       refine wB 99 rfl z5c1 ?_
       refine p_reqRC rfl ?_
       refine wN ?_
       refine tN (wKK hK27 ?_)
       refine wCt rfl ?_
       refine wSk ?_
       refine tN (wKK hK26 ?_)
       refine wCt rfl ?_
       refine wReg ?_
       refine p_reqRC rfl ?_
       refine wC (l := [.pointer (some ⟨m, 0, none⟩), .int .i64 20]) Tryz.func11 rfl (by kernel_rfl) (fun wc H => belowRN m (nextN (nextN (nextN s))) 20 wc (H.out.blk 4 rfl) (nextN_lt (nextN_lt (nextN_lt hsl))) (by decide)) rfl rfl rfl rfl ?_
       intro wc H
       rintro er wd ⟨rfl, hb, ho⟩
       have H2 := hp_turn H (i := 4) (cs' := [.int .u64 (nextN (nextN (nextN (nextN s))))]) rfl hb ho
       refine ⟨_, rfl, wkAt H2 ?_⟩
       clear H H2
       refine p_reqRC rfl ?_
       refine wI 103 rfl (IntWalk.i64_in _ (by omega)) ?_
       refine wE (.pointer (some ⟨b7, 11, none⟩)) rfl rfl rfl (fun aa ww hs _ => by have e7 := hs 7 _ rfl; have g7 := gt_of e7; simp only [execOp]; go_simp <;> first | rfl | omega) ?_
       refine wSt rfl tyint 1 rfl rfl rfl rfl ?_
       refine wN ?_
       refine bN (tN (wKK hK12 ?_))
       refine wSeqK fun KK28 hK28 => ?_
       refine wReg ?_
       refine wLr rfl tyhoistwayref14_Request 1 rfl [.int .i64 (kindsL.getD (belN s 10) 0), .int .i64 (belN (nextN s) 1000), .int .i64 0, .int .i64 0, .int .i64 0, .int .i64 now, .int .i64 (belN (nextN (nextN s)) 8), .int .i64 0, .int .i64 0, .int .i64 0, .int .i64 0, .int .i64 (1 + ((belN (nextN (nextN (nextN s))) 20) : Int)), .int .i64 0, .int .i64 0, .int .i64 0, .int .i64 0] rfl rfl ?_
       refine wSr rfl tyhoistwayref14_Request 2 rfl rfl rfl rfl [.int .i64 (kindsL.getD (belN s 10) 0), .int .i64 (belN (nextN s) 1000), .int .i64 0, .int .i64 0, .int .i64 0, .int .i64 now, .int .i64 (belN (nextN (nextN s)) 8), .int .i64 0, .int .i64 0, .int .i64 0, .int .i64 0, .int .i64 (1 + ((belN (nextN (nextN (nextN s))) 20) : Int)), .int .i64 0, .int .i64 0, .int .i64 0, .int .i64 0] (by first | rfl | (simp only [spl]; rfl)) ?_
       refine wN ?_
       refine tN (wKK hK28 ?_)
       refine wRet ?_
       exact wRc tyhoistwayref14_Request rfl rfl 2 rfl rfl (fun ww H => (by have hk8 : belN (nextN (nextN s)) 8 < 4294967296 := Nat.lt_trans (belN_lt _ (by decide)) (by decide); simp only [drawReq, drawOk, kindOf, seqOf, drawCall, drawFilter, drawMode, keyV_d hk8, keyV_m hk8, Int.zero_ediv, Int.zero_emod, z3, z3l, z3ll, z3lln, z3llno, z3lr, z3r, z32, z5, z6, z6o, z5c1, z5c1o, cond_true, cond_false, Bool.not_true, Bool.not_false, Bool.true_and, Bool.and_true, Bool.false_and, Bool.and_false, Bool.true_or, Bool.or_true, Bool.false_or, Bool.or_false]; exact ⟨by first | rfl | trivial, H.out.blk 4 rfl, H.out.off⟩))
   · skip
     have z5l : ((kindsL.getD (belN s 10) 0) == 4) = false := Reg.ol z5
     have z5lo : ((kindsL.getD (belN s 10) 0) != 4) = true := eqq_f z5l
     have z5r : ((kindsL.getD (belN s 10) 0) == 5) = false := Reg.orr z5
     have z5ro : ((kindsL.getD (belN s 10) 0) != 5) = true := eqq_f z5r
     refine wSk ?_
     refine tN (wKK hK9 ?_)
     refine wSeqK fun KK29 hK29 => ?_
     refine wSeqK fun KK30 hK30 => ?_
     refine wReg ?_
     refine wE (.pointer (some ⟨b7, 0, none⟩)) rfl rfl rfl (fun aa ww hs _ => by have e7 := hs 7 _ rfl; have g7 := gt_of e7; simp only [execOp]; go_simp <;> first | rfl | omega) ?_
     refine wLd rfl tyint 1 rfl rfl ?_
     refine wN ?_
     refine tN (wKK hK30 ?_)
     refine wBlk ?_
     refine wSeqK fun KK31 hK31 => ?_
     refine wReg ?_
     refine p_reqRC rfl ?_
     refine wB 47 rfl z5l ?_
     refine p_reqRC rfl ?_
     refine wN ?_
     refine tN (wKK hK31 ?_)
     refine wCf rfl ?_
     refine wSeqK fun KK32 hK32 => ?_
     refine wSeqK fun KK33 hK33 => ?_
     refine wReg ?_
     refine p_reqRC rfl ?_
     refine wB 99 rfl z5r ?_
     refine p_reqRC rfl ?_
     refine wN ?_
     refine tN (wKK hK33 ?_)
     refine wCf rfl ?_
     refine wReg ?_
     iterate 2 refine p_reqRC rfl ?_
     refine wN ?_
     refine tN (wKK hK32 ?_)
     refine wCond (E := (kindsL.getD (belN s 10) 0) == 6) rfl (fun z10 => ?_) (fun z10 => ?_)
     · skip
       have z10o : ((kindsL.getD (belN s 10) 0) != 6) = false := eqq_t z10
       refine wReg ?_
       refine p_reqRC rfl ?_
       refine wC (l := [.pointer (some ⟨m, 0, none⟩), .int .i64 20]) Tryz.func11 rfl (by kernel_rfl) (fun wc H => belowRN m (nextN (nextN s)) 20 wc (H.out.blk 4 rfl) (nextN_lt (nextN_lt hsl)) (by decide)) rfl rfl rfl rfl ?_
       intro wc H
       rintro er wd ⟨rfl, hb, ho⟩
       have H2 := hp_turn H (i := 4) (cs' := [.int .u64 (nextN (nextN (nextN s)))]) rfl hb ho
       refine ⟨_, rfl, wkAt H2 ?_⟩
       clear H H2
       refine p_reqRC rfl ?_
       refine wI 103 rfl (IntWalk.i64_in _ (by omega)) ?_
       refine wE (.pointer (some ⟨b7, 11, none⟩)) rfl rfl rfl (fun aa ww hs _ => by have e7 := hs 7 _ rfl; have g7 := gt_of e7; simp only [execOp]; go_simp <;> first | rfl | omega) ?_
       refine wSt rfl tyint 1 rfl rfl rfl rfl ?_
       refine wN ?_
       refine bN (tN (wKK hK29 ?_))
       refine wSeqK fun KK34 hK34 => ?_
       refine wReg ?_
       refine wLr rfl tyhoistwayref14_Request 1 rfl [.int .i64 (kindsL.getD (belN s 10) 0), .int .i64 (belN (nextN s) 1000), .int .i64 0, .int .i64 0, .int .i64 0, .int .i64 0, .int .i64 0, .int .i64 0, .int .i64 0, .int .i64 0, .int .i64 0, .int .i64 (1 + ((belN (nextN (nextN s)) 20) : Int)), .int .i64 0, .int .i64 0, .int .i64 0, .int .i64 0] rfl rfl ?_
       refine wSr rfl tyhoistwayref14_Request 2 rfl rfl rfl rfl [.int .i64 (kindsL.getD (belN s 10) 0), .int .i64 (belN (nextN s) 1000), .int .i64 0, .int .i64 0, .int .i64 0, .int .i64 0, .int .i64 0, .int .i64 0, .int .i64 0, .int .i64 0, .int .i64 0, .int .i64 (1 + ((belN (nextN (nextN s)) 20) : Int)), .int .i64 0, .int .i64 0, .int .i64 0, .int .i64 0] (by first | rfl | (simp only [spl]; rfl)) ?_
       refine wN ?_
       refine tN (wKK hK34 ?_)
       refine wRet ?_
       exact wRc tyhoistwayref14_Request rfl rfl 2 rfl rfl (fun ww H => (by have hk8 : belN (nextN (nextN s)) 8 < 4294967296 := Nat.lt_trans (belN_lt _ (by decide)) (by decide); simp only [drawReq, drawOk, kindOf, seqOf, drawCall, drawFilter, drawMode, keyV_d hk8, keyV_m hk8, Int.zero_ediv, Int.zero_emod, z3, z3l, z3ll, z3lln, z3llno, z3lr, z3r, z32, z5, z5l, z5lo, z5r, z5ro, z10, z10o, cond_true, cond_false, Bool.not_true, Bool.not_false, Bool.true_and, Bool.and_true, Bool.false_and, Bool.and_false, Bool.true_or, Bool.or_true, Bool.false_or, Bool.or_false]; exact ⟨by first | rfl | trivial, H.out.blk 4 rfl, H.out.off⟩))
     · skip
       have z10o : ((kindsL.getD (belN s 10) 0) != 6) = true := eqq_f z10
       refine wSeqK fun KK35 hK35 => ?_
       refine wReg ?_
       iterate 2 refine p_reqRC rfl ?_
       refine wN ?_
       refine tN (wKK hK35 ?_)
       refine wCond (E := (kindsL.getD (belN s 10) 0) == 8) rfl (fun z11 => ?_) (fun z11 => ?_)
       · skip
         have z11o : ((kindsL.getD (belN s 10) 0) != 8) = false := eqq_t z11
         refine wSeqK fun KK36 hK36 => ?_
         refine wReg ?_
         refine p_reqRC rfl ?_
         refine wC (l := [.pointer (some ⟨m, 0, none⟩), .int .i64 4]) Tryz.func11 rfl (by kernel_rfl) (fun wc H => belowRN m (nextN (nextN s)) 4 wc (H.out.blk 4 rfl) (nextN_lt (nextN_lt hsl)) (by decide)) rfl rfl rfl rfl ?_
         intro wc H
         rintro er wd ⟨rfl, hb, ho⟩
         have H2 := hp_turn H (i := 4) (cs' := [.int .u64 (nextN (nextN (nextN s)))]) rfl hb ho
         refine ⟨_, rfl, wkAt H2 ?_⟩
         clear H H2
         refine wE (.pointer (some ⟨b7, 14, none⟩)) rfl rfl rfl (fun aa ww hs _ => by have e7 := hs 7 _ rfl; have g7 := gt_of e7; simp only [execOp]; go_simp <;> first | rfl | omega) ?_
         refine wSt rfl tyint 1 rfl rfl rfl rfl ?_
         refine wN ?_
         refine tN (wKK hK36 ?_)
         refine wSeqK fun KK37 hK37 => ?_
         refine wReg ?_
         refine wE (.pointer (some ⟨b7, 14, none⟩)) rfl rfl rfl (fun aa ww hs _ => by have e7 := hs 7 _ rfl; have g7 := gt_of e7; simp only [execOp]; go_simp <;> first | rfl | omega) ?_
         refine wLd rfl tyint 1 rfl rfl ?_
         refine p_reqRC rfl ?_
         refine wN ?_
         refine tN (wKK hK37 ?_)
         refine wCond (E := ((belN (nextN (nextN s)) 4) : Int) != 0) rfl (fun z12 => ?_) (fun z12 => ?_)
         · skip
           have z12o : (((belN (nextN (nextN s)) 4) : Int) == 0) = false := neq_t z12
           refine wReg ?_
           refine p_reqRC rfl ?_
           refine wC (l := [.pointer (some ⟨m, 0, none⟩), .int .i64 8]) Tryz.func11 rfl (by kernel_rfl) (fun wc H => belowRN m (nextN (nextN (nextN s))) 8 wc (H.out.blk 4 rfl) (nextN_lt (nextN_lt (nextN_lt hsl))) (by decide)) rfl rfl rfl rfl ?_
           intro wc H
           rintro er wd ⟨rfl, hb, ho⟩
           have H2 := hp_turn H (i := 4) (cs' := [.int .u64 (nextN (nextN (nextN (nextN s))))]) rfl hb ho
           refine ⟨_, rfl, wkAt H2 ?_⟩
           clear H H2
           refine p_reqRC rfl ?_
           refine wI 115 rfl (IntWalk.i64_in _ (by omega)) ?_
           refine wE (.pointer (some ⟨b7, 15, none⟩)) rfl rfl rfl (fun aa ww hs _ => by have e7 := hs 7 _ rfl; have g7 := gt_of e7; simp only [execOp]; go_simp <;> first | rfl | omega) ?_
           refine wSt rfl tyint 1 rfl rfl rfl rfl ?_
           refine wN ?_
           refine bN (tN (wKK hK29 ?_))
           refine wSeqK fun KK38 hK38 => ?_
           refine wReg ?_
           refine wLr rfl tyhoistwayref14_Request 1 rfl [.int .i64 (kindsL.getD (belN s 10) 0), .int .i64 (belN (nextN s) 1000), .int .i64 0, .int .i64 0, .int .i64 0, .int .i64 0, .int .i64 0, .int .i64 0, .int .i64 0, .int .i64 0, .int .i64 0, .int .i64 0, .int .i64 0, .int .i64 0, .int .i64 (belN (nextN (nextN s)) 4), .int .i64 (1 + ((belN (nextN (nextN (nextN s))) 8) : Int))] rfl rfl ?_
           refine wSr rfl tyhoistwayref14_Request 2 rfl rfl rfl rfl [.int .i64 (kindsL.getD (belN s 10) 0), .int .i64 (belN (nextN s) 1000), .int .i64 0, .int .i64 0, .int .i64 0, .int .i64 0, .int .i64 0, .int .i64 0, .int .i64 0, .int .i64 0, .int .i64 0, .int .i64 0, .int .i64 0, .int .i64 0, .int .i64 (belN (nextN (nextN s)) 4), .int .i64 (1 + ((belN (nextN (nextN (nextN s))) 8) : Int))] (by first | rfl | (simp only [spl]; rfl)) ?_
           refine wN ?_
           refine tN (wKK hK38 ?_)
           refine wRet ?_
           exact wRc tyhoistwayref14_Request rfl rfl 2 rfl rfl (fun ww H => (by have hk8 : belN (nextN (nextN s)) 8 < 4294967296 := Nat.lt_trans (belN_lt _ (by decide)) (by decide); simp only [drawReq, drawOk, kindOf, seqOf, drawCall, drawFilter, drawMode, keyV_d hk8, keyV_m hk8, Int.zero_ediv, Int.zero_emod, z3, z3l, z3ll, z3lln, z3llno, z3lr, z3r, z32, z5, z5l, z5lo, z5r, z5ro, z10, z10o, z11, z11o, z12, z12o, cond_true, cond_false, Bool.not_true, Bool.not_false, Bool.true_and, Bool.and_true, Bool.false_and, Bool.and_false, Bool.true_or, Bool.or_true, Bool.false_or, Bool.or_false]; exact ⟨by first | rfl | trivial, H.out.blk 4 rfl, H.out.off⟩))
         · skip
           have z12o : (((belN (nextN (nextN s)) 4) : Int) == 0) = true := neq_f z12
           refine wSk ?_
           refine bN (tN (wKK hK29 ?_))
           refine wSeqK fun KK39 hK39 => ?_
           refine wReg ?_
           refine wLr rfl tyhoistwayref14_Request 1 rfl [.int .i64 (kindsL.getD (belN s 10) 0), .int .i64 (belN (nextN s) 1000), .int .i64 0, .int .i64 0, .int .i64 0, .int .i64 0, .int .i64 0, .int .i64 0, .int .i64 0, .int .i64 0, .int .i64 0, .int .i64 0, .int .i64 0, .int .i64 0, .int .i64 (belN (nextN (nextN s)) 4), .int .i64 0] rfl rfl ?_
           refine wSr rfl tyhoistwayref14_Request 2 rfl rfl rfl rfl [.int .i64 (kindsL.getD (belN s 10) 0), .int .i64 (belN (nextN s) 1000), .int .i64 0, .int .i64 0, .int .i64 0, .int .i64 0, .int .i64 0, .int .i64 0, .int .i64 0, .int .i64 0, .int .i64 0, .int .i64 0, .int .i64 0, .int .i64 0, .int .i64 (belN (nextN (nextN s)) 4), .int .i64 0] (by first | rfl | (simp only [spl]; rfl)) ?_
           refine wN ?_
           refine tN (wKK hK39 ?_)
           refine wRet ?_
           exact wRc tyhoistwayref14_Request rfl rfl 2 rfl rfl (fun ww H => (by have hk8 : belN (nextN (nextN s)) 8 < 4294967296 := Nat.lt_trans (belN_lt _ (by decide)) (by decide); simp only [drawReq, drawOk, kindOf, seqOf, drawCall, drawFilter, drawMode, keyV_d hk8, keyV_m hk8, Int.zero_ediv, Int.zero_emod, z3, z3l, z3ll, z3lln, z3llno, z3lr, z3r, z32, z5, z5l, z5lo, z5r, z5ro, z10, z10o, z11, z11o, z12, z12o, cond_true, cond_false, Bool.not_true, Bool.not_false, Bool.true_and, Bool.and_true, Bool.false_and, Bool.and_false, Bool.true_or, Bool.or_true, Bool.false_or, Bool.or_false]; exact ⟨by first | rfl | trivial, H.out.blk 4 rfl, H.out.off⟩))
       · skip
         have z11o : ((kindsL.getD (belN s 10) 0) != 8) = true := eqq_f z11
         refine wSeqK fun KK40 hK40 => ?_
         refine wReg ?_
         iterate 2 refine p_reqRC rfl ?_
         refine wN ?_
         refine tN (wKK hK40 ?_)
         refine wCond (E := (kindsL.getD (belN s 10) 0) == 10) rfl (fun z13 => ?_) (fun z13 => ?_)
         · skip
           have z13o : ((kindsL.getD (belN s 10) 0) != 10) = false := eqq_t z13
           refine wSeqK fun KK41 hK41 => ?_
           refine wReg ?_
           iterate 2 refine p_reqRC rfl ?_
           refine wLd rfl tyint 3 rfl rfl ?_
           refine wC (l := [.pointer (some ⟨m, 0, none⟩), .int .i64 c.cars]) Tryz.func11 rfl (by kernel_rfl) (fun wc H => belowROk m (nextN (nextN s)) c.cars wc (H.out.blk 4 rfl) (nextN_lt (nextN_lt hsl)) (by omega)) rfl rfl rfl rfl ?_
           intro wc H
           rintro er wd ⟨rfl, hb, ho⟩
           have H2 := hp_turn H (i := 4) (cs' := [.int .u64 (nextN (nextN (nextN s)))]) rfl hb ho
           refine ⟨_, rfl, wkAt H2 ?_⟩
           clear H H2
           refine p_reqRC rfl ?_
           refine wI 123 rfl (IntWalk.i64_in _ (by omega)) ?_
           refine wE (.pointer (some ⟨b7, 12, none⟩)) rfl rfl rfl (fun aa ww hs _ => by have e7 := hs 7 _ rfl; have g7 := gt_of e7; simp only [execOp]; go_simp <;> first | rfl | omega) ?_
           refine wSt rfl tyint 1 rfl rfl rfl rfl ?_
           refine wN ?_
           refine tN (wKK hK41 ?_)
           refine wSeqK fun KK42 hK42 => ?_
           refine wReg ?_
           refine wE (.pointer (some ⟨b7, 13, none⟩)) rfl rfl rfl (fun aa ww hs _ => by have e7 := hs 7 _ rfl; have g7 := gt_of e7; simp only [execOp]; go_simp <;> first | rfl | omega) ?_
           refine wSt rfl tyint 1 rfl rfl rfl rfl ?_
           refine wN ?_
           refine tN (wKK hK42 ?_)
           refine wSeqK fun KK43 hK43 => ?_
           refine wReg ?_
           refine p_reqRC rfl ?_
           refine wC (l := [.pointer (some ⟨m, 0, none⟩), .int .i64 8]) Tryz.func11 rfl (by kernel_rfl) (fun wc H => belowRN m (nextN (nextN (nextN s))) 8 wc (H.out.blk 4 rfl) (nextN_lt (nextN_lt (nextN_lt hsl))) (by decide)) rfl rfl rfl rfl ?_
           intro wc H
           rintro er wd ⟨rfl, hb, ho⟩
           have H2 := hp_turn H (i := 4) (cs' := [.int .u64 (nextN (nextN (nextN (nextN s))))]) rfl hb ho
           refine ⟨_, rfl, wkAt H2 ?_⟩
           clear H H2
           refine p_reqRC rfl ?_
           refine wN ?_
           refine tN (wKK hK43 ?_)
           refine wCond (E := ((belN (nextN (nextN (nextN s))) 8) : Int) == 0) rfl (fun z14 => ?_) (fun z14 => ?_)
           · skip
             have z14o : (((belN (nextN (nextN (nextN s))) 8) : Int) != 0) = false := eqq_t z14
             refine wReg ?_
             refine wE (.pointer (some ⟨b7, 13, none⟩)) rfl rfl rfl (fun aa ww hs _ => by have e7 := hs 7 _ rfl; have g7 := gt_of e7; simp only [execOp]; go_simp <;> first | rfl | omega) ?_
             refine wSt rfl tyint 1 rfl rfl rfl rfl ?_
             refine wN ?_
             refine bN (tN (wKK hK29 ?_))
             refine wSeqK fun KK44 hK44 => ?_
             refine wReg ?_
             refine wLr rfl tyhoistwayref14_Request 1 rfl [.int .i64 (kindsL.getD (belN s 10) 0), .int .i64 (belN (nextN s) 1000), .int .i64 0, .int .i64 0, .int .i64 0, .int .i64 0, .int .i64 0, .int .i64 0, .int .i64 0, .int .i64 0, .int .i64 0, .int .i64 0, .int .i64 (1 + (belV (nextN (nextN s)) c.cars)), .int .i64 2, .int .i64 0, .int .i64 0] rfl rfl ?_
             refine wSr rfl tyhoistwayref14_Request 2 rfl rfl rfl rfl [.int .i64 (kindsL.getD (belN s 10) 0), .int .i64 (belN (nextN s) 1000), .int .i64 0, .int .i64 0, .int .i64 0, .int .i64 0, .int .i64 0, .int .i64 0, .int .i64 0, .int .i64 0, .int .i64 0, .int .i64 0, .int .i64 (1 + (belV (nextN (nextN s)) c.cars)), .int .i64 2, .int .i64 0, .int .i64 0] (by first | rfl | (simp only [spl]; rfl)) ?_
             refine wN ?_
             refine tN (wKK hK44 ?_)
             refine wRet ?_
             exact wRc tyhoistwayref14_Request rfl rfl 2 rfl rfl (fun ww H => (by have hk8 : belN (nextN (nextN s)) 8 < 4294967296 := Nat.lt_trans (belN_lt _ (by decide)) (by decide); simp only [drawReq, drawOk, kindOf, seqOf, drawCall, drawFilter, drawMode, keyV_d hk8, keyV_m hk8, Int.zero_ediv, Int.zero_emod, z3, z3l, z3ll, z3lln, z3llno, z3lr, z3r, z32, z5, z5l, z5lo, z5r, z5ro, z10, z10o, z11, z11o, z13, z13o, z14, z14o, cond_true, cond_false, Bool.not_true, Bool.not_false, Bool.true_and, Bool.and_true, Bool.false_and, Bool.and_false, Bool.true_or, Bool.or_true, Bool.false_or, Bool.or_false]; exact ⟨by first | rfl | trivial, H.out.blk 4 rfl, H.out.off⟩))
           · skip
             have z14o : (((belN (nextN (nextN (nextN s))) 8) : Int) != 0) = true := eqq_f z14
             refine wSk ?_
             refine bN (tN (wKK hK29 ?_))
             refine wSeqK fun KK45 hK45 => ?_
             refine wReg ?_
             refine wLr rfl tyhoistwayref14_Request 1 rfl [.int .i64 (kindsL.getD (belN s 10) 0), .int .i64 (belN (nextN s) 1000), .int .i64 0, .int .i64 0, .int .i64 0, .int .i64 0, .int .i64 0, .int .i64 0, .int .i64 0, .int .i64 0, .int .i64 0, .int .i64 0, .int .i64 (1 + (belV (nextN (nextN s)) c.cars)), .int .i64 1, .int .i64 0, .int .i64 0] rfl rfl ?_
             refine wSr rfl tyhoistwayref14_Request 2 rfl rfl rfl rfl [.int .i64 (kindsL.getD (belN s 10) 0), .int .i64 (belN (nextN s) 1000), .int .i64 0, .int .i64 0, .int .i64 0, .int .i64 0, .int .i64 0, .int .i64 0, .int .i64 0, .int .i64 0, .int .i64 0, .int .i64 0, .int .i64 (1 + (belV (nextN (nextN s)) c.cars)), .int .i64 1, .int .i64 0, .int .i64 0] (by first | rfl | (simp only [spl]; rfl)) ?_
             refine wN ?_
             refine tN (wKK hK45 ?_)
             refine wRet ?_
             exact wRc tyhoistwayref14_Request rfl rfl 2 rfl rfl (fun ww H => (by have hk8 : belN (nextN (nextN s)) 8 < 4294967296 := Nat.lt_trans (belN_lt _ (by decide)) (by decide); simp only [drawReq, drawOk, kindOf, seqOf, drawCall, drawFilter, drawMode, keyV_d hk8, keyV_m hk8, Int.zero_ediv, Int.zero_emod, z3, z3l, z3ll, z3lln, z3llno, z3lr, z3r, z32, z5, z5l, z5lo, z5r, z5ro, z10, z10o, z11, z11o, z13, z13o, z14, z14o, cond_true, cond_false, Bool.not_true, Bool.not_false, Bool.true_and, Bool.and_true, Bool.false_and, Bool.and_false, Bool.true_or, Bool.or_true, Bool.false_or, Bool.or_false]; exact ⟨by first | rfl | trivial, H.out.blk 4 rfl, H.out.off⟩))
         · skip
           have z13o : ((kindsL.getD (belN s 10) 0) != 10) = true := eqq_f z13
           refine wSk ?_
           refine bN (tN (wKK hK29 ?_))
           refine wSeqK fun KK46 hK46 => ?_
           refine wReg ?_
           refine wLr rfl tyhoistwayref14_Request 1 rfl [.int .i64 (kindsL.getD (belN s 10) 0), .int .i64 (belN (nextN s) 1000), .int .i64 0, .int .i64 0, .int .i64 0, .int .i64 0, .int .i64 0, .int .i64 0, .int .i64 0, .int .i64 0, .int .i64 0, .int .i64 0, .int .i64 0, .int .i64 0, .int .i64 0, .int .i64 0] rfl rfl ?_
           refine wSr rfl tyhoistwayref14_Request 2 rfl rfl rfl rfl [.int .i64 (kindsL.getD (belN s 10) 0), .int .i64 (belN (nextN s) 1000), .int .i64 0, .int .i64 0, .int .i64 0, .int .i64 0, .int .i64 0, .int .i64 0, .int .i64 0, .int .i64 0, .int .i64 0, .int .i64 0, .int .i64 0, .int .i64 0, .int .i64 0, .int .i64 0] (by first | rfl | (simp only [spl]; rfl)) ?_
           refine wN ?_
           refine tN (wKK hK46 ?_)
           refine wRet ?_
           exact wRc tyhoistwayref14_Request rfl rfl 2 rfl rfl (fun ww H => (by have hk8 : belN (nextN (nextN s)) 8 < 4294967296 := Nat.lt_trans (belN_lt _ (by decide)) (by decide); simp only [drawReq, drawOk, kindOf, seqOf, drawCall, drawFilter, drawMode, keyV_d hk8, keyV_m hk8, Int.zero_ediv, Int.zero_emod, z3, z3l, z3ll, z3lln, z3llno, z3lr, z3r, z32, z5, z5l, z5lo, z5r, z5ro, z10, z10o, z11, z11o, z13, z13o, cond_true, cond_false, Bool.not_true, Bool.not_false, Bool.true_and, Bool.and_true, Bool.false_and, Bool.and_false, Bool.true_or, Bool.or_true, Bool.false_or, Bool.or_false]; exact ⟨by first | rfl | trivial, H.out.blk 4 rfl, H.out.off⟩))
theorem reqRN (m s : Nat) (c : Cfg) (now : Int) (w : World) (hm : Blk w m #[.int .u64 s] 63) (hsl : s < 18446744073709551616) : Calls Tryz.prog 14 #[.pointer (some ⟨m, 0, none⟩), .agg (cA c), .int .i64 now] w fun e w' => e = .returned (.agg #[.int .i64 ((numsQ ((drawReq s c now).1)).getD 0 0), .int .i64 ((numsQ ((drawReq s c now).1)).getD 1 0), .int .i64 ((numsQ ((drawReq s c now).1)).getD 2 0), .int .i64 ((numsQ ((drawReq s c now).1)).getD 3 0), .int .i64 ((numsQ ((drawReq s c now).1)).getD 4 0), .int .i64 ((numsQ ((drawReq s c now).1)).getD 5 0), .int .i64 ((numsQ ((drawReq s c now).1)).getD 6 0), .int .i64 ((numsQ ((drawReq s c now).1)).getD 7 0), .int .i64 ((numsQ ((drawReq s c now).1)).getD 8 0), .int .i64 ((numsQ ((drawReq s c now).1)).getD 9 0), .int .i64 ((numsQ ((drawReq s c now).1)).getD 10 0), .int .i64 ((numsQ ((drawReq s c now).1)).getD 11 0), .int .i64 ((numsQ ((drawReq s c now).1)).getD 12 0), .int .i64 ((numsQ ((drawReq s c now).1)).getD 13 0), .int .i64 ((numsQ ((drawReq s c now).1)).getD 14 0), .int .i64 ((numsQ ((drawReq s c now).1)).getD 15 0)]) ∧ Blk w' m #[.int .u64 ((drawReq s c now).2)] 63 ∧ Off [m] w w' := reqRC m s c now w hm hsl
def tab_askRC : Wk.Tab := []
theorem p_askRC {ops : Array Oper} {rest : List Oper} {o : Oper} {w0 : World} {Q : Exit → Act → World → Prop} {S : List Nat} {R : List Res} {K K' : Wk.Env} {N : Nat} (h : Wk.stp tab_askRC N ops K o = some K') (n : Wk.Wk N S w0 K' R (wpList Tryz.prog ops Q rest)) : Wk.Wk N S w0 K R (wpList Tryz.prog ops Q (o :: rest)) := Wk.wP (T := tab_askRC) (by kernel_rfl) h n
set_option maxHeartbeats 16000000 in
set_option maxRecDepth 20000 in
theorem askRC (line : Int) (r : List Int) (w : World) : Calls Tryz.prog 32 #[.int .i64 line, .agg #[.int .i64 (r.getD 0 0), .int .i64 (r.getD 1 0), .int .i64 (r.getD 2 0), .int .i64 (r.getD 3 0), .int .i64 (r.getD 4 0), .int .i64 (r.getD 5 0), .int .i64 (r.getD 6 0), .int .i64 (r.getD 7 0), .int .i64 (r.getD 8 0), .int .i64 (r.getD 9 0), .int .i64 (r.getD 10 0), .int .i64 (r.getD 11 0), .int .i64 (r.getD 12 0), .int .i64 (r.getD 13 0), .int .i64 (r.getD 14 0), .int .i64 (r.getD 15 0)]] w fun e w' => e = .returned (.agg #[.int .i64 2, .int .i64 line, .string (ofV (encR r)).1]) ∧ Off [] w w' := by
 have H := Lib.hid (Hp.start [] w)
 refine wStart (args := [.int .i64 line, .agg #[.int .i64 (r.getD 0 0), .int .i64 (r.getD 1 0), .int .i64 (r.getD 2 0), .int .i64 (r.getD 3 0), .int .i64 (r.getD 4 0), .int .i64 (r.getD 5 0), .int .i64 (r.getD 6 0), .int .i64 (r.getD 7 0), .int .i64 (r.getD 8 0), .int .i64 (r.getD 9 0), .int .i64 (r.getD 10 0), .int .i64 (r.getD 11 0), .int .i64 (r.getD 12 0), .int .i64 (r.getD 13 0), .int .i64 (r.getD 14 0), .int .i64 (r.getD 15 0)]]) Tryz.func32 rfl rfl rfl H ?_
 clear H
 show Wk 22 _ _ [(0, .int .i64 line), (1, .agg #[.int .i64 (r.getD 0 0), .int .i64 (r.getD 1 0), .int .i64 (r.getD 2 0), .int .i64 (r.getD 3 0), .int .i64 (r.getD 4 0), .int .i64 (r.getD 5 0), .int .i64 (r.getD 6 0), .int .i64 (r.getD 7 0), .int .i64 (r.getD 8 0), .int .i64 (r.getD 9 0), .int .i64 (r.getD 10 0), .int .i64 (r.getD 11 0), .int .i64 (r.getD 12 0), .int .i64 (r.getD 13 0), .int .i64 (r.getD 14 0), .int .i64 (r.getD 15 0)])] _ _
 refine wSeqK fun KK1 hK1 => ?_
 refine wReg ?_
 refine wBx rfl rfl rfl fun b3 => ?_
 refine wAl rfl rfl tyhoistwayref35_Event fun b4 => ?_
 refine wN ?_
 refine tN (wKK hK1 ?_)
 refine wSeqK fun KK2 hK2 => ?_
 refine wReg ?_
 refine wLr rfl tyhoistwayref14_Request 1 rfl [.int .i64 (r.getD 0 0), .int .i64 (r.getD 1 0), .int .i64 (r.getD 2 0), .int .i64 (r.getD 3 0), .int .i64 (r.getD 4 0), .int .i64 (r.getD 5 0), .int .i64 (r.getD 6 0), .int .i64 (r.getD 7 0), .int .i64 (r.getD 8 0), .int .i64 (r.getD 9 0), .int .i64 (r.getD 10 0), .int .i64 (r.getD 11 0), .int .i64 (r.getD 12 0), .int .i64 (r.getD 13 0), .int .i64 (r.getD 14 0), .int .i64 (r.getD 15 0)] rfl rfl ?_
 refine wQ (l := [.agg #[.int .i64 (r.getD 0 0), .int .i64 (r.getD 1 0), .int .i64 (r.getD 2 0), .int .i64 (r.getD 3 0), .int .i64 (r.getD 4 0), .int .i64 (r.getD 5 0), .int .i64 (r.getD 6 0), .int .i64 (r.getD 7 0), .int .i64 (r.getD 8 0), .int .i64 (r.getD 9 0), .int .i64 (r.getD 10 0), .int .i64 (r.getD 11 0), .int .i64 (r.getD 12 0), .int .i64 (r.getD 13 0), .int .i64 (r.getD 14 0), .int .i64 (r.getD 15 0)]]) Tryz.func40 rfl (by kernel_rfl) (.tuple #[.string (encR r), .bool (goodR r)]) (fun wc H => refEncC r wc) rfl rfl rfl rfl ?_
 iterate 5 refine p_askRC rfl ?_
 refine wN ?_
 refine tN (wKK hK2 ?_)
 refine wSeqK fun KK3 hK3 => ?_
 refine wReg ?_
 refine p_askRC rfl ?_
 refine wQ (l := [.string (encR r)]) Tryz.func41 rfl (by kernel_rfl) (.tuple #[.string ((ofV (encR r)).1), .bool ((ofV (encR r)).2 == 0)]) (fun wc H => refOf (encR r) wc) rfl rfl rfl rfl ?_
 iterate 5 refine p_askRC rfl ?_
 refine wN ?_
 refine tN (wKK hK3 ?_)
 refine wSeqK fun KK4 hK4 => ?_
 refine wReg ?_
 iterate 2 refine p_askRC rfl ?_
 refine wE (.agg #[.int .i64 2, .int .i64 line, .string ((ofV (encR r)).1)]) rfl rfl rfl (fun aa ww hs _ => by have e19 := hs 19 _ rfl; have g19 := gt_of e19; have e20 := hs 20 _ rfl; have g20 := gt_of e20; simp only [execOp]; go_simp <;> first | rfl | omega) ?_
 refine wSr rfl tyhoistwayref35_Event 0 rfl rfl rfl rfl [.int .i64 2, .int .i64 line, .string ((ofV (encR r)).1)] (by first | rfl | (simp only [spl]; rfl)) ?_
 refine wN ?_
 refine tN (wKK hK4 ?_)
 refine wRet ?_
 exact wRc tyhoistwayref35_Event rfl rfl 0 rfl rfl (fun ww H => ⟨rfl, H.out.off⟩)
end Go.Proofs.YthflkhalipkdgaaGreat.Mn
