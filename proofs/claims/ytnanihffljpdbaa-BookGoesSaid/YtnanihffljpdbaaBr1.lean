/- Layers 7, 8: the references in the words of the program. -/
import Derived.Test.YtnanihffljpdbaaProg
import Derived.Below
import Derived.WalkKit
import Derived.KernelRfl
import Derived.RowKit3
import Derived.Deep.LoopGhost
import Derived.Deep.QuietTactic
import Derived.BigQuiet
import Derived.WideLaws
import Derived.Deep.DeepCutAuto
import Derived.Deep.CutBlock
import Derived.Lib.Hide
import Derived.Laws.BitsLemmas
import Derived.Laws.Bits64
import Derived.Laws.BitsAllLaws
import Derived.IntWalk
import Derived.Outline
import Derived.WalkSpells
import Derived.Test.YtnanihffljpdbaaMem
import Derived.Test.YtnanihffljpdbaaBk1
namespace Go.Proofs.Ytnanihffljpdbaa.Bk
open Go.RowKit Go.Proofs.Ytnanihffljpdbaa.Mem Go.Proofs.Ytnanihffljpdbaa.Reg Go.Proofs.Ytnanihffljpdbaa.Wk Go.Proofs.Ytnanihffljpdbaa.Si Go.Proofs.Ytnanihffljpdbaa.Ca Go.Proofs.Ytnanihffljpdbaa.Sc6
set_option linter.unusedVariables false
set_option linter.unusedSimpArgs false

def loL : List Int := [2, 1, 1, 1, 1, 1, 1, 1, 1, 1, 1, 1, 1, 0, 0, 1, 0]
def hiL : List Int := [32, 4, 8, 64, 8, 64, 65536, 1024, 1024, 65536, 16, 16, 64, 8, 1048576, 4, 4]
def cfL (c : Cfg) : List Int := [c.floors, c.cars, c.seats, c.calls, c.lines, c.keys, c.window, c.burst, c.rate, c.idle, c.inn, c.out, c.feed, c.retries, c.life, c.door, c.holds]
theorem cell_of (l : List Int) {i : Nat} (h : i < l.length) : (l.map (Value.int .i64))[i]? = some (.int .i64 (l.getD i 0)) := by
  simp [List.getElem?_eq_getElem, h, List.getD_eq_getElem?_getD]
theorem cfg_iff (c : Cfg) : cfgOk c = true ↔ ∀ k, k < 17 → loL.getD k 0 ≤ (cfL c).getD k 0 ∧ (cfL c).getD k 0 ≤ hiL.getD k 0 := by
  constructor
  · intro h k hk
    unfold cfgOk at h
    simp at h
    have : k = 0 ∨ k = 1 ∨ k = 2 ∨ k = 3 ∨ k = 4 ∨ k = 5 ∨ k = 6 ∨ k = 7 ∨ k = 8 ∨ k = 9 ∨ k = 10 ∨ k = 11 ∨ k = 12 ∨ k = 13 ∨ k = 14 ∨ k = 15 ∨ k = 16 := by omega
    rcases this with rfl | rfl | rfl | rfl | rfl | rfl | rfl | rfl | rfl | rfl | rfl | rfl | rfl | rfl | rfl | rfl | rfl <;> simp [loL, hiL, cfL] <;> omega
  · intro h
    have g := fun k (hk : k < 17) => h k hk
    have g0 := g 0 (by decide)
    have g1 := g 1 (by decide)
    have g2 := g 2 (by decide)
    have g3 := g 3 (by decide)
    have g4 := g 4 (by decide)
    have g5 := g 5 (by decide)
    have g6 := g 6 (by decide)
    have g7 := g 7 (by decide)
    have g8 := g 8 (by decide)
    have g9 := g 9 (by decide)
    have g10 := g 10 (by decide)
    have g11 := g 11 (by decide)
    have g12 := g 12 (by decide)
    have g13 := g 13 (by decide)
    have g14 := g 14 (by decide)
    have g15 := g 15 (by decide)
    have g16 := g 16 (by decide)
    simp [loL, hiL, cfL] at g0 g1 g2 g3 g4 g5 g6 g7 g8 g9 g10 g11 g12 g13 g14 g15 g16
    unfold cfgOk
    simp
    omega
theorem check_ok (c : Cfg) : (checkV c == 0) = cfgOk c := by
  cases h : cfgOk c with
  | true => rw [checkV_good h]; rfl
  | false => rw [checkV_bad h]; rfl
theorem good_no {c : Cfg} {i : Nat} (hi : i < 17) (h : ((decide ((cfL c).getD i 0 < loL.getD i 0)) || (decide (hiL.getD i 0 < (cfL c).getD i 0))) = true) : false = (checkV c == 0) := by
  rw [check_ok]
  cases hc : cfgOk c with
  | false => rfl
  | true =>
    have := (cfg_iff c).1 hc i hi
    simp at h
    simp at this
    omega
theorem good_yes {c : Cfg} (h : ∀ k, k < 17 → loL.getD k 0 ≤ (cfL c).getD k 0 ∧ (cfL c).getD k 0 ≤ hiL.getD k 0) : true = (checkV c == 0) := by
  rw [check_ok, (cfg_iff c).2 h]
theorem good_step {c : Cfg} {i : Nat} (h : ∀ k, k < i → loL.getD k 0 ≤ (cfL c).getD k 0 ∧ (cfL c).getD k 0 ≤ hiL.getD k 0) (q1 : decide ((cfL c).getD i 0 < loL.getD i 0) = false) (q2 : decide (hiL.getD i 0 < (cfL c).getD i 0) = false) :
    ∀ k, k < i + 1 → loL.getD k 0 ≤ (cfL c).getD k 0 ∧ (cfL c).getD k 0 ≤ hiL.getD k 0 := fun k hk => by
  rcases Nat.lt_or_ge k i with h1 | h1
  · exact h k h1
  · obtain rfl : k = i := by omega
    have := of_decide_eq_false q1
    have := of_decide_eq_false q2
    omega
def floR (c : Cfg) (n : Int) : Bool := decide (0 < n) && decide (n ≤ c.floors)
def isR (c : Cfg) (x : CallV) : Bool :=
  bif x.kind == 1 then ((decide (0 < x.src) && decide (x.src < c.floors)) && (x.dst == 0)) && (x.car == 0)
  else bif x.kind == 2 then ((decide (1 < x.src) && decide (x.src ≤ c.floors)) && (x.dst == 0)) && (x.car == 0)
  else bif x.kind == 3 then (((x.src == 0) && floR c x.dst) && decide (0 < x.car)) && decide (x.car ≤ c.cars)
  else bif x.kind == 4 then ((floR c x.src && floR c x.dst) && (x.src != x.dst)) && (x.car == 0)
  else false
def chkR (c : Cfg) (x : CallV) : Int := bif !(checkV c == 0) then 3 else bif (((x.id != 0) || (x.state != 0)) || (x.owner != 0)) || (x.born != 0) then 1 else bif !(isR c x) then 1 else 0
theorem is_ask {c : Cfg} (x : CallV) (h : checkV c = 0) : isR c x = askV c x := by
  unfold isR askV
  rcases Bool.eq_false_or_eq_true (x.kind == 1) with k1 | k1 <;> simp only [k1, cond_true, cond_false]
  · have k1' : x.kind = 1 := by simpa using k1
    rw [if_pos k1', Bool.eq_iff_iff]
    simp [floorV, h]
    omega
  have k1' : ¬ x.kind = 1 := by simpa using k1
  rw [if_neg k1']
  rcases Bool.eq_false_or_eq_true (x.kind == 2) with k1 | k1 <;> simp only [k1, cond_true, cond_false]
  · have k1' : x.kind = 2 := by simpa using k1
    rw [if_pos k1', Bool.eq_iff_iff]
    simp [floorV, h]
    omega
  have k1' : ¬ x.kind = 2 := by simpa using k1
  rw [if_neg k1']
  rcases Bool.eq_false_or_eq_true (x.kind == 3) with k1 | k1 <;> simp only [k1, cond_true, cond_false]
  · have k1' : x.kind = 3 := by simpa using k1
    rw [if_pos k1', Bool.eq_iff_iff]
    simp [floorV, carV, floR, h]
    omega
  have k1' : ¬ x.kind = 3 := by simpa using k1
  rw [if_neg k1']
  rcases Bool.eq_false_or_eq_true (x.kind == 4) with k1 | k1 <;> simp only [k1, cond_true, cond_false]
  · have k1' : x.kind = 4 := by simpa using k1
    rw [if_pos k1', Bool.eq_iff_iff]
    simp [floorV, floR, h]
    omega
  have k1' : ¬ x.kind = 4 := by simpa using k1
  rw [if_neg k1']
theorem check_all (c : Cfg) : checkV c = 0 ∨ checkV c = 3 := by
  unfold checkV
  split <;> simp
theorem chk_is (c : Cfg) (x : CallV) : chkR c x = checkCallV c x := by
  unfold chkR checkCallV
  rcases check_all c with h | h
  · rw [is_ask x h, h]
    simp only [show ((0 : Int) == 0) = true from rfl, Bool.not_true, cond_false, show ((0 : Int) != 0) = false from rfl]
    cases ((((x.id != 0) || (x.state != 0)) || (x.owner != 0)) || (x.born != 0)) <;> cases askV c x <;> simp
  · rw [h]; rfl
def endsV (x : CallV) (how : Int) : CallV × Int :=
  bif how == 1 then (bif (x.state == 2) && (x.kind == 4) then (⟨x.id, x.kind, x.src, x.dst, x.car, 3, x.owner, x.born⟩, 0) else (zeroC, 7))
  else bif how == 2 then (bif (x.state == 3) || ((x.state == 2) && !(x.kind == 4)) then (⟨x.id, x.kind, x.src, x.dst, x.car, 4, x.owner, x.born⟩, 0) else (zeroC, 7))
  else bif how == 3 then (bif (x.state == 1) || (x.state == 2) then (⟨x.id, x.kind, x.src, x.dst, x.car, 5, x.owner, x.born⟩, 0) else (zeroC, 7))
  else bif how == 4 then (bif x.state == 1 then (freeV x 6, 0) else (zeroC, 7))
  else (zeroC, 7)
def asgR (c : Cfg) (x : CallV) (n : Int) : CallV × Int :=
  bif x.state != 1 then (zeroC, 7)
  else bif (((!(checkV c == 0)) || decide (n < 1)) || decide (c.cars < n)) || ((x.kind == 3) && (n != x.car)) then (zeroC, 1)
  else (⟨x.id, x.kind, x.src, x.dst, n, 2, x.owner, x.born⟩, 0)
theorem asg_is (c : Cfg) (x : CallV) (n : Int) : asgR c x n = assignV c x n := by
  unfold asgR assignV
  have e : ((((!(checkV c == 0)) || decide (n < 1)) || decide (c.cars < n)) || ((x.kind == 3) && (n != x.car))) = ((!(carV c n)) || ((x.kind == 3) && (x.car != n))) := by
    have e2 : (n != x.car) = (x.car != n) := by rw [Bool.eq_iff_iff]; simp; omega
    rw [e2]
    congr 1
    rw [Bool.eq_iff_iff]
    unfold carV
    rcases check_all c with h | h <;> rw [h] <;> simp <;> omega
  rw [e]
  rfl
def lvR (c : Cfg) (x : CallV) (n : Int) : CallV × Int :=
  bif (x.state != 2) && (x.state != 3) then (zeroC, 7)
  else bif (!(checkV c == 0)) || !(floR c n) then (zeroC, 1)
  else bif x.state == 3 then (bif x.dst == n then (⟨x.id, x.kind, x.src, x.dst, x.car, 4, x.owner, x.born⟩, 0) else (freeV ⟨x.id, x.kind, n, x.dst, x.car, x.state, x.owner, x.born⟩ 1, 0))
  else (freeV x 1, 0)
theorem lv_is (c : Cfg) (x : CallV) (n : Int) : lvR c x n = leaveV c x n := by
  unfold lvR leaveV
  have e : ((!(checkV c == 0)) || !(floR c n)) = !(floorV c n) := by
    rw [Bool.eq_iff_iff]
    unfold floorV floR
    rcases check_all c with h | h <;> rw [h] <;> simp <;> omega
  rw [e]
  by_cases h2 : x.state = 2
  · rw [h2]; rfl
  · have h2' : (x.state == 2) = false := by simpa using h2
    by_cases h3 : x.state = 3
    · rw [h3]; rfl
    · have h3' : (x.state == 3) = false := by simpa using h3
      simp only [bne, h2', h3', Bool.not_false, Bool.and_true, cond_true]
      rfl
theorem ty_17_int : TyI Try.prog 109 17 true [.int .i64 0, .int .i64 0, .int .i64 0, .int .i64 0, .int .i64 0, .int .i64 0, .int .i64 0, .int .i64 0, .int .i64 0, .int .i64 0, .int .i64 0, .int .i64 0, .int .i64 0, .int .i64 0, .int .i64 0, .int .i64 0, .int .i64 0] := ⟨by kernel_rfl, by kernel_rfl, by kernel_rfl⟩
def tab_listR7 : Wk.Tab := [(24, 0, 0), (24, 1, 1), (24, 2, 2), (24, 3, 3), (24, 4, 4), (24, 5, 5), (24, 6, 6), (24, 7, 7), (24, 8, 8), (24, 9, 9), (24, 10, 10), (24, 11, 11), (24, 12, 12), (24, 13, 13), (24, 14, 14), (24, 15, 15), (24, 16, 16)]
theorem p_listR7 {ops : Array Oper} {rest : List Oper} {o : Oper} {w0 : World} {Q : Exit → Act → World → Prop} {S : List Nat} {R : List Res} {K K' : Wk.Env} {N : Nat} (h : Wk.stp tab_listR7 N ops K o = some K') (n : Wk.Wk N S w0 K' R (wpList Try.prog ops Q rest)) : Wk.Wk N S w0 K R (wpList Try.prog ops Q (o :: rest)) := Wk.wP (T := tab_listR7) (by kernel_rfl) h n
set_option maxHeartbeats 16000000 in
set_option maxRecDepth 20000 in
theorem listR7 (c : Cfg) (w : World) : Calls Try.prog 60 #[.agg (cA c)] w fun e w' => e = .returned (.agg #[.int .i64 c.floors, .int .i64 c.cars, .int .i64 c.seats, .int .i64 c.calls, .int .i64 c.lines, .int .i64 c.keys, .int .i64 c.window, .int .i64 c.burst, .int .i64 c.rate, .int .i64 c.idle, .int .i64 c.inn, .int .i64 c.out, .int .i64 c.feed, .int .i64 c.retries, .int .i64 c.life, .int .i64 c.door, .int .i64 c.holds]) ∧ Off [] w w' := by
 have H := Lib.hid (Hp.start [] w)
 refine wStart (args := [.agg (cA c)]) Try.func60 rfl rfl rfl H ?_
 clear H
 show Wk 38 _ _ [(0, .agg (cA c))] _ _
 refine wSeqK fun KK1 hK1 => ?_
 refine wReg ?_
 refine wBx rfl rfl rfl fun b1 => ?_
 refine wAl rfl rfl ty_17_int fun b2 => ?_
 refine wN ?_
 refine tN (wKK hK1 ?_)
 refine wSeqK fun KK2 hK2 => ?_
 refine wReg ?_
 refine p_listR7 rfl ?_
 refine wLd rfl tyint 1 rfl rfl ?_
 refine p_listR7 rfl ?_
 refine wLd rfl tyint 1 rfl rfl ?_
 refine p_listR7 rfl ?_
 refine wLd rfl tyint 1 rfl rfl ?_
 refine p_listR7 rfl ?_
 refine wLd rfl tyint 1 rfl rfl ?_
 refine p_listR7 rfl ?_
 refine wLd rfl tyint 1 rfl rfl ?_
 refine p_listR7 rfl ?_
 refine wLd rfl tyint 1 rfl rfl ?_
 refine p_listR7 rfl ?_
 refine wLd rfl tyint 1 rfl rfl ?_
 refine p_listR7 rfl ?_
 refine wLd rfl tyint 1 rfl rfl ?_
 refine p_listR7 rfl ?_
 refine wLd rfl tyint 1 rfl rfl ?_
 refine p_listR7 rfl ?_
 refine wLd rfl tyint 1 rfl rfl ?_
 refine p_listR7 rfl ?_
 refine wLd rfl tyint 1 rfl rfl ?_
 refine p_listR7 rfl ?_
 refine wLd rfl tyint 1 rfl rfl ?_
 refine p_listR7 rfl ?_
 refine wLd rfl tyint 1 rfl rfl ?_
 refine p_listR7 rfl ?_
 refine wLd rfl tyint 1 rfl rfl ?_
 refine p_listR7 rfl ?_
 refine wLd rfl tyint 1 rfl rfl ?_
 refine p_listR7 rfl ?_
 refine wLd rfl tyint 1 rfl rfl ?_
 refine p_listR7 rfl ?_
 refine wLd rfl tyint 1 rfl rfl ?_
 refine wE (.agg #[.int .i64 c.floors, .int .i64 c.cars, .int .i64 c.seats, .int .i64 c.calls, .int .i64 c.lines, .int .i64 c.keys, .int .i64 c.window, .int .i64 c.burst, .int .i64 c.rate, .int .i64 c.idle, .int .i64 c.inn, .int .i64 c.out, .int .i64 c.feed, .int .i64 c.retries, .int .i64 c.life, .int .i64 c.door, .int .i64 c.holds]) rfl rfl rfl (fun aa ww hs _ => by have e4 := hs 4 _ rfl; have g4 := gt_of e4; have e6 := hs 6 _ rfl; have g6 := gt_of e6; have e8 := hs 8 _ rfl; have g8 := gt_of e8; have e10 := hs 10 _ rfl; have g10 := gt_of e10; have e12 := hs 12 _ rfl; have g12 := gt_of e12; have e14 := hs 14 _ rfl; have g14 := gt_of e14; have e16 := hs 16 _ rfl; have g16 := gt_of e16; have e18 := hs 18 _ rfl; have g18 := gt_of e18; have e20 := hs 20 _ rfl; have g20 := gt_of e20; have e22 := hs 22 _ rfl; have g22 := gt_of e22; have e24 := hs 24 _ rfl; have g24 := gt_of e24; have e26 := hs 26 _ rfl; have g26 := gt_of e26; have e28 := hs 28 _ rfl; have g28 := gt_of e28; have e30 := hs 30 _ rfl; have g30 := gt_of e30; have e32 := hs 32 _ rfl; have g32 := gt_of e32; have e34 := hs 34 _ rfl; have g34 := gt_of e34; have e36 := hs 36 _ rfl; have g36 := gt_of e36; simp only [execOp]; go_simp <;> first | rfl | omega) ?_
 refine wSr rfl ty_17_int 0 rfl rfl rfl rfl [.int .i64 c.floors, .int .i64 c.cars, .int .i64 c.seats, .int .i64 c.calls, .int .i64 c.lines, .int .i64 c.keys, .int .i64 c.window, .int .i64 c.burst, .int .i64 c.rate, .int .i64 c.idle, .int .i64 c.inn, .int .i64 c.out, .int .i64 c.feed, .int .i64 c.retries, .int .i64 c.life, .int .i64 c.door, .int .i64 c.holds] (by first | rfl | (simp only [spl]; rfl)) ?_
 refine wN ?_
 refine tN (wKK hK2 ?_)
 refine wRet ?_
 exact wRc ty_17_int rfl rfl 0 rfl rfl (fun ww H => ⟨rfl, H.out.off⟩)
def tab_goodR : Wk.Tab := []
theorem p_goodR {ops : Array Oper} {rest : List Oper} {o : Oper} {w0 : World} {Q : Exit → Act → World → Prop} {S : List Nat} {R : List Res} {K K' : Wk.Env} {N : Nat} (h : Wk.stp tab_goodR N ops K o = some K') (n : Wk.Wk N S w0 K' R (wpList Try.prog ops Q rest)) : Wk.Wk N S w0 K R (wpList Try.prog ops Q (o :: rest)) := Wk.wP (T := tab_goodR) (by kernel_rfl) h n
set_option maxRecDepth 20000 in
theorem goodR_r7 (c : Cfg) (b1 : Nat) (b3 : Nat) (b4 : Nat) (b5 : Nat) (i : Nat) (hi : i ≤ 17) (z1d : (i : Int) < 17) {wa wb : World} (H : Hid (Hp [] wa wb [rB b5 109 [.int .i64 c.floors, .int .i64 c.cars, .int .i64 c.seats, .int .i64 c.calls, .int .i64 c.lines, .int .i64 c.keys, .int .i64 c.window, .int .i64 c.burst, .int .i64 c.rate, .int .i64 c.idle, .int .i64 c.inn, .int .i64 c.out, .int .i64 c.feed, .int .i64 c.retries, .int .i64 c.life, .int .i64 c.door, .int .i64 c.holds], rB b4 109 [.int .i64 32, .int .i64 4, .int .i64 8, .int .i64 64, .int .i64 8, .int .i64 64, .int .i64 65536, .int .i64 1024, .int .i64 1024, .int .i64 65536, .int .i64 16, .int .i64 16, .int .i64 64, .int .i64 8, .int .i64 1048576, .int .i64 4, .int .i64 4], rB b3 109 [.int .i64 2, .int .i64 1, .int .i64 1, .int .i64 1, .int .i64 1, .int .i64 1, .int .i64 1, .int .i64 1, .int .i64 1, .int .i64 1, .int .i64 1, .int .i64 1, .int .i64 1, .int .i64 0, .int .i64 0, .int .i64 1, .int .i64 0], rB b1 24 (cL c)])) (ac0 : Act) (hz : ac0.tmps.size = 31) (so3 : ac0.eval (.tmp 3) = .pointer (some ⟨b3, 0, none⟩)) (so4 : ac0.eval (.tmp 4) = .pointer (some ⟨b4, 0, none⟩)) (so5 : ac0.eval (.tmp 5) = .pointer (some ⟨b5, 0, none⟩)) (so6 : ac0.eval (.tmp 6) = .int .i64 i) {QR : Exit → Act → World → Prop} (hfin : ∀ (ac1 : Act) (wz : World), ac1.tmps.size = 31 → ac1.defers = ac0.defers → (∀ t, ([15, 16, 17, 18, 19, 20, 21, 22, 23, 24, 25, 26, 27, 28, 29, 30] : List Nat).contains t = false → ac1.eval (.tmp t) = ac0.eval (.tmp t)) → ac1.eval (.tmp 30) = .bool ((decide (((cfL c).getD i 0) < (loL.getD i 0))) || (decide ((hiL.getD i 0) < ((cfL c).getD i 0)))) →  Hid (Hp [] wa wz [rB b5 109 [.int .i64 c.floors, .int .i64 c.cars, .int .i64 c.seats, .int .i64 c.calls, .int .i64 c.lines, .int .i64 c.keys, .int .i64 c.window, .int .i64 c.burst, .int .i64 c.rate, .int .i64 c.idle, .int .i64 c.inn, .int .i64 c.out, .int .i64 c.feed, .int .i64 c.retries, .int .i64 c.life, .int .i64 c.door, .int .i64 c.holds], rB b4 109 [.int .i64 32, .int .i64 4, .int .i64 8, .int .i64 64, .int .i64 8, .int .i64 64, .int .i64 65536, .int .i64 1024, .int .i64 1024, .int .i64 65536, .int .i64 16, .int .i64 16, .int .i64 64, .int .i64 8, .int .i64 1048576, .int .i64 4, .int .i64 4], rB b3 109 [.int .i64 2, .int .i64 1, .int .i64 1, .int .i64 1, .int .i64 1, .int .i64 1, .int .i64 1, .int .i64 1, .int .i64 1, .int .i64 1, .int .i64 1, .int .i64 1, .int .i64 1, .int .i64 0, .int .i64 0, .int .i64 1, .int .i64 0], rB b1 24 (cL c)]) → QR .normal ac1 wz) : (regAt Try.f30 7).wp Try.prog QR ac0 wb := by
  refine wp_region_st mixedP ⟨[0, 1, 2, 0, 1, 2, 3, 4, 5, 6, 7, 5, 6, 7, 8, 9], by kernel_rfl⟩ [[], [0], [0, 1], [], [3], [3, 4], [0, 1, 2, 3, 4, 5], [0, 1, 2, 3, 4, 5, 6], [0, 1, 2, 3, 4, 5, 6, 7], [0, 1, 2, 3, 4, 5, 6, 7, 8], [0, 1, 2, 3, 4, 5, 6, 7, 8, 9], [0, 1, 2, 3, 4, 5, 6, 7], [0, 1, 2, 3, 4, 5, 6, 7, 11], [0, 1, 2, 3, 4, 5, 6, 7, 11, 12], [0, 1, 2, 3, 4, 5, 6, 7, 8, 9, 10, 11, 12, 13], [0, 1, 2, 3, 4, 5, 6, 7, 8, 9, 10, 11, 12, 13, 14]] (by kernel_rfl) (by kernel_rfl) 31 hz (by kernel_rfl) (fun (xx : Unit) jx => nth [.int .i64 i, .pointer (some ⟨b5, i, none⟩), .int .i64 ((cfL c).getD i 0), .int .i64 i, .pointer (some ⟨b3, i, none⟩), .int .i64 (loL.getD i 0), .bool (decide (((cfL c).getD i 0) < (loL.getD i 0))), .bool (decide (((cfL c).getD i 0) < (loL.getD i 0))), bif !(decide (((cfL c).getD i 0) < (loL.getD i 0))) then .int .i64 i else undef, bif !(decide (((cfL c).getD i 0) < (loL.getD i 0))) then .pointer (some ⟨b5, i, none⟩) else undef, bif !(decide (((cfL c).getD i 0) < (loL.getD i 0))) then .int .i64 ((cfL c).getD i 0) else undef, bif !(decide (((cfL c).getD i 0) < (loL.getD i 0))) then .int .i64 i else undef, bif !(decide (((cfL c).getD i 0) < (loL.getD i 0))) then .pointer (some ⟨b4, i, none⟩) else undef, bif !(decide (((cfL c).getD i 0) < (loL.getD i 0))) then .int .i64 (hiL.getD i 0) else undef, bif !(decide (((cfL c).getD i 0) < (loL.getD i 0))) then .bool (decide ((hiL.getD i 0) < ((cfL c).getD i 0))) else undef, .bool ((decide (((cfL c).getD i 0) < (loL.getD i 0))) || (decide ((hiL.getD i 0) < ((cfL c).getD i 0))))] jx) (fun (LL : Nat → Bool) (xx : Unit) ww => Hp [] wa ww [rB b5 109 [.int .i64 c.floors, .int .i64 c.cars, .int .i64 c.seats, .int .i64 c.calls, .int .i64 c.lines, .int .i64 c.keys, .int .i64 c.window, .int .i64 c.burst, .int .i64 c.rate, .int .i64 c.idle, .int .i64 c.inn, .int .i64 c.out, .int .i64 c.feed, .int .i64 c.retries, .int .i64 c.life, .int .i64 c.door, .int .i64 c.holds], rB b4 109 [.int .i64 32, .int .i64 4, .int .i64 8, .int .i64 64, .int .i64 8, .int .i64 64, .int .i64 65536, .int .i64 1024, .int .i64 1024, .int .i64 65536, .int .i64 16, .int .i64 16, .int .i64 64, .int .i64 8, .int .i64 1048576, .int .i64 4, .int .i64 4], rB b3 109 [.int .i64 2, .int .i64 1, .int .i64 1, .int .i64 1, .int .i64 1, .int .i64 1, .int .i64 1, .int .i64 1, .int .i64 1, .int .i64 1, .int .i64 1, .int .i64 1, .int .i64 1, .int .i64 0, .int .i64 0, .int .i64 1, .int .i64 0], rB b1 24 (cL c)]) () H.out.drew ?_ (steps_al ?_) ?_ ?_
  · exact fun _ _ _ _ _ h => h
  · refine al_cons ?_ (al_cons ?_ (al_cons ?_ (al_cons ?_ (al_cons ?_ (al_cons ?_ (al_cons ?_ (al_cons ?_ (al_cons ?_ (al_cons ?_ (al_cons ?_ (al_cons ?_ (al_cons ?_ (al_cons ?_ (al_cons ?_ (al_cons ?_ (al_nil))))))))))))))))
    · intro LL xx ac wc sg hst hwant QQ hgo
      exact op_val hwant hgo hst _ (exec_move rfl ((sg.free 6 (by kernel_rfl)).trans so6)) rfl
    · intro LL xx ac wc sg hst hwant QQ hgo
      have se5 : ac.eval (.tmp 5) = _ := ((sg.free 5 (by kernel_rfl)).trans so5)
      have sg5 := gt_of se5
      have se15 : ac.eval (.tmp 15) = _ := (sg.slot 0 (sg.anc 0 rfl))
      have sg15 := gt_of se15
      (try simp only [nth] at se5 sg5 se15 sg15)
      exact op_val hwant hgo hst _ (by simp only [execOp, nth]; go_simp <;> omega) rfl
    · intro LL xx ac wc sg hst hwant QQ hgo
      have H := Lib.hid hst
      refine hpA_load1 tyint H rfl (sg.slot 1 (sg.anc 1 rfl)) hwant (by (repeat (first | exact List.Mem.head _ | apply List.Mem.tail))) (cell_of (cfL c) (i := i) (by simp [cfL, loL, hiL]; omega)) ?_
      exact hgo _ () _ (fun _ _ => rfl) rfl hst
    · intro LL xx ac wc sg hst hwant QQ hgo
      exact op_val hwant hgo hst _ (exec_move rfl ((sg.free 6 (by kernel_rfl)).trans so6)) rfl
    · intro LL xx ac wc sg hst hwant QQ hgo
      have se3 : ac.eval (.tmp 3) = _ := ((sg.free 3 (by kernel_rfl)).trans so3)
      have sg3 := gt_of se3
      have se18 : ac.eval (.tmp 18) = _ := (sg.slot 3 (sg.anc 3 rfl))
      have sg18 := gt_of se18
      (try simp only [nth] at se3 sg3 se18 sg18)
      exact op_val hwant hgo hst _ (by simp only [execOp, nth]; go_simp <;> omega) rfl
    · intro LL xx ac wc sg hst hwant QQ hgo
      have H := Lib.hid hst
      refine hpA_load1 tyint H rfl (sg.slot 4 (sg.anc 4 rfl)) hwant (by (repeat (first | exact List.Mem.head _ | apply List.Mem.tail))) (cell_of loL (i := i) (by simp [cfL, loL, hiL]; omega)) ?_
      exact hgo _ () _ (fun _ _ => rfl) rfl hst
    · intro LL xx ac wc sg hst hwant QQ hgo
      have se17 : ac.eval (.tmp 17) = _ := (sg.slot 2 (sg.anc 2 rfl))
      have sg17 := gt_of se17
      have se20 : ac.eval (.tmp 20) = _ := (sg.slot 5 (sg.anc 5 rfl))
      have sg20 := gt_of se20
      (try simp only [nth] at se17 sg17 se20 sg20)
      exact op_val hwant hgo hst _ (by simp only [execOp, nth]; go_simp <;> omega) rfl
    · intro LL xx ac wc sg hst hwant QQ hgo
      exact op_val hwant hgo hst _ (exec_move rfl (sg.slot 6 (sg.anc 6 rfl))) rfl
    · intro LL xx ac wc sg hst hwant QQ hgo
      have hG : (!(decide (((cfL c).getD i 0) < (loL.getD i 0)))) = true := (want_f rfl rfl (sg.slot 7 (sg.anc 7 rfl))).symm.trans hwant
      exact op_val hwant hgo hst _ (exec_move rfl ((sg.free 6 (by kernel_rfl)).trans so6)) (cI hG)
    · intro LL xx ac wc sg hst hwant QQ hgo
      have hG : (!(decide (((cfL c).getD i 0) < (loL.getD i 0)))) = true := (want_f rfl rfl (sg.slot 7 (sg.anc 7 rfl))).symm.trans hwant
      have se5 : ac.eval (.tmp 5) = _ := ((sg.free 5 (by kernel_rfl)).trans so5)
      have sg5 := gt_of se5
      have se23 : ac.eval (.tmp 23) = _ := (cT (sg.slot 8 (sg.anc 8 rfl)) hG)
      have sg23 := gt_of se23
      (try simp only [nth] at se5 sg5 se23 sg23)
      exact op_val hwant hgo hst _ (by simp only [execOp, nth]; go_simp <;> omega) (cI hG)
    · intro LL xx ac wc sg hst hwant QQ hgo
      have hG : (!(decide (((cfL c).getD i 0) < (loL.getD i 0)))) = true := (want_f rfl rfl (sg.slot 7 (sg.anc 7 rfl))).symm.trans hwant
      have H := Lib.hid hst
      refine hpA_load1 tyint H rfl (cT (sg.slot 9 (sg.anc 9 rfl)) hG) hwant (by (repeat (first | exact List.Mem.head _ | apply List.Mem.tail))) (cell_of (cfL c) (i := i) (by simp [cfL, loL, hiL]; omega)) ?_
      exact hgo _ () _ (fun _ _ => rfl) (cI hG) hst
    · intro LL xx ac wc sg hst hwant QQ hgo
      have hG : (!(decide (((cfL c).getD i 0) < (loL.getD i 0)))) = true := (want_f rfl rfl (sg.slot 7 (sg.anc 7 rfl))).symm.trans hwant
      exact op_val hwant hgo hst _ (exec_move rfl ((sg.free 6 (by kernel_rfl)).trans so6)) (cI hG)
    · intro LL xx ac wc sg hst hwant QQ hgo
      have hG : (!(decide (((cfL c).getD i 0) < (loL.getD i 0)))) = true := (want_f rfl rfl (sg.slot 7 (sg.anc 7 rfl))).symm.trans hwant
      have se4 : ac.eval (.tmp 4) = _ := ((sg.free 4 (by kernel_rfl)).trans so4)
      have sg4 := gt_of se4
      have se26 : ac.eval (.tmp 26) = _ := (cT (sg.slot 11 (sg.anc 11 rfl)) hG)
      have sg26 := gt_of se26
      (try simp only [nth] at se4 sg4 se26 sg26)
      exact op_val hwant hgo hst _ (by simp only [execOp, nth]; go_simp <;> omega) (cI hG)
    · intro LL xx ac wc sg hst hwant QQ hgo
      have hG : (!(decide (((cfL c).getD i 0) < (loL.getD i 0)))) = true := (want_f rfl rfl (sg.slot 7 (sg.anc 7 rfl))).symm.trans hwant
      have H := Lib.hid hst
      refine hpA_load1 tyint H rfl (cT (sg.slot 12 (sg.anc 12 rfl)) hG) hwant (by (repeat (first | exact List.Mem.head _ | apply List.Mem.tail))) (cell_of hiL (i := i) (by simp [cfL, loL, hiL]; omega)) ?_
      exact hgo _ () _ (fun _ _ => rfl) (cI hG) hst
    · intro LL xx ac wc sg hst hwant QQ hgo
      have hG : (!(decide (((cfL c).getD i 0) < (loL.getD i 0)))) = true := (want_f rfl rfl (sg.slot 7 (sg.anc 7 rfl))).symm.trans hwant
      have se25 : ac.eval (.tmp 25) = _ := (cT (sg.slot 10 (sg.anc 10 rfl)) hG)
      have sg25 := gt_of se25
      have se28 : ac.eval (.tmp 28) = _ := (cT (sg.slot 13 (sg.anc 13 rfl)) hG)
      have sg28 := gt_of se28
      (try simp only [nth] at se25 sg25 se28 sg28)
      exact op_val hwant hgo hst _ (by simp only [execOp, nth]; go_simp <;> omega) (cI hG)
    · intro LL xx ac wc sg hst hwant QQ hgo
      exact op_val hwant hgo hst (.bool ((decide (((cfL c).getD i 0) < (loL.getD i 0))) || (decide ((hiL.getD i 0) < ((cfL c).getD i 0))))) (exec_or (Y := decide ((hiL.getD i 0) < ((cfL c).getD i 0))) rfl (sg.slot 7 (sg.anc 7 rfl)) (fun qq => cT (sg.slot 14 (sg.anc 14 rfl)) (bk qq))) rfl
  · refine skips [8, 9, 10, 11, 12, 13, 14] (by kernel_rfl) ?_
    refine List.forall_mem_cons.2 ⟨?_, List.forall_mem_cons.2 ⟨?_, List.forall_mem_cons.2 ⟨?_, List.forall_mem_cons.2 ⟨?_, List.forall_mem_cons.2 ⟨?_, List.forall_mem_cons.2 ⟨?_, List.forall_mem_cons.2 ⟨?_, fun _ h => by cases h⟩⟩⟩⟩⟩⟩⟩
    · intro oo hop LL xx ac sg hwant
      cases Option.some.inj hop
      have hG : (!(decide (((cfL c).getD i 0) < (loL.getD i 0)))) = false := (want_f rfl rfl (sg.slot 7 (sg.anc 7 rfl))).symm.trans hwant
      exact ⟨cF hG, fun _ h => h⟩
    · intro oo hop LL xx ac sg hwant
      cases Option.some.inj hop
      have hG : (!(decide (((cfL c).getD i 0) < (loL.getD i 0)))) = false := (want_f rfl rfl (sg.slot 7 (sg.anc 7 rfl))).symm.trans hwant
      exact ⟨cF hG, fun _ h => h⟩
    · intro oo hop LL xx ac sg hwant
      cases Option.some.inj hop
      have hG : (!(decide (((cfL c).getD i 0) < (loL.getD i 0)))) = false := (want_f rfl rfl (sg.slot 7 (sg.anc 7 rfl))).symm.trans hwant
      exact ⟨cF hG, fun _ h => h⟩
    · intro oo hop LL xx ac sg hwant
      cases Option.some.inj hop
      have hG : (!(decide (((cfL c).getD i 0) < (loL.getD i 0)))) = false := (want_f rfl rfl (sg.slot 7 (sg.anc 7 rfl))).symm.trans hwant
      exact ⟨cF hG, fun _ h => h⟩
    · intro oo hop LL xx ac sg hwant
      cases Option.some.inj hop
      have hG : (!(decide (((cfL c).getD i 0) < (loL.getD i 0)))) = false := (want_f rfl rfl (sg.slot 7 (sg.anc 7 rfl))).symm.trans hwant
      exact ⟨cF hG, fun _ h => h⟩
    · intro oo hop LL xx ac sg hwant
      cases Option.some.inj hop
      have hG : (!(decide (((cfL c).getD i 0) < (loL.getD i 0)))) = false := (want_f rfl rfl (sg.slot 7 (sg.anc 7 rfl))).symm.trans hwant
      exact ⟨cF hG, fun _ h => h⟩
    · intro oo hop LL xx ac sg hwant
      cases Option.some.inj hop
      have hG : (!(decide (((cfL c).getD i 0) < (loL.getD i 0)))) = false := (want_f rfl rfl (sg.slot 7 (sg.anc 7 rfl))).symm.trans hwant
      exact ⟨cF hG, fun _ h => h⟩
  · intro xx ac1 wz hfr hsl hst
    exact hfin ac1 wz (hfr.size.trans hz) hfr.defers (fr_keep hfr [15, 16, 17, 18, 19, 20, 21, 22, 23, 24, 25, 26, 27, 28, 29, 30] (by kernel_rfl)) (hsl 15 (by decide)) (Lib.hid hst)
set_option maxHeartbeats 16000000 in
set_option maxRecDepth 20000 in
theorem goodR (c : Cfg) (w : World) : Calls Try.prog 30 #[.agg (cA c)] w fun e w' => e = .returned (.bool (checkV c == 0)) ∧ Off [] w w' := by
 have H := Lib.hid (Hp.start [] w)
 refine wStart (args := [.agg (cA c)]) Try.func30 rfl rfl rfl H ?_
 clear H
 show Wk 31 _ _ [(0, .agg (cA c))] _ _
 refine wSeqK fun KK1 hK1 => ?_
 refine wReg ?_
 refine wBx rfl rfl rfl fun b1 => ?_
 refine p_goodR rfl ?_
 refine wN ?_
 refine tN (wKK hK1 ?_)
 refine wSeqK fun KK2 hK2 => ?_
 refine wReg ?_
 refine wE (.agg #[.int .i64 2, .int .i64 1, .int .i64 1, .int .i64 1, .int .i64 1, .int .i64 1, .int .i64 1, .int .i64 1, .int .i64 1, .int .i64 1, .int .i64 1, .int .i64 1, .int .i64 1, .int .i64 0, .int .i64 0, .int .i64 1, .int .i64 0]) rfl rfl rfl (fun aa ww hs _ => by simp only [execOp]; go_simp <;> first | rfl | omega) ?_
 refine wAl rfl rfl ty_17_int fun b3 => ?_
 refine wSr rfl ty_17_int 0 rfl rfl rfl rfl [.int .i64 2, .int .i64 1, .int .i64 1, .int .i64 1, .int .i64 1, .int .i64 1, .int .i64 1, .int .i64 1, .int .i64 1, .int .i64 1, .int .i64 1, .int .i64 1, .int .i64 1, .int .i64 0, .int .i64 0, .int .i64 1, .int .i64 0] (by first | rfl | (simp only [spl]; rfl)) ?_
 refine wN ?_
 refine tN (wKK hK2 ?_)
 refine wSeqK fun KK3 hK3 => ?_
 refine wReg ?_
 refine wE (.agg #[.int .i64 32, .int .i64 4, .int .i64 8, .int .i64 64, .int .i64 8, .int .i64 64, .int .i64 65536, .int .i64 1024, .int .i64 1024, .int .i64 65536, .int .i64 16, .int .i64 16, .int .i64 64, .int .i64 8, .int .i64 1048576, .int .i64 4, .int .i64 4]) rfl rfl rfl (fun aa ww hs _ => by simp only [execOp]; go_simp <;> first | rfl | omega) ?_
 refine wAl rfl rfl ty_17_int fun b4 => ?_
 refine wSr rfl ty_17_int 0 rfl rfl rfl rfl [.int .i64 32, .int .i64 4, .int .i64 8, .int .i64 64, .int .i64 8, .int .i64 64, .int .i64 65536, .int .i64 1024, .int .i64 1024, .int .i64 65536, .int .i64 16, .int .i64 16, .int .i64 64, .int .i64 8, .int .i64 1048576, .int .i64 4, .int .i64 4] (by first | rfl | (simp only [spl]; rfl)) ?_
 refine wN ?_
 refine tN (wKK hK3 ?_)
 refine wSeqK fun KK4 hK4 => ?_
 refine wReg ?_
 refine wLr rfl tyapi_Config 2 rfl (cL c) rfl rfl ?_
 refine wQ (l := [.agg (cA c)]) Try.func60 rfl (by kernel_rfl) (.agg #[.int .i64 c.floors, .int .i64 c.cars, .int .i64 c.seats, .int .i64 c.calls, .int .i64 c.lines, .int .i64 c.keys, .int .i64 c.window, .int .i64 c.burst, .int .i64 c.rate, .int .i64 c.idle, .int .i64 c.inn, .int .i64 c.out, .int .i64 c.feed, .int .i64 c.retries, .int .i64 c.life, .int .i64 c.door, .int .i64 c.holds]) (fun wc H => listR7 c wc) rfl rfl rfl rfl ?_
 refine wAl rfl rfl ty_17_int fun b5 => ?_
 refine wSr rfl ty_17_int 0 rfl rfl rfl rfl [.int .i64 c.floors, .int .i64 c.cars, .int .i64 c.seats, .int .i64 c.calls, .int .i64 c.lines, .int .i64 c.keys, .int .i64 c.window, .int .i64 c.burst, .int .i64 c.rate, .int .i64 c.idle, .int .i64 c.inn, .int .i64 c.out, .int .i64 c.feed, .int .i64 c.retries, .int .i64 c.life, .int .i64 c.door, .int .i64 c.holds] (by first | rfl | (simp only [spl]; rfl)) ?_
 refine wN ?_
 refine tN (wKK hK4 ?_)
 refine wSeqK fun KK5 hK5 => ?_
 refine wSeqK fun KK6 hK6 => ?_
 refine wReg ?_
 refine p_goodR rfl ?_
 refine wN ?_
 refine tN (wKK hK6 ?_)
 refine wBlk ?_
 refine wLoop (fun ab wv => ∃ i : Nat, (i ≤ 17) ∧ (Hid (∀ k, k < i → loL.getD k 0 ≤ (cfL c).getD k 0 ∧ (cfL c).getD k 0 ≤ hiL.getD k 0)) ∧ ab.tmps.size = 31 ∧ ab.defers = [] ∧ Sat [(0, .agg (cA c)), (1, .pointer (some ⟨b1, 0, none⟩)), (3, .pointer (some ⟨b3, 0, none⟩)), (4, .pointer (some ⟨b4, 0, none⟩)), (5, .pointer (some ⟨b5, 0, none⟩)), (6, .int .i64 i)] ab ∧ Hid (Hp [] w wv [rB b5 109 [.int .i64 c.floors, .int .i64 c.cars, .int .i64 c.seats, .int .i64 c.calls, .int .i64 c.lines, .int .i64 c.keys, .int .i64 c.window, .int .i64 c.burst, .int .i64 c.rate, .int .i64 c.idle, .int .i64 c.inn, .int .i64 c.out, .int .i64 c.feed, .int .i64 c.retries, .int .i64 c.life, .int .i64 c.door, .int .i64 c.holds], rB b4 109 [.int .i64 32, .int .i64 4, .int .i64 8, .int .i64 64, .int .i64 8, .int .i64 64, .int .i64 65536, .int .i64 1024, .int .i64 1024, .int .i64 65536, .int .i64 16, .int .i64 16, .int .i64 64, .int .i64 8, .int .i64 1048576, .int .i64 4, .int .i64 4], rB b3 109 [.int .i64 2, .int .i64 1, .int .i64 1, .int .i64 1, .int .i64 1, .int .i64 1, .int .i64 1, .int .i64 1, .int .i64 1, .int .i64 1, .int .i64 1, .int .i64 1, .int .i64 1, .int .i64 0, .int .i64 0, .int .i64 1, .int .i64 0], rB b1 24 (cL c)])) (fun ab _ => 17 - (intOf (ab.eval (.tmp 6))).toNat) (fun aa ww nn dd hs H => ⟨0, (by omega), (Lib.hid (fun k hk => absurd hk (by omega))), nn, dd, (sat_sub ⟨rfl, rfl, rfl, rfl, rfl, rfl, trivial⟩ hs), H⟩) ?_
 rintro a1 wv ⟨i, hi, hr, nn, dd, hs, H⟩
 have mu1_6 := hs 6 _ rfl
 refine wIn nn dd hs H ?_
 clear nn dd hs H
 refine wSeqK fun KK7 hK7 => ?_
 refine wSeqK fun KK8 hK8 => ?_
 refine wReg ?_
 iterate 2 refine p_goodR rfl ?_
 refine wN ?_
 refine tN (wKK hK8 ?_)
 refine wCond (E := decide ((i : Int) < 17)) rfl (fun z1 => ?_) (fun z1 => ?_)
 · skip
   have z1d : (i : Int) < 17 := of_decide_eq_true z1
   refine wSk ?_
   refine tN (wKK hK7 ?_)
   refine wSeqK fun KK9 hK9 => ?_
   refine wBlk ?_
   refine wSeqK fun KK10 hK10 => ?_
   intro aa ww nn dd hs H
   refine goodR_r7 c b1 b3 b4 b5 i hi z1d H aa nn (hs 3 _ rfl) (hs 4 _ rfl) (hs 5 _ rfl) (hs 6 _ rfl) ?_
   intro ab wv nn2 dd2 kp o30 H2
   refine wIn nn2 (dd2.trans dd) (Sat.cons (Sat.cons (Sat.cons (Sat.cons (Sat.cons (Sat.cons (Sat.cons (Sat.cons (sat_nil ab) ((kp 12 rfl).trans (hs 12 _ rfl))) ((kp 6 rfl).trans (hs 6 _ rfl))) ((kp 5 rfl).trans (hs 5 _ rfl))) ((kp 4 rfl).trans (hs 4 _ rfl))) ((kp 3 rfl).trans (hs 3 _ rfl))) ((kp 1 rfl).trans (hs 1 _ rfl))) ((kp 0 rfl).trans (hs 0 _ rfl))) o30) H2 ?_
   clear hs H kp H2 dd dd2 nn nn2 o30
   refine tN (wKK hK10 ?_)
   refine wCond (E := (decide (((cfL c).getD i 0) < (loL.getD i 0))) || (decide ((hiL.getD i 0) < ((cfL c).getD i 0)))) rfl (fun z2 => ?_) (fun z2 => ?_)
   · skip
     refine wSeqK fun KK11 hK11 => ?_
     refine wReg ?_
     refine p_goodR rfl ?_
     refine wN ?_
     refine tN (wKK hK11 ?_)
     refine wRet ?_
     refine bR (tR (tR (bR (tR ?_))))
     exact wR1 rfl rfl (fun ww H => ⟨congrArg (fun z => Ending.returned (.bool z)) (good_no (by omega) z2), H.out.off⟩)
   · skip
     have z2l : (decide (((cfL c).getD i 0) < (loL.getD i 0))) = false := Reg.ol z2
     have z2ld : ¬ (((cfL c).getD i 0) < (loL.getD i 0)) := of_decide_eq_false z2l
     have z2r : (decide ((hiL.getD i 0) < ((cfL c).getD i 0))) = false := Reg.orr z2
     have z2rd : ¬ ((hiL.getD i 0) < ((cfL c).getD i 0)) := of_decide_eq_false z2r
     refine wSk ?_
     refine bN (tN (wKK hK9 ?_))
     refine wReg ?_
     iterate 2 refine p_goodR rfl ?_
     refine wI 14 rfl (IntWalk.i64_in _ (by omega)) ?_
     refine p_goodR rfl ?_
     refine wN ?_
     refine tN ?_
     intro aa ww nn dd hs H
     refine ⟨⟨i + 1, (by omega), (Lib.hid (good_step hr.out z2l z2r)), nn, dd, (sat_sub ⟨rfl, rfl, rfl, rfl, rfl, rfl, trivial⟩ hs), H⟩, ?_⟩
     have m6 := hs 6 _ rfl
     simp only [mu1_6, m6, intOf]
     omega
 · skip
   have z1d : ¬ ((i : Int) < 17) := of_decide_eq_false z1
   refine wEx ?_
   refine tX (tX (bX (tN (wKK hK5 ?_))))
   refine wSeqK fun KK12 hK12 => ?_
   refine wReg ?_
   refine p_goodR rfl ?_
   refine wN ?_
   refine tN (wKK hK12 ?_)
   refine wRet ?_
   exact wR1 rfl rfl (fun ww H => ⟨congrArg (fun z => Ending.returned (.bool z)) (good_yes (fun k hk => hr.out k (by omega))), H.out.off⟩)
def tab_floorR : Wk.Tab := [(24, 0, 0)]
theorem p_floorR {ops : Array Oper} {rest : List Oper} {o : Oper} {w0 : World} {Q : Exit → Act → World → Prop} {S : List Nat} {R : List Res} {K K' : Wk.Env} {N : Nat} (h : Wk.stp tab_floorR N ops K o = some K') (n : Wk.Wk N S w0 K' R (wpList Try.prog ops Q rest)) : Wk.Wk N S w0 K R (wpList Try.prog ops Q (o :: rest)) := Wk.wP (T := tab_floorR) (by kernel_rfl) h n
set_option maxHeartbeats 16000000 in
set_option maxRecDepth 20000 in
theorem floorR (c : Cfg) (n : Int) (w : World) : Calls Try.prog 76 #[.agg (cA c), .int .i64 n] w fun e w' => e = .returned (.bool (floR c n)) ∧ Off [] w w' := by
 have H := Lib.hid (Hp.start [] w)
 refine wStart (args := [.agg (cA c), .int .i64 n]) Try.func76 rfl rfl rfl H ?_
 clear H
 show Wk 13 _ _ [(0, .agg (cA c)), (1, .int .i64 n)] _ _
 refine wSeqK fun KK1 hK1 => ?_
 refine wReg ?_
 refine wBx rfl rfl rfl fun b2 => ?_
 refine p_floorR rfl ?_
 refine wN ?_
 refine tN (wKK hK1 ?_)
 refine wSeqK fun KK2 hK2 => ?_
 refine wReg ?_
 iterate 3 refine p_floorR rfl ?_
 refine wCut 5 [(12, .bool ((decide (0 < n)) && (decide (n ≤ c.floors)))), (0, .agg (cA c)), (1, .int .i64 n), (2, .pointer (some ⟨b2, 0, none⟩)), (4, .bool false)] ?_ ?_
 · intro KK hKK
   rcases Bool.eq_false_or_eq_true (decide (0 < n)) with u1 | u1
   · skip
     refine wB (c := true) 7 rfl u1 ?_
     iterate 2 refine p_floorR rfl ?_
     refine wLd rfl tyint 0 rfl rfl ?_
     refine p_floorR rfl ?_
     refine p_floorR rfl ?_
     refine wB (c := (decide (0 < n)) && (decide (n ≤ c.floors))) 12 rfl (by rw [u1]; rfl) ?_
     refine wN (tN ?_)
     exact fun aa ww nn dd hs H => hKK aa ww nn dd (sat_sub ⟨rfl, rfl, rfl, rfl, rfl, trivial⟩ hs) H
   · skip
     refine wB (c := false) 7 rfl u1 ?_
     iterate 4 refine p_floorR rfl ?_
     refine p_floorR rfl ?_
     refine wB (c := (decide (0 < n)) && (decide (n ≤ c.floors))) 12 rfl (by rw [u1]; rfl) ?_
     refine wN (tN ?_)
     exact fun aa ww nn dd hs H => hKK aa ww nn dd (sat_sub ⟨rfl, rfl, rfl, rfl, rfl, trivial⟩ hs) H
 refine p_floorR rfl ?_
 refine wN ?_
 refine tN (wKK hK2 ?_)
 refine wRet ?_
 exact wR1 rfl rfl (fun ww H => ⟨rfl, H.out.off⟩)
def tab_checkR : Wk.Tab := [(24, 0, 0), (24, 1, 1), (38, 0, 0), (38, 1, 1), (38, 2, 2), (38, 3, 3), (38, 4, 4), (38, 5, 5), (38, 6, 6), (38, 7, 7)]
theorem p_checkR {ops : Array Oper} {rest : List Oper} {o : Oper} {w0 : World} {Q : Exit → Act → World → Prop} {S : List Nat} {R : List Res} {K K' : Wk.Env} {N : Nat} (h : Wk.stp tab_checkR N ops K o = some K') (n : Wk.Wk N S w0 K' R (wpList Try.prog ops Q rest)) : Wk.Wk N S w0 K R (wpList Try.prog ops Q (o :: rest)) := Wk.wP (T := tab_checkR) (by kernel_rfl) h n
set_option maxHeartbeats 16000000 in
set_option maxRecDepth 20000 in
theorem checkR (c : Cfg) (x : CallV) (w : World) : Calls Try.prog 57 #[.agg (cA c), .agg (xA x)] w fun e w' => e = .returned (.int .i64 (checkCallV c x)) ∧ Off [] w w' := by
 have H := Lib.hid (Hp.start [] w)
 refine wStart (args := [.agg (cA c), .agg (xA x)]) Try.func57 rfl rfl rfl H ?_
 clear H
 show Wk 122 _ _ [(0, .agg (cA c)), (1, .agg (xA x))] _ _
 refine wSeqK fun KK1 hK1 => ?_
 refine wReg ?_
 refine wBx rfl rfl rfl fun b2 => ?_
 refine wBx rfl rfl rfl fun b3 => ?_
 refine p_checkR rfl ?_
 refine wN ?_
 refine tN (wKK hK1 ?_)
 refine wSeqK fun KK2 hK2 => ?_
 refine wSeqK fun KK3 hK3 => ?_
 refine wReg ?_
 refine wLr rfl tyapi_Config 1 rfl (cL c) rfl rfl ?_
 refine wQ (l := [.agg (cA c)]) Try.func30 rfl (by kernel_rfl) (.bool (checkV c == 0)) (fun wc H => goodR c wc) rfl rfl rfl rfl ?_
 refine p_checkR rfl ?_
 refine wN ?_
 refine tN (wKK hK3 ?_)
 refine wCond (E := !(checkV c == 0)) rfl (fun z1 => ?_) (fun z1 => ?_)
 · skip
   have z1n : (checkV c == 0) = false := Reg.bn z1
   have z1no : (checkV c != 0) = true := eqq_f z1n
   refine wSeqK fun KK4 hK4 => ?_
   refine wReg ?_
   refine p_checkR rfl ?_
   refine wN ?_
   refine tN (wKK hK4 ?_)
   refine wRet ?_
   refine tR ?_
   exact wR1 rfl rfl (fun ww H => ⟨by rw [← chk_is]; simp only [chkR, isR, z1, z1n, z1no, cond_true, cond_false, Bool.not_true, Bool.not_false, Bool.true_and, Bool.and_true, Bool.false_and, Bool.and_false, Bool.true_or, Bool.or_true, Bool.false_or, Bool.or_false], H.out.off⟩)
 · skip
   have z1n : (checkV c == 0) = true := Reg.bt z1
   have z1no : (checkV c != 0) = false := eqq_t z1n
   refine wSk ?_
   refine tN (wKK hK2 ?_)
   refine wSeqK fun KK5 hK5 => ?_
   refine wSeqK fun KK6 hK6 => ?_
   refine wReg ?_
   refine p_checkR rfl ?_
   refine wLd rfl tyint 0 rfl rfl ?_
   iterate 2 refine p_checkR rfl ?_
   refine wCut 4 [(16, .bool ((x.id != 0) || (x.state != 0))), (0, .agg (cA c)), (1, .agg (xA x)), (2, .pointer (some ⟨b2, 0, none⟩)), (3, .pointer (some ⟨b3, 0, none⟩)), (4, .int .i64 0), (8, .bool (!(checkV c == 0)))] ?_ ?_
   · intro KK hKK
     rcases Bool.eq_false_or_eq_true (x.id != 0) with u2 | u2
     · skip
       refine wB (c := true) 12 rfl u2 ?_
       iterate 3 refine p_checkR rfl ?_
       refine p_checkR rfl ?_
       refine wB (c := (x.id != 0) || (x.state != 0)) 16 rfl (by rw [u2]; rfl) ?_
       refine wN (tN ?_)
       exact fun aa ww nn dd hs H => hKK aa ww nn dd (sat_sub ⟨rfl, rfl, rfl, rfl, rfl, rfl, rfl, trivial⟩ hs) H
     · skip
       refine wB (c := false) 12 rfl u2 ?_
       refine p_checkR rfl ?_
       refine wLd rfl tyint 0 rfl rfl ?_
       refine p_checkR rfl ?_
       refine p_checkR rfl ?_
       refine wB (c := (x.id != 0) || (x.state != 0)) 16 rfl (by rw [u2]; rfl) ?_
       refine wN (tN ?_)
       exact fun aa ww nn dd hs H => hKK aa ww nn dd (sat_sub ⟨rfl, rfl, rfl, rfl, rfl, rfl, rfl, trivial⟩ hs) H
   refine p_checkR rfl ?_
   refine wCut 4 [(21, .bool (((x.id != 0) || (x.state != 0)) || (x.owner != 0))), (0, .agg (cA c)), (1, .agg (xA x)), (2, .pointer (some ⟨b2, 0, none⟩)), (3, .pointer (some ⟨b3, 0, none⟩)), (4, .int .i64 0), (8, .bool (!(checkV c == 0)))] ?_ ?_
   · intro KK hKK
     rcases Bool.eq_false_or_eq_true ((x.id != 0) || (x.state != 0)) with u3 | u3
     · skip
       refine wB (c := true) 17 rfl u3 ?_
       iterate 3 refine p_checkR rfl ?_
       refine p_checkR rfl ?_
       refine wB (c := ((x.id != 0) || (x.state != 0)) || (x.owner != 0)) 21 rfl (by rw [u3]; rfl) ?_
       refine wN (tN ?_)
       exact fun aa ww nn dd hs H => hKK aa ww nn dd (sat_sub ⟨rfl, rfl, rfl, rfl, rfl, rfl, rfl, trivial⟩ hs) H
     · skip
       refine wB (c := false) 17 rfl u3 ?_
       refine p_checkR rfl ?_
       refine wLd rfl tyint 0 rfl rfl ?_
       refine p_checkR rfl ?_
       refine p_checkR rfl ?_
       refine wB (c := ((x.id != 0) || (x.state != 0)) || (x.owner != 0)) 21 rfl (by rw [u3]; rfl) ?_
       refine wN (tN ?_)
       exact fun aa ww nn dd hs H => hKK aa ww nn dd (sat_sub ⟨rfl, rfl, rfl, rfl, rfl, rfl, rfl, trivial⟩ hs) H
   refine p_checkR rfl ?_
   refine wCut 4 [(26, .bool ((((x.id != 0) || (x.state != 0)) || (x.owner != 0)) || (x.born != 0))), (0, .agg (cA c)), (1, .agg (xA x)), (2, .pointer (some ⟨b2, 0, none⟩)), (3, .pointer (some ⟨b3, 0, none⟩)), (4, .int .i64 0), (8, .bool (!(checkV c == 0)))] ?_ ?_
   · intro KK hKK
     rcases Bool.eq_false_or_eq_true (((x.id != 0) || (x.state != 0)) || (x.owner != 0)) with u4 | u4
     · skip
       refine wB (c := true) 22 rfl u4 ?_
       iterate 3 refine p_checkR rfl ?_
       refine p_checkR rfl ?_
       refine wB (c := (((x.id != 0) || (x.state != 0)) || (x.owner != 0)) || (x.born != 0)) 26 rfl (by rw [u4]; rfl) ?_
       refine wN (tN ?_)
       exact fun aa ww nn dd hs H => hKK aa ww nn dd (sat_sub ⟨rfl, rfl, rfl, rfl, rfl, rfl, rfl, trivial⟩ hs) H
     · skip
       refine wB (c := false) 22 rfl u4 ?_
       refine p_checkR rfl ?_
       refine wLd rfl tyint 0 rfl rfl ?_
       refine p_checkR rfl ?_
       refine p_checkR rfl ?_
       refine wB (c := (((x.id != 0) || (x.state != 0)) || (x.owner != 0)) || (x.born != 0)) 26 rfl (by rw [u4]; rfl) ?_
       refine wN (tN ?_)
       exact fun aa ww nn dd hs H => hKK aa ww nn dd (sat_sub ⟨rfl, rfl, rfl, rfl, rfl, rfl, rfl, trivial⟩ hs) H
   refine wN ?_
   refine tN (wKK hK6 ?_)
   refine wCond (E := (((x.id != 0) || (x.state != 0)) || (x.owner != 0)) || (x.born != 0)) rfl (fun z5 => ?_) (fun z5 => ?_)
   · skip
     refine wSeqK fun KK7 hK7 => ?_
     refine wReg ?_
     refine p_checkR rfl ?_
     refine wN ?_
     refine tN (wKK hK7 ?_)
     refine wRet ?_
     refine tR ?_
     exact wR1 rfl rfl (fun ww H => ⟨by rw [← chk_is]; simp only [chkR, isR, z1, z1n, z1no, z5, cond_true, cond_false, Bool.not_true, Bool.not_false, Bool.true_and, Bool.and_true, Bool.false_and, Bool.and_false, Bool.true_or, Bool.or_true, Bool.false_or, Bool.or_false], H.out.off⟩)
   · skip
     have z5l : (((x.id != 0) || (x.state != 0)) || (x.owner != 0)) = false := Reg.ol z5
     have z5ll : ((x.id != 0) || (x.state != 0)) = false := Reg.ol z5l
     have z5lll : (x.id != 0) = false := Reg.ol z5ll
     have z5lllo : (x.id == 0) = true := neq_f z5lll
     have z5llr : (x.state != 0) = false := Reg.orr z5ll
     have z5llro : (x.state == 0) = true := neq_f z5llr
     have z5lr : (x.owner != 0) = false := Reg.orr z5l
     have z5lro : (x.owner == 0) = true := neq_f z5lr
     have z5r : (x.born != 0) = false := Reg.orr z5
     have z5ro : (x.born == 0) = true := neq_f z5r
     refine wSk ?_
     refine tN (wKK hK5 ?_)
     refine wSeqK fun KK8 hK8 => ?_
     refine wReg ?_
     refine p_checkR rfl ?_
     refine wN ?_
     refine tN (wKK hK8 ?_)
     refine wSeqK fun KK9 hK9 => ?_
     refine wSeqK fun KK10 hK10 => ?_
     refine wReg ?_
     refine p_checkR rfl ?_
     refine wLd rfl tyint 0 rfl rfl ?_
     refine wN ?_
     refine tN (wKK hK10 ?_)
     refine wBlk ?_
     refine wSeqK fun KK11 hK11 => ?_
     refine wReg ?_
     iterate 2 refine p_checkR rfl ?_
     refine wN ?_
     refine tN (wKK hK11 ?_)
     refine wCond (E := x.kind == 1) rfl (fun z6 => ?_) (fun z6 => ?_)
     · skip
       have z6o : (x.kind != 1) = false := eqq_t z6
       refine wReg ?_
       refine p_checkR rfl ?_
       refine wLd rfl tyint 0 rfl rfl ?_
       iterate 2 refine p_checkR rfl ?_
       refine wCut 6 [(40, .bool ((decide (0 < x.src)) && (decide (x.src < c.floors)))), (0, .agg (cA c)), (1, .agg (xA x)), (2, .pointer (some ⟨b2, 0, none⟩)), (3, .pointer (some ⟨b3, 0, none⟩)), (4, .int .i64 0), (5, .bool false), (8, .bool (!(checkV c == 0))), (26, .bool ((((x.id != 0) || (x.state != 0)) || (x.owner != 0)) || (x.born != 0))), (28, .int .i64 x.kind), (29, .bool (x.kind == 1))] ?_ ?_
       · intro KK hKK
         rcases Bool.eq_false_or_eq_true (decide (0 < x.src)) with u7 | u7
         · skip
           refine wB (c := true) 34 rfl u7 ?_
           refine p_checkR rfl ?_
           refine wLd rfl tyint 0 rfl rfl ?_
           refine p_checkR rfl ?_
           refine wLd rfl tyint 1 rfl rfl ?_
           refine p_checkR rfl ?_
           refine p_checkR rfl ?_
           refine wB (c := (decide (0 < x.src)) && (decide (x.src < c.floors))) 40 rfl (by rw [u7]; rfl) ?_
           refine wN (tN ?_)
           exact fun aa ww nn dd hs H => hKK aa ww nn dd (sat_sub ⟨rfl, rfl, rfl, rfl, rfl, rfl, rfl, rfl, rfl, rfl, rfl, trivial⟩ hs) H
         · skip
           refine wB (c := false) 34 rfl u7 ?_
           iterate 5 refine p_checkR rfl ?_
           refine p_checkR rfl ?_
           refine wB (c := (decide (0 < x.src)) && (decide (x.src < c.floors))) 40 rfl (by rw [u7]; rfl) ?_
           refine wN (tN ?_)
           exact fun aa ww nn dd hs H => hKK aa ww nn dd (sat_sub ⟨rfl, rfl, rfl, rfl, rfl, rfl, rfl, rfl, rfl, rfl, rfl, trivial⟩ hs) H
       refine p_checkR rfl ?_
       refine wCut 4 [(45, .bool (((decide (0 < x.src)) && (decide (x.src < c.floors))) && (x.dst == 0))), (0, .agg (cA c)), (1, .agg (xA x)), (2, .pointer (some ⟨b2, 0, none⟩)), (3, .pointer (some ⟨b3, 0, none⟩)), (4, .int .i64 0), (5, .bool false), (8, .bool (!(checkV c == 0))), (26, .bool ((((x.id != 0) || (x.state != 0)) || (x.owner != 0)) || (x.born != 0))), (28, .int .i64 x.kind), (29, .bool (x.kind == 1))] ?_ ?_
       · intro KK hKK
         rcases Bool.eq_false_or_eq_true ((decide (0 < x.src)) && (decide (x.src < c.floors))) with u8 | u8
         · skip
           refine wB (c := true) 41 rfl u8 ?_
           refine p_checkR rfl ?_
           refine wLd rfl tyint 0 rfl rfl ?_
           refine p_checkR rfl ?_
           refine p_checkR rfl ?_
           refine wB (c := ((decide (0 < x.src)) && (decide (x.src < c.floors))) && (x.dst == 0)) 45 rfl (by rw [u8]; rfl) ?_
           refine wN (tN ?_)
           exact fun aa ww nn dd hs H => hKK aa ww nn dd (sat_sub ⟨rfl, rfl, rfl, rfl, rfl, rfl, rfl, rfl, rfl, rfl, rfl, trivial⟩ hs) H
         · skip
           refine wB (c := false) 41 rfl u8 ?_
           iterate 3 refine p_checkR rfl ?_
           refine p_checkR rfl ?_
           refine wB (c := ((decide (0 < x.src)) && (decide (x.src < c.floors))) && (x.dst == 0)) 45 rfl (by rw [u8]; rfl) ?_
           refine wN (tN ?_)
           exact fun aa ww nn dd hs H => hKK aa ww nn dd (sat_sub ⟨rfl, rfl, rfl, rfl, rfl, rfl, rfl, rfl, rfl, rfl, rfl, trivial⟩ hs) H
       refine p_checkR rfl ?_
       refine wCut 4 [(50, .bool ((((decide (0 < x.src)) && (decide (x.src < c.floors))) && (x.dst == 0)) && (x.car == 0))), (0, .agg (cA c)), (1, .agg (xA x)), (2, .pointer (some ⟨b2, 0, none⟩)), (3, .pointer (some ⟨b3, 0, none⟩)), (4, .int .i64 0), (5, .bool false), (8, .bool (!(checkV c == 0))), (26, .bool ((((x.id != 0) || (x.state != 0)) || (x.owner != 0)) || (x.born != 0))), (28, .int .i64 x.kind), (29, .bool (x.kind == 1))] ?_ ?_
       · intro KK hKK
         rcases Bool.eq_false_or_eq_true (((decide (0 < x.src)) && (decide (x.src < c.floors))) && (x.dst == 0)) with u9 | u9
         · skip
           refine wB (c := true) 46 rfl u9 ?_
           refine p_checkR rfl ?_
           refine wLd rfl tyint 0 rfl rfl ?_
           refine p_checkR rfl ?_
           refine p_checkR rfl ?_
           refine wB (c := (((decide (0 < x.src)) && (decide (x.src < c.floors))) && (x.dst == 0)) && (x.car == 0)) 50 rfl (by rw [u9]; rfl) ?_
           refine wN (tN ?_)
           exact fun aa ww nn dd hs H => hKK aa ww nn dd (sat_sub ⟨rfl, rfl, rfl, rfl, rfl, rfl, rfl, rfl, rfl, rfl, rfl, trivial⟩ hs) H
         · skip
           refine wB (c := false) 46 rfl u9 ?_
           iterate 3 refine p_checkR rfl ?_
           refine p_checkR rfl ?_
           refine wB (c := (((decide (0 < x.src)) && (decide (x.src < c.floors))) && (x.dst == 0)) && (x.car == 0)) 50 rfl (by rw [u9]; rfl) ?_
           refine wN (tN ?_)
           exact fun aa ww nn dd hs H => hKK aa ww nn dd (sat_sub ⟨rfl, rfl, rfl, rfl, rfl, rfl, rfl, rfl, rfl, rfl, rfl, trivial⟩ hs) H
       refine p_checkR rfl ?_
       refine wN ?_
       refine bN (tN (wKK hK9 ?_))
       refine wSeqK fun KK12 hK12 => ?_
       refine wSeqK fun KK13 hK13 => ?_
       refine wReg ?_
       iterate 2 refine p_checkR rfl ?_
       refine wN ?_
       refine tN (wKK hK13 ?_)
       refine wCond (E := !((((decide (0 < x.src)) && (decide (x.src < c.floors))) && (x.dst == 0)) && (x.car == 0))) rfl (fun z10 => ?_) (fun z10 => ?_)
       · skip
         have z10n : ((((decide (0 < x.src)) && (decide (x.src < c.floors))) && (x.dst == 0)) && (x.car == 0)) = false := Reg.bn z10
         refine wSeqK fun KK14 hK14 => ?_
         refine wReg ?_
         refine p_checkR rfl ?_
         refine wN ?_
         refine tN (wKK hK14 ?_)
         refine wRet ?_
         refine tR ?_
         exact wR1 rfl rfl (fun ww H => ⟨by rw [← chk_is]; simp only [chkR, isR, z1, z1n, z1no, z5, z5l, z5ll, z5lll, z5lllo, z5llr, z5llro, z5lr, z5lro, z5r, z5ro, z6, z6o, z10, z10n, cond_true, cond_false, Bool.not_true, Bool.not_false, Bool.true_and, Bool.and_true, Bool.false_and, Bool.and_false, Bool.true_or, Bool.or_true, Bool.false_or, Bool.or_false], H.out.off⟩)
       · skip
         have z10n : ((((decide (0 < x.src)) && (decide (x.src < c.floors))) && (x.dst == 0)) && (x.car == 0)) = true := Reg.bt z10
         have z10nl : (((decide (0 < x.src)) && (decide (x.src < c.floors))) && (x.dst == 0)) = true := Reg.bl z10n
         have z10nll : ((decide (0 < x.src)) && (decide (x.src < c.floors))) = true := Reg.bl z10nl
         have z10nlll : (decide (0 < x.src)) = true := Reg.bl z10nll
         have z10nllld : 0 < x.src := of_decide_eq_true z10nlll
         have z10nllr : (decide (x.src < c.floors)) = true := Reg.br z10nll
         have z10nllrd : x.src < c.floors := of_decide_eq_true z10nllr
         have z10nlr : (x.dst == 0) = true := Reg.br z10nl
         have z10nlro : (x.dst != 0) = false := eqq_t z10nlr
         have z10nr : (x.car == 0) = true := Reg.br z10n
         have z10nro : (x.car != 0) = false := eqq_t z10nr
         refine wSk ?_
         refine tN (wKK hK12 ?_)
         refine wSeqK fun KK15 hK15 => ?_
         refine wReg ?_
         refine p_checkR rfl ?_
         refine wN ?_
         refine tN (wKK hK15 ?_)
         refine wRet ?_
         exact wR1 rfl rfl (fun ww H => ⟨by rw [← chk_is]; simp only [chkR, isR, z1, z1n, z1no, z5, z5l, z5ll, z5lll, z5lllo, z5llr, z5llro, z5lr, z5lro, z5r, z5ro, z6, z6o, z10, z10n, z10nl, z10nll, z10nlll, z10nllr, z10nlr, z10nlro, z10nr, z10nro, cond_true, cond_false, Bool.not_true, Bool.not_false, Bool.true_and, Bool.and_true, Bool.false_and, Bool.and_false, Bool.true_or, Bool.or_true, Bool.false_or, Bool.or_false], H.out.off⟩)
     · skip
       have z6o : (x.kind != 1) = true := eqq_f z6
       refine wSeqK fun KK16 hK16 => ?_
       refine wReg ?_
       iterate 2 refine p_checkR rfl ?_
       refine wN ?_
       refine tN (wKK hK16 ?_)
       refine wCond (E := x.kind == 2) rfl (fun z11 => ?_) (fun z11 => ?_)
       · skip
         have z11o : (x.kind != 2) = false := eqq_t z11
         refine wReg ?_
         refine p_checkR rfl ?_
         refine wLd rfl tyint 0 rfl rfl ?_
         iterate 2 refine p_checkR rfl ?_
         refine wCut 6 [(62, .bool ((decide (1 < x.src)) && (decide (x.src ≤ c.floors)))), (0, .agg (cA c)), (1, .agg (xA x)), (2, .pointer (some ⟨b2, 0, none⟩)), (3, .pointer (some ⟨b3, 0, none⟩)), (4, .int .i64 0), (5, .bool false), (8, .bool (!(checkV c == 0))), (26, .bool ((((x.id != 0) || (x.state != 0)) || (x.owner != 0)) || (x.born != 0))), (28, .int .i64 x.kind), (29, .bool (x.kind == 1)), (51, .bool (x.kind == 2))] ?_ ?_
         · intro KK hKK
           rcases Bool.eq_false_or_eq_true (decide (1 < x.src)) with u12 | u12
           · skip
             refine wB (c := true) 56 rfl u12 ?_
             refine p_checkR rfl ?_
             refine wLd rfl tyint 0 rfl rfl ?_
             refine p_checkR rfl ?_
             refine wLd rfl tyint 1 rfl rfl ?_
             refine p_checkR rfl ?_
             refine p_checkR rfl ?_
             refine wB (c := (decide (1 < x.src)) && (decide (x.src ≤ c.floors))) 62 rfl (by rw [u12]; rfl) ?_
             refine wN (tN ?_)
             exact fun aa ww nn dd hs H => hKK aa ww nn dd (sat_sub ⟨rfl, rfl, rfl, rfl, rfl, rfl, rfl, rfl, rfl, rfl, rfl, rfl, trivial⟩ hs) H
           · skip
             refine wB (c := false) 56 rfl u12 ?_
             iterate 5 refine p_checkR rfl ?_
             refine p_checkR rfl ?_
             refine wB (c := (decide (1 < x.src)) && (decide (x.src ≤ c.floors))) 62 rfl (by rw [u12]; rfl) ?_
             refine wN (tN ?_)
             exact fun aa ww nn dd hs H => hKK aa ww nn dd (sat_sub ⟨rfl, rfl, rfl, rfl, rfl, rfl, rfl, rfl, rfl, rfl, rfl, rfl, trivial⟩ hs) H
         refine p_checkR rfl ?_
         refine wCut 4 [(67, .bool (((decide (1 < x.src)) && (decide (x.src ≤ c.floors))) && (x.dst == 0))), (0, .agg (cA c)), (1, .agg (xA x)), (2, .pointer (some ⟨b2, 0, none⟩)), (3, .pointer (some ⟨b3, 0, none⟩)), (4, .int .i64 0), (5, .bool false), (8, .bool (!(checkV c == 0))), (26, .bool ((((x.id != 0) || (x.state != 0)) || (x.owner != 0)) || (x.born != 0))), (28, .int .i64 x.kind), (29, .bool (x.kind == 1)), (51, .bool (x.kind == 2))] ?_ ?_
         · intro KK hKK
           rcases Bool.eq_false_or_eq_true ((decide (1 < x.src)) && (decide (x.src ≤ c.floors))) with u13 | u13
           · skip
             refine wB (c := true) 63 rfl u13 ?_
             refine p_checkR rfl ?_
             refine wLd rfl tyint 0 rfl rfl ?_
             refine p_checkR rfl ?_
             refine p_checkR rfl ?_
             refine wB (c := ((decide (1 < x.src)) && (decide (x.src ≤ c.floors))) && (x.dst == 0)) 67 rfl (by rw [u13]; rfl) ?_
             refine wN (tN ?_)
             exact fun aa ww nn dd hs H => hKK aa ww nn dd (sat_sub ⟨rfl, rfl, rfl, rfl, rfl, rfl, rfl, rfl, rfl, rfl, rfl, rfl, trivial⟩ hs) H
           · skip
             refine wB (c := false) 63 rfl u13 ?_
             iterate 3 refine p_checkR rfl ?_
             refine p_checkR rfl ?_
             refine wB (c := ((decide (1 < x.src)) && (decide (x.src ≤ c.floors))) && (x.dst == 0)) 67 rfl (by rw [u13]; rfl) ?_
             refine wN (tN ?_)
             exact fun aa ww nn dd hs H => hKK aa ww nn dd (sat_sub ⟨rfl, rfl, rfl, rfl, rfl, rfl, rfl, rfl, rfl, rfl, rfl, rfl, trivial⟩ hs) H
         refine p_checkR rfl ?_
         refine wCut 4 [(72, .bool ((((decide (1 < x.src)) && (decide (x.src ≤ c.floors))) && (x.dst == 0)) && (x.car == 0))), (0, .agg (cA c)), (1, .agg (xA x)), (2, .pointer (some ⟨b2, 0, none⟩)), (3, .pointer (some ⟨b3, 0, none⟩)), (4, .int .i64 0), (5, .bool false), (8, .bool (!(checkV c == 0))), (26, .bool ((((x.id != 0) || (x.state != 0)) || (x.owner != 0)) || (x.born != 0))), (28, .int .i64 x.kind), (29, .bool (x.kind == 1)), (51, .bool (x.kind == 2))] ?_ ?_
         · intro KK hKK
           rcases Bool.eq_false_or_eq_true (((decide (1 < x.src)) && (decide (x.src ≤ c.floors))) && (x.dst == 0)) with u14 | u14
           · skip
             refine wB (c := true) 68 rfl u14 ?_
             refine p_checkR rfl ?_
             refine wLd rfl tyint 0 rfl rfl ?_
             refine p_checkR rfl ?_
             refine p_checkR rfl ?_
             refine wB (c := (((decide (1 < x.src)) && (decide (x.src ≤ c.floors))) && (x.dst == 0)) && (x.car == 0)) 72 rfl (by rw [u14]; rfl) ?_
             refine wN (tN ?_)
             exact fun aa ww nn dd hs H => hKK aa ww nn dd (sat_sub ⟨rfl, rfl, rfl, rfl, rfl, rfl, rfl, rfl, rfl, rfl, rfl, rfl, trivial⟩ hs) H
           · skip
             refine wB (c := false) 68 rfl u14 ?_
             iterate 3 refine p_checkR rfl ?_
             refine p_checkR rfl ?_
             refine wB (c := (((decide (1 < x.src)) && (decide (x.src ≤ c.floors))) && (x.dst == 0)) && (x.car == 0)) 72 rfl (by rw [u14]; rfl) ?_
             refine wN (tN ?_)
             exact fun aa ww nn dd hs H => hKK aa ww nn dd (sat_sub ⟨rfl, rfl, rfl, rfl, rfl, rfl, rfl, rfl, rfl, rfl, rfl, rfl, trivial⟩ hs) H
         refine p_checkR rfl ?_
         refine wN ?_
         refine bN (tN (wKK hK9 ?_))
         refine wSeqK fun KK17 hK17 => ?_
         refine wSeqK fun KK18 hK18 => ?_
         refine wReg ?_
         iterate 2 refine p_checkR rfl ?_
         refine wN ?_
         refine tN (wKK hK18 ?_)
         refine wCond (E := !((((decide (1 < x.src)) && (decide (x.src ≤ c.floors))) && (x.dst == 0)) && (x.car == 0))) rfl (fun z15 => ?_) (fun z15 => ?_)
         · skip
           have z15n : ((((decide (1 < x.src)) && (decide (x.src ≤ c.floors))) && (x.dst == 0)) && (x.car == 0)) = false := Reg.bn z15
           refine wSeqK fun KK19 hK19 => ?_
           refine wReg ?_
           refine p_checkR rfl ?_
           refine wN ?_
           refine tN (wKK hK19 ?_)
           refine wRet ?_
           refine tR ?_
           exact wR1 rfl rfl (fun ww H => ⟨by rw [← chk_is]; simp only [chkR, isR, z1, z1n, z1no, z5, z5l, z5ll, z5lll, z5lllo, z5llr, z5llro, z5lr, z5lro, z5r, z5ro, z6, z6o, z11, z11o, z15, z15n, cond_true, cond_false, Bool.not_true, Bool.not_false, Bool.true_and, Bool.and_true, Bool.false_and, Bool.and_false, Bool.true_or, Bool.or_true, Bool.false_or, Bool.or_false], H.out.off⟩)
         · skip
           have z15n : ((((decide (1 < x.src)) && (decide (x.src ≤ c.floors))) && (x.dst == 0)) && (x.car == 0)) = true := Reg.bt z15
           have z15nl : (((decide (1 < x.src)) && (decide (x.src ≤ c.floors))) && (x.dst == 0)) = true := Reg.bl z15n
           have z15nll : ((decide (1 < x.src)) && (decide (x.src ≤ c.floors))) = true := Reg.bl z15nl
           have z15nlll : (decide (1 < x.src)) = true := Reg.bl z15nll
           have z15nllld : 1 < x.src := of_decide_eq_true z15nlll
           have z15nllr : (decide (x.src ≤ c.floors)) = true := Reg.br z15nll
           have z15nllrd : x.src ≤ c.floors := of_decide_eq_true z15nllr
           have z15nlr : (x.dst == 0) = true := Reg.br z15nl
           have z15nlro : (x.dst != 0) = false := eqq_t z15nlr
           have z15nr : (x.car == 0) = true := Reg.br z15n
           have z15nro : (x.car != 0) = false := eqq_t z15nr
           refine wSk ?_
           refine tN (wKK hK17 ?_)
           refine wSeqK fun KK20 hK20 => ?_
           refine wReg ?_
           refine p_checkR rfl ?_
           refine wN ?_
           refine tN (wKK hK20 ?_)
           refine wRet ?_
           exact wR1 rfl rfl (fun ww H => ⟨by rw [← chk_is]; simp only [chkR, isR, z1, z1n, z1no, z5, z5l, z5ll, z5lll, z5lllo, z5llr, z5llro, z5lr, z5lro, z5r, z5ro, z6, z6o, z11, z11o, z15, z15n, z15nl, z15nll, z15nlll, z15nllr, z15nlr, z15nlro, z15nr, z15nro, cond_true, cond_false, Bool.not_true, Bool.not_false, Bool.true_and, Bool.and_true, Bool.false_and, Bool.and_false, Bool.true_or, Bool.or_true, Bool.false_or, Bool.or_false], H.out.off⟩)
       · skip
         have z11o : (x.kind != 2) = true := eqq_f z11
         refine wSeqK fun KK21 hK21 => ?_
         refine wReg ?_
         iterate 2 refine p_checkR rfl ?_
         refine wN ?_
         refine tN (wKK hK21 ?_)
         refine wCond (E := x.kind == 3) rfl (fun z16 => ?_) (fun z16 => ?_)
         · skip
           have z16o : (x.kind != 3) = false := eqq_t z16
           refine wReg ?_
           refine p_checkR rfl ?_
           refine wLd rfl tyint 0 rfl rfl ?_
           iterate 2 refine p_checkR rfl ?_
           refine wCut 5 [(83, .bool ((x.src == 0) && (floR c x.dst))), (0, .agg (cA c)), (1, .agg (xA x)), (2, .pointer (some ⟨b2, 0, none⟩)), (3, .pointer (some ⟨b3, 0, none⟩)), (4, .int .i64 0), (5, .bool false), (8, .bool (!(checkV c == 0))), (26, .bool ((((x.id != 0) || (x.state != 0)) || (x.owner != 0)) || (x.born != 0))), (28, .int .i64 x.kind), (29, .bool (x.kind == 1)), (51, .bool (x.kind == 2)), (73, .bool (x.kind == 3))] ?_ ?_
           · intro KK hKK
             rcases Bool.eq_false_or_eq_true (x.src == 0) with u17 | u17
             · skip
               refine wB (c := true) 78 rfl u17 ?_
               refine wLr rfl tyapi_Config 1 rfl (cL c) rfl rfl ?_
               refine p_checkR rfl ?_
               refine wLd rfl tyint 0 rfl rfl ?_
               refine wQ (l := [.agg (cA c), .int .i64 x.dst]) Try.func76 rfl (by kernel_rfl) (.bool (floR c x.dst)) (fun wc H => floorR c x.dst wc) rfl rfl rfl rfl ?_
               refine p_checkR rfl ?_
               refine wB (c := (x.src == 0) && (floR c x.dst)) 83 rfl (by rw [u17]; rfl) ?_
               refine wN (tN ?_)
               exact fun aa ww nn dd hs H => hKK aa ww nn dd (sat_sub ⟨rfl, rfl, rfl, rfl, rfl, rfl, rfl, rfl, rfl, rfl, rfl, rfl, rfl, trivial⟩ hs) H
             · skip
               refine wB (c := false) 78 rfl u17 ?_
               iterate 4 refine p_checkR rfl ?_
               refine p_checkR rfl ?_
               refine wB (c := (x.src == 0) && (floR c x.dst)) 83 rfl (by rw [u17]; rfl) ?_
               refine wN (tN ?_)
               exact fun aa ww nn dd hs H => hKK aa ww nn dd (sat_sub ⟨rfl, rfl, rfl, rfl, rfl, rfl, rfl, rfl, rfl, rfl, rfl, rfl, rfl, trivial⟩ hs) H
           refine p_checkR rfl ?_
           refine wCut 4 [(88, .bool (((x.src == 0) && (floR c x.dst)) && (decide (0 < x.car)))), (0, .agg (cA c)), (1, .agg (xA x)), (2, .pointer (some ⟨b2, 0, none⟩)), (3, .pointer (some ⟨b3, 0, none⟩)), (4, .int .i64 0), (5, .bool false), (8, .bool (!(checkV c == 0))), (26, .bool ((((x.id != 0) || (x.state != 0)) || (x.owner != 0)) || (x.born != 0))), (28, .int .i64 x.kind), (29, .bool (x.kind == 1)), (51, .bool (x.kind == 2)), (73, .bool (x.kind == 3))] ?_ ?_
           · intro KK hKK
             rcases Bool.eq_false_or_eq_true ((x.src == 0) && (floR c x.dst)) with u18 | u18
             · skip
               refine wB (c := true) 84 rfl u18 ?_
               refine p_checkR rfl ?_
               refine wLd rfl tyint 0 rfl rfl ?_
               refine p_checkR rfl ?_
               refine p_checkR rfl ?_
               refine wB (c := ((x.src == 0) && (floR c x.dst)) && (decide (0 < x.car))) 88 rfl (by rw [u18]; rfl) ?_
               refine wN (tN ?_)
               exact fun aa ww nn dd hs H => hKK aa ww nn dd (sat_sub ⟨rfl, rfl, rfl, rfl, rfl, rfl, rfl, rfl, rfl, rfl, rfl, rfl, rfl, trivial⟩ hs) H
             · skip
               refine wB (c := false) 84 rfl u18 ?_
               iterate 3 refine p_checkR rfl ?_
               refine p_checkR rfl ?_
               refine wB (c := ((x.src == 0) && (floR c x.dst)) && (decide (0 < x.car))) 88 rfl (by rw [u18]; rfl) ?_
               refine wN (tN ?_)
               exact fun aa ww nn dd hs H => hKK aa ww nn dd (sat_sub ⟨rfl, rfl, rfl, rfl, rfl, rfl, rfl, rfl, rfl, rfl, rfl, rfl, rfl, trivial⟩ hs) H
           refine p_checkR rfl ?_
           refine wCut 6 [(95, .bool ((((x.src == 0) && (floR c x.dst)) && (decide (0 < x.car))) && (decide (x.car ≤ c.cars)))), (0, .agg (cA c)), (1, .agg (xA x)), (2, .pointer (some ⟨b2, 0, none⟩)), (3, .pointer (some ⟨b3, 0, none⟩)), (4, .int .i64 0), (5, .bool false), (8, .bool (!(checkV c == 0))), (26, .bool ((((x.id != 0) || (x.state != 0)) || (x.owner != 0)) || (x.born != 0))), (28, .int .i64 x.kind), (29, .bool (x.kind == 1)), (51, .bool (x.kind == 2)), (73, .bool (x.kind == 3))] ?_ ?_
           · intro KK hKK
             rcases Bool.eq_false_or_eq_true (((x.src == 0) && (floR c x.dst)) && (decide (0 < x.car))) with u19 | u19
             · skip
               refine wB (c := true) 89 rfl u19 ?_
               refine p_checkR rfl ?_
               refine wLd rfl tyint 0 rfl rfl ?_
               refine p_checkR rfl ?_
               refine wLd rfl tyint 1 rfl rfl ?_
               refine p_checkR rfl ?_
               refine p_checkR rfl ?_
               refine wB (c := (((x.src == 0) && (floR c x.dst)) && (decide (0 < x.car))) && (decide (x.car ≤ c.cars))) 95 rfl (by rw [u19]; rfl) ?_
               refine wN (tN ?_)
               exact fun aa ww nn dd hs H => hKK aa ww nn dd (sat_sub ⟨rfl, rfl, rfl, rfl, rfl, rfl, rfl, rfl, rfl, rfl, rfl, rfl, rfl, trivial⟩ hs) H
             · skip
               refine wB (c := false) 89 rfl u19 ?_
               iterate 5 refine p_checkR rfl ?_
               refine p_checkR rfl ?_
               refine wB (c := (((x.src == 0) && (floR c x.dst)) && (decide (0 < x.car))) && (decide (x.car ≤ c.cars))) 95 rfl (by rw [u19]; rfl) ?_
               refine wN (tN ?_)
               exact fun aa ww nn dd hs H => hKK aa ww nn dd (sat_sub ⟨rfl, rfl, rfl, rfl, rfl, rfl, rfl, rfl, rfl, rfl, rfl, rfl, rfl, trivial⟩ hs) H
           refine p_checkR rfl ?_
           refine wN ?_
           refine bN (tN (wKK hK9 ?_))
           refine wSeqK fun KK22 hK22 => ?_
           refine wSeqK fun KK23 hK23 => ?_
           refine wReg ?_
           iterate 2 refine p_checkR rfl ?_
           refine wN ?_
           refine tN (wKK hK23 ?_)
           refine wCond (E := !((((x.src == 0) && (floR c x.dst)) && (decide (0 < x.car))) && (decide (x.car ≤ c.cars)))) rfl (fun z20 => ?_) (fun z20 => ?_)
           · skip
             have z20n : ((((x.src == 0) && (floR c x.dst)) && (decide (0 < x.car))) && (decide (x.car ≤ c.cars))) = false := Reg.bn z20
             refine wSeqK fun KK24 hK24 => ?_
             refine wReg ?_
             refine p_checkR rfl ?_
             refine wN ?_
             refine tN (wKK hK24 ?_)
             refine wRet ?_
             refine tR ?_
             exact wR1 rfl rfl (fun ww H => ⟨by rw [← chk_is]; simp only [chkR, isR, z1, z1n, z1no, z5, z5l, z5ll, z5lll, z5lllo, z5llr, z5llro, z5lr, z5lro, z5r, z5ro, z6, z6o, z11, z11o, z16, z16o, z20, z20n, cond_true, cond_false, Bool.not_true, Bool.not_false, Bool.true_and, Bool.and_true, Bool.false_and, Bool.and_false, Bool.true_or, Bool.or_true, Bool.false_or, Bool.or_false], H.out.off⟩)
           · skip
             have z20n : ((((x.src == 0) && (floR c x.dst)) && (decide (0 < x.car))) && (decide (x.car ≤ c.cars))) = true := Reg.bt z20
             have z20nl : (((x.src == 0) && (floR c x.dst)) && (decide (0 < x.car))) = true := Reg.bl z20n
             have z20nll : ((x.src == 0) && (floR c x.dst)) = true := Reg.bl z20nl
             have z20nlll : (x.src == 0) = true := Reg.bl z20nll
             have z20nlllo : (x.src != 0) = false := eqq_t z20nlll
             have z20nllr : (floR c x.dst) = true := Reg.br z20nll
             have z20nlr : (decide (0 < x.car)) = true := Reg.br z20nl
             have z20nlrd : 0 < x.car := of_decide_eq_true z20nlr
             have z20nr : (decide (x.car ≤ c.cars)) = true := Reg.br z20n
             have z20nrd : x.car ≤ c.cars := of_decide_eq_true z20nr
             refine wSk ?_
             refine tN (wKK hK22 ?_)
             refine wSeqK fun KK25 hK25 => ?_
             refine wReg ?_
             refine p_checkR rfl ?_
             refine wN ?_
             refine tN (wKK hK25 ?_)
             refine wRet ?_
             exact wR1 rfl rfl (fun ww H => ⟨by rw [← chk_is]; simp only [chkR, isR, z1, z1n, z1no, z5, z5l, z5ll, z5lll, z5lllo, z5llr, z5llro, z5lr, z5lro, z5r, z5ro, z6, z6o, z11, z11o, z16, z16o, z20, z20n, z20nl, z20nll, z20nlll, z20nlllo, z20nllr, z20nlr, z20nr, cond_true, cond_false, Bool.not_true, Bool.not_false, Bool.true_and, Bool.and_true, Bool.false_and, Bool.and_false, Bool.true_or, Bool.or_true, Bool.false_or, Bool.or_false], H.out.off⟩)
         · skip
           have z16o : (x.kind != 3) = true := eqq_f z16
           refine wSeqK fun KK26 hK26 => ?_
           refine wReg ?_
           iterate 2 refine p_checkR rfl ?_
           refine wN ?_
           refine tN (wKK hK26 ?_)
           refine wCond (E := x.kind == 4) rfl (fun z21 => ?_) (fun z21 => ?_)
           · skip
             have z21o : (x.kind != 4) = false := eqq_t z21
             refine wReg ?_
             refine wLr rfl tyapi_Config 1 rfl (cL c) rfl rfl ?_
             refine p_checkR rfl ?_
             refine wLd rfl tyint 0 rfl rfl ?_
             refine wQ (l := [.agg (cA c), .int .i64 x.src]) Try.func76 rfl (by kernel_rfl) (.bool (floR c x.src)) (fun wc H => floorR c x.src wc) rfl rfl rfl rfl ?_
             refine p_checkR rfl ?_
             refine wCut 5 [(107, .bool ((floR c x.src) && (floR c x.dst))), (0, .agg (cA c)), (1, .agg (xA x)), (2, .pointer (some ⟨b2, 0, none⟩)), (3, .pointer (some ⟨b3, 0, none⟩)), (4, .int .i64 0), (5, .bool false), (8, .bool (!(checkV c == 0))), (26, .bool ((((x.id != 0) || (x.state != 0)) || (x.owner != 0)) || (x.born != 0))), (28, .int .i64 x.kind), (29, .bool (x.kind == 1)), (51, .bool (x.kind == 2)), (73, .bool (x.kind == 3)), (96, .bool (x.kind == 4))] ?_ ?_
             · intro KK hKK
               rcases Bool.eq_false_or_eq_true (floR c x.src) with u22 | u22
               · skip
                 refine wB (c := true) 102 rfl u22 ?_
                 refine wLr rfl tyapi_Config 1 rfl (cL c) rfl rfl ?_
                 refine p_checkR rfl ?_
                 refine wLd rfl tyint 0 rfl rfl ?_
                 refine wQ (l := [.agg (cA c), .int .i64 x.dst]) Try.func76 rfl (by kernel_rfl) (.bool (floR c x.dst)) (fun wc H => floorR c x.dst wc) rfl rfl rfl rfl ?_
                 refine p_checkR rfl ?_
                 refine wB (c := (floR c x.src) && (floR c x.dst)) 107 rfl (by rw [u22]; rfl) ?_
                 refine wN (tN ?_)
                 exact fun aa ww nn dd hs H => hKK aa ww nn dd (sat_sub ⟨rfl, rfl, rfl, rfl, rfl, rfl, rfl, rfl, rfl, rfl, rfl, rfl, rfl, rfl, trivial⟩ hs) H
               · skip
                 refine wB (c := false) 102 rfl u22 ?_
                 iterate 4 refine p_checkR rfl ?_
                 refine p_checkR rfl ?_
                 refine wB (c := (floR c x.src) && (floR c x.dst)) 107 rfl (by rw [u22]; rfl) ?_
                 refine wN (tN ?_)
                 exact fun aa ww nn dd hs H => hKK aa ww nn dd (sat_sub ⟨rfl, rfl, rfl, rfl, rfl, rfl, rfl, rfl, rfl, rfl, rfl, rfl, rfl, rfl, trivial⟩ hs) H
             refine p_checkR rfl ?_
             refine wCut 6 [(114, .bool (((floR c x.src) && (floR c x.dst)) && (x.src != x.dst))), (0, .agg (cA c)), (1, .agg (xA x)), (2, .pointer (some ⟨b2, 0, none⟩)), (3, .pointer (some ⟨b3, 0, none⟩)), (4, .int .i64 0), (5, .bool false), (8, .bool (!(checkV c == 0))), (26, .bool ((((x.id != 0) || (x.state != 0)) || (x.owner != 0)) || (x.born != 0))), (28, .int .i64 x.kind), (29, .bool (x.kind == 1)), (51, .bool (x.kind == 2)), (73, .bool (x.kind == 3)), (96, .bool (x.kind == 4))] ?_ ?_
             · intro KK hKK
               rcases Bool.eq_false_or_eq_true ((floR c x.src) && (floR c x.dst)) with u23 | u23
               · skip
                 refine wB (c := true) 108 rfl u23 ?_
                 refine p_checkR rfl ?_
                 refine wLd rfl tyint 0 rfl rfl ?_
                 refine p_checkR rfl ?_
                 refine wLd rfl tyint 0 rfl rfl ?_
                 refine p_checkR rfl ?_
                 refine p_checkR rfl ?_
                 refine wB (c := ((floR c x.src) && (floR c x.dst)) && (x.src != x.dst)) 114 rfl (by rw [u23]; rfl) ?_
                 refine wN (tN ?_)
                 exact fun aa ww nn dd hs H => hKK aa ww nn dd (sat_sub ⟨rfl, rfl, rfl, rfl, rfl, rfl, rfl, rfl, rfl, rfl, rfl, rfl, rfl, rfl, trivial⟩ hs) H
               · skip
                 refine wB (c := false) 108 rfl u23 ?_
                 iterate 5 refine p_checkR rfl ?_
                 refine p_checkR rfl ?_
                 refine wB (c := ((floR c x.src) && (floR c x.dst)) && (x.src != x.dst)) 114 rfl (by rw [u23]; rfl) ?_
                 refine wN (tN ?_)
                 exact fun aa ww nn dd hs H => hKK aa ww nn dd (sat_sub ⟨rfl, rfl, rfl, rfl, rfl, rfl, rfl, rfl, rfl, rfl, rfl, rfl, rfl, rfl, trivial⟩ hs) H
             refine p_checkR rfl ?_
             refine wCut 4 [(119, .bool ((((floR c x.src) && (floR c x.dst)) && (x.src != x.dst)) && (x.car == 0))), (0, .agg (cA c)), (1, .agg (xA x)), (2, .pointer (some ⟨b2, 0, none⟩)), (3, .pointer (some ⟨b3, 0, none⟩)), (4, .int .i64 0), (5, .bool false), (8, .bool (!(checkV c == 0))), (26, .bool ((((x.id != 0) || (x.state != 0)) || (x.owner != 0)) || (x.born != 0))), (28, .int .i64 x.kind), (29, .bool (x.kind == 1)), (51, .bool (x.kind == 2)), (73, .bool (x.kind == 3)), (96, .bool (x.kind == 4))] ?_ ?_
             · intro KK hKK
               rcases Bool.eq_false_or_eq_true (((floR c x.src) && (floR c x.dst)) && (x.src != x.dst)) with u24 | u24
               · skip
                 refine wB (c := true) 115 rfl u24 ?_
                 refine p_checkR rfl ?_
                 refine wLd rfl tyint 0 rfl rfl ?_
                 refine p_checkR rfl ?_
                 refine p_checkR rfl ?_
                 refine wB (c := (((floR c x.src) && (floR c x.dst)) && (x.src != x.dst)) && (x.car == 0)) 119 rfl (by rw [u24]; rfl) ?_
                 refine wN (tN ?_)
                 exact fun aa ww nn dd hs H => hKK aa ww nn dd (sat_sub ⟨rfl, rfl, rfl, rfl, rfl, rfl, rfl, rfl, rfl, rfl, rfl, rfl, rfl, rfl, trivial⟩ hs) H
               · skip
                 refine wB (c := false) 115 rfl u24 ?_
                 iterate 3 refine p_checkR rfl ?_
                 refine p_checkR rfl ?_
                 refine wB (c := (((floR c x.src) && (floR c x.dst)) && (x.src != x.dst)) && (x.car == 0)) 119 rfl (by rw [u24]; rfl) ?_
                 refine wN (tN ?_)
                 exact fun aa ww nn dd hs H => hKK aa ww nn dd (sat_sub ⟨rfl, rfl, rfl, rfl, rfl, rfl, rfl, rfl, rfl, rfl, rfl, rfl, rfl, rfl, trivial⟩ hs) H
             refine p_checkR rfl ?_
             refine wN ?_
             refine bN (tN (wKK hK9 ?_))
             refine wSeqK fun KK27 hK27 => ?_
             refine wSeqK fun KK28 hK28 => ?_
             refine wReg ?_
             iterate 2 refine p_checkR rfl ?_
             refine wN ?_
             refine tN (wKK hK28 ?_)
             refine wCond (E := !((((floR c x.src) && (floR c x.dst)) && (x.src != x.dst)) && (x.car == 0))) rfl (fun z25 => ?_) (fun z25 => ?_)
             · skip
               have z25n : ((((floR c x.src) && (floR c x.dst)) && (x.src != x.dst)) && (x.car == 0)) = false := Reg.bn z25
               refine wSeqK fun KK29 hK29 => ?_
               refine wReg ?_
               refine p_checkR rfl ?_
               refine wN ?_
               refine tN (wKK hK29 ?_)
               refine wRet ?_
               refine tR ?_
               exact wR1 rfl rfl (fun ww H => ⟨by rw [← chk_is]; simp only [chkR, isR, z1, z1n, z1no, z5, z5l, z5ll, z5lll, z5lllo, z5llr, z5llro, z5lr, z5lro, z5r, z5ro, z6, z6o, z11, z11o, z16, z16o, z21, z21o, z25, z25n, cond_true, cond_false, Bool.not_true, Bool.not_false, Bool.true_and, Bool.and_true, Bool.false_and, Bool.and_false, Bool.true_or, Bool.or_true, Bool.false_or, Bool.or_false], H.out.off⟩)
             · skip
               have z25n : ((((floR c x.src) && (floR c x.dst)) && (x.src != x.dst)) && (x.car == 0)) = true := Reg.bt z25
               have z25nl : (((floR c x.src) && (floR c x.dst)) && (x.src != x.dst)) = true := Reg.bl z25n
               have z25nll : ((floR c x.src) && (floR c x.dst)) = true := Reg.bl z25nl
               have z25nlll : (floR c x.src) = true := Reg.bl z25nll
               have z25nllr : (floR c x.dst) = true := Reg.br z25nll
               have z25nlr : (x.src != x.dst) = true := Reg.br z25nl
               have z25nlro : (x.src == x.dst) = false := neq_t z25nlr
               have z25nr : (x.car == 0) = true := Reg.br z25n
               have z25nro : (x.car != 0) = false := eqq_t z25nr
               refine wSk ?_
               refine tN (wKK hK27 ?_)
               refine wSeqK fun KK30 hK30 => ?_
               refine wReg ?_
               refine p_checkR rfl ?_
               refine wN ?_
               refine tN (wKK hK30 ?_)
               refine wRet ?_
               exact wR1 rfl rfl (fun ww H => ⟨by rw [← chk_is]; simp only [chkR, isR, z1, z1n, z1no, z5, z5l, z5ll, z5lll, z5lllo, z5llr, z5llro, z5lr, z5lro, z5r, z5ro, z6, z6o, z11, z11o, z16, z16o, z21, z21o, z25, z25n, z25nl, z25nll, z25nlll, z25nllr, z25nlr, z25nlro, z25nr, z25nro, cond_true, cond_false, Bool.not_true, Bool.not_false, Bool.true_and, Bool.and_true, Bool.false_and, Bool.and_false, Bool.true_or, Bool.or_true, Bool.false_or, Bool.or_false], H.out.off⟩)
           · skip
             have z21o : (x.kind != 4) = true := eqq_f z21
             refine wSk ?_
             refine bN (tN (wKK hK9 ?_))
             refine wSeqK fun KK31 hK31 => ?_
             refine wSeqK fun KK32 hK32 => ?_
             refine wReg ?_
             iterate 2 refine p_checkR rfl ?_
             refine wN ?_
             refine tN (wKK hK32 ?_)
             refine wCt rfl ?_
             refine wSeqK fun KK33 hK33 => ?_
             refine wReg ?_
             refine p_checkR rfl ?_
             refine wN ?_
             refine tN (wKK hK33 ?_)
             refine wRet ?_
             refine tR ?_
             exact wR1 rfl rfl (fun ww H => ⟨by rw [← chk_is]; simp only [chkR, isR, z1, z1n, z1no, z5, z5l, z5ll, z5lll, z5lllo, z5llr, z5llro, z5lr, z5lro, z5r, z5ro, z6, z6o, z11, z11o, z16, z16o, z21, z21o, cond_true, cond_false, Bool.not_true, Bool.not_false, Bool.true_and, Bool.and_true, Bool.false_and, Bool.and_false, Bool.true_or, Bool.or_true, Bool.false_or, Bool.or_false], H.out.off⟩)
def tab_freeR : Wk.Tab := [(38, 1, 1), (38, 4, 4), (38, 5, 5)]
theorem p_freeR {ops : Array Oper} {rest : List Oper} {o : Oper} {w0 : World} {Q : Exit → Act → World → Prop} {S : List Nat} {R : List Res} {K K' : Wk.Env} {N : Nat} (h : Wk.stp tab_freeR N ops K o = some K') (n : Wk.Wk N S w0 K' R (wpList Try.prog ops Q rest)) : Wk.Wk N S w0 K R (wpList Try.prog ops Q (o :: rest)) := Wk.wP (T := tab_freeR) (by kernel_rfl) h n
set_option maxHeartbeats 16000000 in
set_option maxRecDepth 20000 in
theorem freeR (x : CallV) (s : Int) (w : World) : Calls Try.prog 111 #[.agg (xA x), .int .i64 s] w fun e w' => e = .returned (.agg #[.int .i64 ((freeV x s).id), .int .i64 ((freeV x s).kind), .int .i64 ((freeV x s).src), .int .i64 ((freeV x s).dst), .int .i64 ((freeV x s).car), .int .i64 ((freeV x s).state), .int .i64 ((freeV x s).owner), .int .i64 ((freeV x s).born)]) ∧ Off [] w w' := by
 have H := Lib.hid (Hp.start [] w)
 refine wStart (args := [.agg (xA x), .int .i64 s]) Try.func111 rfl rfl rfl H ?_
 clear H
 show Wk 12 _ _ [(0, .agg (xA x)), (1, .int .i64 s)] _ _
 refine wSeqK fun KK1 hK1 => ?_
 refine wReg ?_
 refine wBx rfl rfl rfl fun b2 => ?_
 refine wAl rfl rfl tyapi_Call fun b4 => ?_
 refine wN ?_
 refine tN (wKK hK1 ?_)
 refine wSeqK fun KK2 hK2 => ?_
 refine wReg ?_
 iterate 2 refine p_freeR rfl ?_
 refine wSt rfl tyint 1 rfl rfl rfl rfl ?_
 refine wN ?_
 refine tN (wKK hK2 ?_)
 refine wSeqK fun KK3 hK3 => ?_
 refine wSeqK fun KK4 hK4 => ?_
 refine wReg ?_
 refine p_freeR rfl ?_
 refine wLd rfl tyint 1 rfl rfl ?_
 refine p_freeR rfl ?_
 refine wN ?_
 refine tN (wKK hK4 ?_)
 refine wCond (E := x.kind != 3) rfl (fun z1 => ?_) (fun z1 => ?_)
 · skip
   have z1o : (x.kind == 3) = false := neq_t z1
   refine wReg ?_
   refine p_freeR rfl ?_
   refine wSt rfl tyint 1 rfl rfl rfl rfl ?_
   refine wN ?_
   refine tN (wKK hK3 ?_)
   refine wSeqK fun KK5 hK5 => ?_
   refine wReg ?_
   refine wLr rfl tyapi_Call 1 rfl [.int .i64 x.id, .int .i64 x.kind, .int .i64 x.src, .int .i64 x.dst, .int .i64 0, .int .i64 s, .int .i64 x.owner, .int .i64 x.born] rfl rfl ?_
   refine wSr rfl tyapi_Call 0 rfl rfl rfl rfl [.int .i64 x.id, .int .i64 x.kind, .int .i64 x.src, .int .i64 x.dst, .int .i64 0, .int .i64 s, .int .i64 x.owner, .int .i64 x.born] (by first | rfl | (simp only [spl]; rfl)) ?_
   refine wN ?_
   refine tN (wKK hK5 ?_)
   refine wRet ?_
   exact wRc tyapi_Call rfl rfl 0 rfl rfl (fun ww H => ⟨by simp only [freeV, z1, z1o, cond_true, cond_false, Bool.not_true, Bool.not_false, Bool.true_and, Bool.and_true, Bool.false_and, Bool.and_false, Bool.true_or, Bool.or_true, Bool.false_or, Bool.or_false] <;> rfl, H.out.off⟩)
 · skip
   have z1o : (x.kind == 3) = true := neq_f z1
   refine wSk ?_
   refine tN (wKK hK3 ?_)
   refine wSeqK fun KK6 hK6 => ?_
   refine wReg ?_
   refine wLr rfl tyapi_Call 1 rfl [.int .i64 x.id, .int .i64 x.kind, .int .i64 x.src, .int .i64 x.dst, .int .i64 x.car, .int .i64 s, .int .i64 x.owner, .int .i64 x.born] rfl rfl ?_
   refine wSr rfl tyapi_Call 0 rfl rfl rfl rfl [.int .i64 x.id, .int .i64 x.kind, .int .i64 x.src, .int .i64 x.dst, .int .i64 x.car, .int .i64 s, .int .i64 x.owner, .int .i64 x.born] (by first | rfl | (simp only [spl]; rfl)) ?_
   refine wN ?_
   refine tN (wKK hK6 ?_)
   refine wRet ?_
   exact wRc tyapi_Call rfl rfl 0 rfl rfl (fun ww H => ⟨by simp only [freeV, z1, z1o, cond_true, cond_false, Bool.not_true, Bool.not_false, Bool.true_and, Bool.and_true, Bool.false_and, Bool.and_false, Bool.true_or, Bool.or_true, Bool.false_or, Bool.or_false] <;> rfl, H.out.off⟩)
def tab_assignR : Wk.Tab := [(24, 1, 1), (38, 1, 1), (38, 4, 4), (38, 5, 5)]
theorem p_assignR {ops : Array Oper} {rest : List Oper} {o : Oper} {w0 : World} {Q : Exit → Act → World → Prop} {S : List Nat} {R : List Res} {K K' : Wk.Env} {N : Nat} (h : Wk.stp tab_assignR N ops K o = some K') (n : Wk.Wk N S w0 K' R (wpList Try.prog ops Q rest)) : Wk.Wk N S w0 K R (wpList Try.prog ops Q (o :: rest)) := Wk.wP (T := tab_assignR) (by kernel_rfl) h n
set_option maxHeartbeats 16000000 in
set_option maxRecDepth 20000 in
theorem assignR (c : Cfg) (x : CallV) (n : Int) (w : World) : Calls Try.prog 78 #[.agg (cA c), .agg (xA x), .int .i64 n] w fun e w' => e = .returned (.tuple #[.agg #[.int .i64 (((assignV c x n).1).id), .int .i64 (((assignV c x n).1).kind), .int .i64 (((assignV c x n).1).src), .int .i64 (((assignV c x n).1).dst), .int .i64 (((assignV c x n).1).car), .int .i64 (((assignV c x n).1).state), .int .i64 (((assignV c x n).1).owner), .int .i64 (((assignV c x n).1).born)], .int .i64 (assignV c x n).2]) ∧ Off [] w w' := by
 have H := Lib.hid (Hp.start [] w)
 refine wStart (args := [.agg (cA c), .agg (xA x), .int .i64 n]) Try.func78 rfl rfl rfl H ?_
 clear H
 show Wk 41 _ _ [(0, .agg (cA c)), (1, .agg (xA x)), (2, .int .i64 n)] _ _
 refine wSeqK fun KK1 hK1 => ?_
 refine wReg ?_
 refine wBx rfl rfl rfl fun b3 => ?_
 refine wBx rfl rfl rfl fun b4 => ?_
 refine wAl rfl rfl tyapi_Call fun b6 => ?_
 refine p_assignR rfl ?_
 refine wN ?_
 refine tN (wKK hK1 ?_)
 refine wSeqK fun KK2 hK2 => ?_
 refine wSeqK fun KK3 hK3 => ?_
 refine wReg ?_
 refine p_assignR rfl ?_
 refine wLd rfl tyint 1 rfl rfl ?_
 refine p_assignR rfl ?_
 refine wN ?_
 refine tN (wKK hK3 ?_)
 refine wCond (E := x.state != 1) rfl (fun z1 => ?_) (fun z1 => ?_)
 · skip
   have z1o : (x.state == 1) = false := neq_t z1
   refine wSeqK fun KK4 hK4 => ?_
   refine wReg ?_
   refine wE (.agg (xA zeroC)) rfl rfl rfl (fun aa ww hs _ => by simp only [execOp]; go_simp <;> first | rfl | omega) ?_
   refine wSr rfl tyapi_Call 0 rfl rfl rfl rfl (xL zeroC) (by first | rfl | (simp only [spl]; rfl)) ?_
   refine p_assignR rfl ?_
   refine wN ?_
   refine tN (wKK hK4 ?_)
   refine wRet ?_
   refine tR ?_
   exact wRct tyapi_Call rfl rfl rfl 0 rfl rfl (fun ww H => ⟨by rw [← asg_is]; simp only [asgR, z1, z1o, cond_true, cond_false, Bool.not_true, Bool.not_false, Bool.true_and, Bool.and_true, Bool.false_and, Bool.and_false, Bool.true_or, Bool.or_true, Bool.false_or, Bool.or_false] <;> rfl, H.out.off⟩)
 · skip
   have z1o : (x.state == 1) = true := neq_f z1
   refine wSk ?_
   refine tN (wKK hK2 ?_)
   refine wSeqK fun KK5 hK5 => ?_
   refine wSeqK fun KK6 hK6 => ?_
   refine wReg ?_
   refine wLr rfl tyapi_Config 2 rfl (cL c) rfl rfl ?_
   refine wQ (l := [.agg (cA c)]) Try.func30 rfl (by kernel_rfl) (.bool (checkV c == 0)) (fun wc H => goodR c wc) rfl rfl rfl rfl ?_
   iterate 2 refine p_assignR rfl ?_
   refine wCut 3 [(18, .bool ((!(checkV c == 0)) || (decide (n < 1)))), (0, .agg (cA c)), (1, .agg (xA x)), (2, .int .i64 n), (3, .pointer (some ⟨b3, 0, none⟩)), (4, .pointer (some ⟨b4, 0, none⟩)), (6, .pointer (some ⟨b6, 0, none⟩)), (7, .int .i64 0), (10, .bool (x.state != 1))] ?_ ?_
   · intro KK hKK
     rcases Bool.eq_false_or_eq_true (!(checkV c == 0)) with u2 | u2
     · skip
       refine wB (c := true) 15 rfl u2 ?_
       iterate 2 refine p_assignR rfl ?_
       refine p_assignR rfl ?_
       refine wB (c := (!(checkV c == 0)) || (decide (n < 1))) 18 rfl (by rw [u2]; rfl) ?_
       refine wN (tN ?_)
       exact fun aa ww nn dd hs H => hKK aa ww nn dd (sat_sub ⟨rfl, rfl, rfl, rfl, rfl, rfl, rfl, rfl, rfl, trivial⟩ hs) H
     · skip
       refine wB (c := false) 15 rfl u2 ?_
       iterate 2 refine p_assignR rfl ?_
       refine p_assignR rfl ?_
       refine wB (c := (!(checkV c == 0)) || (decide (n < 1))) 18 rfl (by rw [u2]; rfl) ?_
       refine wN (tN ?_)
       exact fun aa ww nn dd hs H => hKK aa ww nn dd (sat_sub ⟨rfl, rfl, rfl, rfl, rfl, rfl, rfl, rfl, rfl, trivial⟩ hs) H
   refine p_assignR rfl ?_
   refine wCut 5 [(24, .bool (((!(checkV c == 0)) || (decide (n < 1))) || (decide (c.cars < n)))), (0, .agg (cA c)), (1, .agg (xA x)), (2, .int .i64 n), (3, .pointer (some ⟨b3, 0, none⟩)), (4, .pointer (some ⟨b4, 0, none⟩)), (6, .pointer (some ⟨b6, 0, none⟩)), (7, .int .i64 0), (10, .bool (x.state != 1))] ?_ ?_
   · intro KK hKK
     rcases Bool.eq_false_or_eq_true ((!(checkV c == 0)) || (decide (n < 1))) with u3 | u3
     · skip
       refine wB (c := true) 19 rfl u3 ?_
       iterate 4 refine p_assignR rfl ?_
       refine p_assignR rfl ?_
       refine wB (c := ((!(checkV c == 0)) || (decide (n < 1))) || (decide (c.cars < n))) 24 rfl (by rw [u3]; rfl) ?_
       refine wN (tN ?_)
       exact fun aa ww nn dd hs H => hKK aa ww nn dd (sat_sub ⟨rfl, rfl, rfl, rfl, rfl, rfl, rfl, rfl, rfl, trivial⟩ hs) H
     · skip
       refine wB (c := false) 19 rfl u3 ?_
       iterate 2 refine p_assignR rfl ?_
       refine wLd rfl tyint 2 rfl rfl ?_
       refine p_assignR rfl ?_
       refine p_assignR rfl ?_
       refine wB (c := ((!(checkV c == 0)) || (decide (n < 1))) || (decide (c.cars < n))) 24 rfl (by rw [u3]; rfl) ?_
       refine wN (tN ?_)
       exact fun aa ww nn dd hs H => hKK aa ww nn dd (sat_sub ⟨rfl, rfl, rfl, rfl, rfl, rfl, rfl, rfl, rfl, trivial⟩ hs) H
   refine p_assignR rfl ?_
   refine wCut 10 [(35, .bool ((((!(checkV c == 0)) || (decide (n < 1))) || (decide (c.cars < n))) || ((x.kind == 3) && (n != x.car)))), (0, .agg (cA c)), (1, .agg (xA x)), (2, .int .i64 n), (3, .pointer (some ⟨b3, 0, none⟩)), (4, .pointer (some ⟨b4, 0, none⟩)), (6, .pointer (some ⟨b6, 0, none⟩)), (7, .int .i64 0), (10, .bool (x.state != 1))] ?_ ?_
   · intro KK hKK
     rcases Bool.eq_false_or_eq_true (((!(checkV c == 0)) || (decide (n < 1))) || (decide (c.cars < n))) with u4 | u4
     · skip
       refine wB (c := true) 25 rfl u4 ?_
       iterate 9 refine p_assignR rfl ?_
       refine p_assignR rfl ?_
       refine wB (c := (((!(checkV c == 0)) || (decide (n < 1))) || (decide (c.cars < n))) || ((x.kind == 3) && (n != x.car))) 35 rfl (by rw [u4]; rfl) ?_
       refine wN (tN ?_)
       exact fun aa ww nn dd hs H => hKK aa ww nn dd (sat_sub ⟨rfl, rfl, rfl, rfl, rfl, rfl, rfl, rfl, rfl, trivial⟩ hs) H
     · skip
       refine wB (c := false) 25 rfl u4 ?_
       refine p_assignR rfl ?_
       refine wLd rfl tyint 1 rfl rfl ?_
       iterate 2 refine p_assignR rfl ?_
       refine wCut 5 [(34, .bool ((x.kind == 3) && (n != x.car))), (0, .agg (cA c)), (1, .agg (xA x)), (2, .int .i64 n), (3, .pointer (some ⟨b3, 0, none⟩)), (4, .pointer (some ⟨b4, 0, none⟩)), (6, .pointer (some ⟨b6, 0, none⟩)), (7, .int .i64 0), (10, .bool (x.state != 1)), (25, .bool false)] ?_ ?_
       · intro KK hKK
         rcases Bool.eq_false_or_eq_true (x.kind == 3) with u5 | u5
         · skip
           refine wB (c := true) 29 rfl u5 ?_
           iterate 2 refine p_assignR rfl ?_
           refine wLd rfl tyint 1 rfl rfl ?_
           refine p_assignR rfl ?_
           refine p_assignR rfl ?_
           refine wB (c := (x.kind == 3) && (n != x.car)) 34 rfl (by rw [u5]; rfl) ?_
           refine wN (tN ?_)
           exact fun aa ww nn dd hs H => hKK aa ww nn dd (sat_sub ⟨rfl, rfl, rfl, rfl, rfl, rfl, rfl, rfl, rfl, rfl, trivial⟩ hs) H
         · skip
           refine wB (c := false) 29 rfl u5 ?_
           iterate 4 refine p_assignR rfl ?_
           refine p_assignR rfl ?_
           refine wB (c := (x.kind == 3) && (n != x.car)) 34 rfl (by rw [u5]; rfl) ?_
           refine wN (tN ?_)
           exact fun aa ww nn dd hs H => hKK aa ww nn dd (sat_sub ⟨rfl, rfl, rfl, rfl, rfl, rfl, rfl, rfl, rfl, rfl, trivial⟩ hs) H
       refine p_assignR rfl ?_
       refine wB (c := (((!(checkV c == 0)) || (decide (n < 1))) || (decide (c.cars < n))) || ((x.kind == 3) && (n != x.car))) 35 rfl (by rw [u4]; rfl) ?_
       refine wN (tN ?_)
       exact fun aa ww nn dd hs H => hKK aa ww nn dd (sat_sub ⟨rfl, rfl, rfl, rfl, rfl, rfl, rfl, rfl, rfl, trivial⟩ hs) H
   refine wN ?_
   refine tN (wKK hK6 ?_)
   refine wCond (E := (((!(checkV c == 0)) || (decide (n < 1))) || (decide (c.cars < n))) || ((x.kind == 3) && (n != x.car))) rfl (fun z6 => ?_) (fun z6 => ?_)
   · skip
     refine wSeqK fun KK7 hK7 => ?_
     refine wReg ?_
     refine wE (.agg (xA zeroC)) rfl rfl rfl (fun aa ww hs _ => by simp only [execOp]; go_simp <;> first | rfl | omega) ?_
     refine wSr rfl tyapi_Call 0 rfl rfl rfl rfl (xL zeroC) (by first | rfl | (simp only [spl]; rfl)) ?_
     refine p_assignR rfl ?_
     refine wN ?_
     refine tN (wKK hK7 ?_)
     refine wRet ?_
     refine tR ?_
     exact wRct tyapi_Call rfl rfl rfl 0 rfl rfl (fun ww H => ⟨by rw [← asg_is]; simp only [asgR, z1, z1o, z6, cond_true, cond_false, Bool.not_true, Bool.not_false, Bool.true_and, Bool.and_true, Bool.false_and, Bool.and_false, Bool.true_or, Bool.or_true, Bool.false_or, Bool.or_false] <;> rfl, H.out.off⟩)
   · skip
     have z6l : (((!(checkV c == 0)) || (decide (n < 1))) || (decide (c.cars < n))) = false := Reg.ol z6
     have z6ll : ((!(checkV c == 0)) || (decide (n < 1))) = false := Reg.ol z6l
     have z6lll : (!(checkV c == 0)) = false := Reg.ol z6ll
     have z6llln : (checkV c == 0) = true := Reg.bt z6lll
     have z6lllno : (checkV c != 0) = false := eqq_t z6llln
     have z6llr : (decide (n < 1)) = false := Reg.orr z6ll
     have z6llrd : ¬ (n < 1) := of_decide_eq_false z6llr
     have z6lr : (decide (c.cars < n)) = false := Reg.orr z6l
     have z6lrd : ¬ (c.cars < n) := of_decide_eq_false z6lr
     have z6r : ((x.kind == 3) && (n != x.car)) = false := Reg.orr z6
     refine wSk ?_
     refine tN (wKK hK5 ?_)
     refine wSeqK fun KK8 hK8 => ?_
     refine wReg ?_
     refine p_assignR rfl ?_
     refine wSt rfl tyint 1 rfl rfl rfl rfl ?_
     refine wN ?_
     refine tN (wKK hK8 ?_)
     refine wSeqK fun KK9 hK9 => ?_
     refine wReg ?_
     iterate 2 refine p_assignR rfl ?_
     refine wSt rfl tyint 1 rfl rfl rfl rfl ?_
     refine wN ?_
     refine tN (wKK hK9 ?_)
     refine wSeqK fun KK10 hK10 => ?_
     refine wReg ?_
     refine wLr rfl tyapi_Call 1 rfl [.int .i64 x.id, .int .i64 x.kind, .int .i64 x.src, .int .i64 x.dst, .int .i64 n, .int .i64 2, .int .i64 x.owner, .int .i64 x.born] rfl rfl ?_
     refine wSr rfl tyapi_Call 0 rfl rfl rfl rfl [.int .i64 x.id, .int .i64 x.kind, .int .i64 x.src, .int .i64 x.dst, .int .i64 n, .int .i64 2, .int .i64 x.owner, .int .i64 x.born] (by first | rfl | (simp only [spl]; rfl)) ?_
     refine p_assignR rfl ?_
     refine wN ?_
     refine tN (wKK hK10 ?_)
     refine wRet ?_
     exact wRct tyapi_Call rfl rfl rfl 0 rfl rfl (fun ww H => ⟨by rw [← asg_is]; simp only [asgR, z1, z1o, z6, z6l, z6ll, z6lll, z6llln, z6lllno, z6llr, z6lr, z6r, cond_true, cond_false, Bool.not_true, Bool.not_false, Bool.true_and, Bool.and_true, Bool.false_and, Bool.and_false, Bool.true_or, Bool.or_true, Bool.false_or, Bool.or_false] <;> rfl, H.out.off⟩)
def tab_leaveR : Wk.Tab := [(38, 2, 2), (38, 3, 3), (38, 5, 5)]
theorem p_leaveR {ops : Array Oper} {rest : List Oper} {o : Oper} {w0 : World} {Q : Exit → Act → World → Prop} {S : List Nat} {R : List Res} {K K' : Wk.Env} {N : Nat} (h : Wk.stp tab_leaveR N ops K o = some K') (n : Wk.Wk N S w0 K' R (wpList Try.prog ops Q rest)) : Wk.Wk N S w0 K R (wpList Try.prog ops Q (o :: rest)) := Wk.wP (T := tab_leaveR) (by kernel_rfl) h n
set_option maxHeartbeats 16000000 in
set_option maxRecDepth 20000 in
theorem leaveR (c : Cfg) (x : CallV) (n : Int) (w : World) : Calls Try.prog 79 #[.agg (cA c), .agg (xA x), .int .i64 n] w fun e w' => e = .returned (.tuple #[.agg #[.int .i64 (((leaveV c x n).1).id), .int .i64 (((leaveV c x n).1).kind), .int .i64 (((leaveV c x n).1).src), .int .i64 (((leaveV c x n).1).dst), .int .i64 (((leaveV c x n).1).car), .int .i64 (((leaveV c x n).1).state), .int .i64 (((leaveV c x n).1).owner), .int .i64 (((leaveV c x n).1).born)], .int .i64 (leaveV c x n).2]) ∧ Off [] w w' := by
 have H := Lib.hid (Hp.start [] w)
 refine wStart (args := [.agg (cA c), .agg (xA x), .int .i64 n]) Try.func79 rfl rfl rfl H ?_
 clear H
 show Wk 40 _ _ [(0, .agg (cA c)), (1, .agg (xA x)), (2, .int .i64 n)] _ _
 refine wSeqK fun KK1 hK1 => ?_
 refine wReg ?_
 refine wBx rfl rfl rfl fun b3 => ?_
 refine wBx rfl rfl rfl fun b4 => ?_
 refine wAl rfl rfl tyapi_Call fun b6 => ?_
 refine p_leaveR rfl ?_
 refine wN ?_
 refine tN (wKK hK1 ?_)
 refine wSeqK fun KK2 hK2 => ?_
 refine wSeqK fun KK3 hK3 => ?_
 refine wReg ?_
 refine p_leaveR rfl ?_
 refine wLd rfl tyint 1 rfl rfl ?_
 iterate 2 refine p_leaveR rfl ?_
 refine wCut 4 [(15, .bool ((x.state != 2) && (x.state != 3))), (0, .agg (cA c)), (1, .agg (xA x)), (2, .int .i64 n), (3, .pointer (some ⟨b3, 0, none⟩)), (4, .pointer (some ⟨b4, 0, none⟩)), (6, .pointer (some ⟨b6, 0, none⟩)), (7, .int .i64 0)] ?_ ?_
 · intro KK hKK
   rcases Bool.eq_false_or_eq_true (x.state != 2) with u1 | u1
   · skip
     refine wB (c := true) 11 rfl u1 ?_
     refine p_leaveR rfl ?_
     refine wLd rfl tyint 1 rfl rfl ?_
     refine p_leaveR rfl ?_
     refine p_leaveR rfl ?_
     refine wB (c := (x.state != 2) && (x.state != 3)) 15 rfl (by rw [u1]; rfl) ?_
     refine wN (tN ?_)
     exact fun aa ww nn dd hs H => hKK aa ww nn dd (sat_sub ⟨rfl, rfl, rfl, rfl, rfl, rfl, rfl, rfl, trivial⟩ hs) H
   · skip
     refine wB (c := false) 11 rfl u1 ?_
     iterate 3 refine p_leaveR rfl ?_
     refine p_leaveR rfl ?_
     refine wB (c := (x.state != 2) && (x.state != 3)) 15 rfl (by rw [u1]; rfl) ?_
     refine wN (tN ?_)
     exact fun aa ww nn dd hs H => hKK aa ww nn dd (sat_sub ⟨rfl, rfl, rfl, rfl, rfl, rfl, rfl, rfl, trivial⟩ hs) H
 refine wN ?_
 refine tN (wKK hK3 ?_)
 refine wCond (E := (x.state != 2) && (x.state != 3)) rfl (fun z2 => ?_) (fun z2 => ?_)
 · skip
   have z2l : (x.state != 2) = true := Reg.bl z2
   have z2lo : (x.state == 2) = false := neq_t z2l
   have z2r : (x.state != 3) = true := Reg.br z2
   have z2ro : (x.state == 3) = false := neq_t z2r
   refine wSeqK fun KK4 hK4 => ?_
   refine wReg ?_
   refine wE (.agg (xA zeroC)) rfl rfl rfl (fun aa ww hs _ => by simp only [execOp]; go_simp <;> first | rfl | omega) ?_
   refine wSr rfl tyapi_Call 0 rfl rfl rfl rfl (xL zeroC) (by first | rfl | (simp only [spl]; rfl)) ?_
   refine p_leaveR rfl ?_
   refine wN ?_
   refine tN (wKK hK4 ?_)
   refine wRet ?_
   refine tR ?_
   exact wRct tyapi_Call rfl rfl rfl 0 rfl rfl (fun ww H => ⟨by rw [← lv_is]; simp only [lvR, z2, z2l, z2lo, z2r, z2ro, cond_true, cond_false, Bool.not_true, Bool.not_false, Bool.true_and, Bool.and_true, Bool.false_and, Bool.and_false, Bool.true_or, Bool.or_true, Bool.false_or, Bool.or_false] <;> rfl, H.out.off⟩)
 · skip
   refine wSk ?_
   refine tN (wKK hK2 ?_)
   refine wSeqK fun KK5 hK5 => ?_
   refine wSeqK fun KK6 hK6 => ?_
   refine wReg ?_
   refine wLr rfl tyapi_Config 2 rfl (cL c) rfl rfl ?_
   refine wQ (l := [.agg (cA c)]) Try.func30 rfl (by kernel_rfl) (.bool (checkV c == 0)) (fun wc H => goodR c wc) rfl rfl rfl rfl ?_
   iterate 2 refine p_leaveR rfl ?_
   refine wCut 5 [(25, .bool ((!(checkV c == 0)) || (!(floR c n)))), (0, .agg (cA c)), (1, .agg (xA x)), (2, .int .i64 n), (3, .pointer (some ⟨b3, 0, none⟩)), (4, .pointer (some ⟨b4, 0, none⟩)), (6, .pointer (some ⟨b6, 0, none⟩)), (7, .int .i64 0), (15, .bool ((x.state != 2) && (x.state != 3)))] ?_ ?_
   · intro KK hKK
     rcases Bool.eq_false_or_eq_true (!(checkV c == 0)) with u3 | u3
     · skip
       refine wB (c := true) 20 rfl u3 ?_
       iterate 4 refine p_leaveR rfl ?_
       refine p_leaveR rfl ?_
       refine wB (c := (!(checkV c == 0)) || (!(floR c n))) 25 rfl (by rw [u3]; rfl) ?_
       refine wN (tN ?_)
       exact fun aa ww nn dd hs H => hKK aa ww nn dd (sat_sub ⟨rfl, rfl, rfl, rfl, rfl, rfl, rfl, rfl, rfl, trivial⟩ hs) H
     · skip
       refine wB (c := false) 20 rfl u3 ?_
       refine wLr rfl tyapi_Config 2 rfl (cL c) rfl rfl ?_
       refine p_leaveR rfl ?_
       refine wQ (l := [.agg (cA c), .int .i64 n]) Try.func76 rfl (by kernel_rfl) (.bool (floR c n)) (fun wc H => floorR c n wc) rfl rfl rfl rfl ?_
       refine p_leaveR rfl ?_
       refine p_leaveR rfl ?_
       refine wB (c := (!(checkV c == 0)) || (!(floR c n))) 25 rfl (by rw [u3]; rfl) ?_
       refine wN (tN ?_)
       exact fun aa ww nn dd hs H => hKK aa ww nn dd (sat_sub ⟨rfl, rfl, rfl, rfl, rfl, rfl, rfl, rfl, rfl, trivial⟩ hs) H
   refine wN ?_
   refine tN (wKK hK6 ?_)
   refine wCond (E := (!(checkV c == 0)) || (!(floR c n))) rfl (fun z4 => ?_) (fun z4 => ?_)
   · skip
     refine wSeqK fun KK7 hK7 => ?_
     refine wReg ?_
     refine wE (.agg (xA zeroC)) rfl rfl rfl (fun aa ww hs _ => by simp only [execOp]; go_simp <;> first | rfl | omega) ?_
     refine wSr rfl tyapi_Call 0 rfl rfl rfl rfl (xL zeroC) (by first | rfl | (simp only [spl]; rfl)) ?_
     refine p_leaveR rfl ?_
     refine wN ?_
     refine tN (wKK hK7 ?_)
     refine wRet ?_
     refine tR ?_
     exact wRct tyapi_Call rfl rfl rfl 0 rfl rfl (fun ww H => ⟨by rw [← lv_is]; simp only [lvR, z2, z4, cond_true, cond_false, Bool.not_true, Bool.not_false, Bool.true_and, Bool.and_true, Bool.false_and, Bool.and_false, Bool.true_or, Bool.or_true, Bool.false_or, Bool.or_false] <;> rfl, H.out.off⟩)
   · skip
     have z4l : (!(checkV c == 0)) = false := Reg.ol z4
     have z4ln : (checkV c == 0) = true := Reg.bt z4l
     have z4lno : (checkV c != 0) = false := eqq_t z4ln
     have z4r : (!(floR c n)) = false := Reg.orr z4
     have z4rn : (floR c n) = true := Reg.bt z4r
     refine wSk ?_
     refine tN (wKK hK5 ?_)
     refine wSeqK fun KK8 hK8 => ?_
     refine wSeqK fun KK9 hK9 => ?_
     refine wReg ?_
     refine p_leaveR rfl ?_
     refine wLd rfl tyint 1 rfl rfl ?_
     refine p_leaveR rfl ?_
     refine wN ?_
     refine tN (wKK hK9 ?_)
     refine wCond (E := x.state == 3) rfl (fun z5 => ?_) (fun z5 => ?_)
     · skip
       have z5o : (x.state != 3) = false := eqq_t z5
       refine wSeqK fun KK10 hK10 => ?_
       refine wSeqK fun KK11 hK11 => ?_
       refine wReg ?_
       refine p_leaveR rfl ?_
       refine wLd rfl tyint 1 rfl rfl ?_
       iterate 2 refine p_leaveR rfl ?_
       refine wN ?_
       refine tN (wKK hK11 ?_)
       refine wCond (E := x.dst == n) rfl (fun z6 => ?_) (fun z6 => ?_)
       · skip
         have z6o : (x.dst != n) = false := eqq_t z6
         refine wSeqK fun KK12 hK12 => ?_
         refine wReg ?_
         refine p_leaveR rfl ?_
         refine wSt rfl tyint 1 rfl rfl rfl rfl ?_
         refine wN ?_
         refine tN (wKK hK12 ?_)
         refine wSeqK fun KK13 hK13 => ?_
         refine wReg ?_
         refine wLr rfl tyapi_Call 1 rfl [.int .i64 x.id, .int .i64 x.kind, .int .i64 x.src, .int .i64 x.dst, .int .i64 x.car, .int .i64 4, .int .i64 x.owner, .int .i64 x.born] rfl rfl ?_
         refine wSr rfl tyapi_Call 0 rfl rfl rfl rfl [.int .i64 x.id, .int .i64 x.kind, .int .i64 x.src, .int .i64 x.dst, .int .i64 x.car, .int .i64 4, .int .i64 x.owner, .int .i64 x.born] (by first | rfl | (simp only [spl]; rfl)) ?_
         refine p_leaveR rfl ?_
         refine wN ?_
         refine tN (wKK hK13 ?_)
         refine wRet ?_
         refine tR (tR ?_)
         exact wRct tyapi_Call rfl rfl rfl 0 rfl rfl (fun ww H => ⟨by rw [← lv_is]; simp only [lvR, z2, z4, z4l, z4ln, z4lno, z4r, z4rn, z5, z5o, z6, z6o, cond_true, cond_false, Bool.not_true, Bool.not_false, Bool.true_and, Bool.and_true, Bool.false_and, Bool.and_false, Bool.true_or, Bool.or_true, Bool.false_or, Bool.or_false] <;> rfl, H.out.off⟩)
       · skip
         have z6o : (x.dst != n) = true := eqq_f z6
         refine wSk ?_
         refine tN (wKK hK10 ?_)
         refine wReg ?_
         iterate 2 refine p_leaveR rfl ?_
         refine wSt rfl tyint 1 rfl rfl rfl rfl ?_
         refine wN ?_
         refine tN (wKK hK8 ?_)
         refine wSeqK fun KK14 hK14 => ?_
         refine wReg ?_
         refine wLr rfl tyapi_Call 1 rfl [.int .i64 x.id, .int .i64 x.kind, .int .i64 n, .int .i64 x.dst, .int .i64 x.car, .int .i64 x.state, .int .i64 x.owner, .int .i64 x.born] rfl rfl ?_
         refine wQ (l := [.agg #[.int .i64 x.id, .int .i64 x.kind, .int .i64 n, .int .i64 x.dst, .int .i64 x.car, .int .i64 x.state, .int .i64 x.owner, .int .i64 x.born], .int .i64 1]) Try.func111 rfl (by kernel_rfl) (.agg (xA (freeV (⟨x.id, x.kind, n, x.dst, x.car, x.state, x.owner, x.born⟩ : CallV) 1))) (fun wc H => freeR (⟨x.id, x.kind, n, x.dst, x.car, x.state, x.owner, x.born⟩ : CallV) 1 wc) rfl rfl rfl rfl ?_
         refine wSr rfl tyapi_Call 0 rfl rfl rfl rfl (xL (freeV (⟨x.id, x.kind, n, x.dst, x.car, x.state, x.owner, x.born⟩ : CallV) 1)) (by first | rfl | (simp only [spl]; rfl)) ?_
         refine p_leaveR rfl ?_
         refine wN ?_
         refine tN (wKK hK14 ?_)
         refine wRet ?_
         exact wRct tyapi_Call rfl rfl rfl 0 rfl rfl (fun ww H => ⟨by rw [← lv_is]; simp only [lvR, z2, z4, z4l, z4ln, z4lno, z4r, z4rn, z5, z5o, z6, z6o, cond_true, cond_false, Bool.not_true, Bool.not_false, Bool.true_and, Bool.and_true, Bool.false_and, Bool.and_false, Bool.true_or, Bool.or_true, Bool.false_or, Bool.or_false] <;> rfl, H.out.off⟩)
     · skip
       have z5o : (x.state != 3) = true := eqq_f z5
       have z2c2 : (x.state != 2) = false := af2 z2 z5o
       have z2c2o : (x.state == 2) = true := neq_f z2c2
       refine wSk ?_
       refine tN (wKK hK8 ?_)
       refine wSeqK fun KK15 hK15 => ?_
       refine wReg ?_
       refine wLr rfl tyapi_Call 1 rfl (xL x) rfl rfl ?_
       refine wQ (l := [.agg (xA x), .int .i64 1]) Try.func111 rfl (by kernel_rfl) (.agg (xA (freeV x 1))) (fun wc H => freeR x 1 wc) rfl rfl rfl rfl ?_
       refine wSr rfl tyapi_Call 0 rfl rfl rfl rfl (xL (freeV x 1)) (by first | rfl | (simp only [spl]; rfl)) ?_
       refine p_leaveR rfl ?_
       refine wN ?_
       refine tN (wKK hK15 ?_)
       refine wRet ?_
       exact wRct tyapi_Call rfl rfl rfl 0 rfl rfl (fun ww H => ⟨by rw [← lv_is]; simp only [lvR, z2, z4, z4l, z4ln, z4lno, z4r, z4rn, z5, z5o, z2c2, z2c2o, cond_true, cond_false, Bool.not_true, Bool.not_false, Bool.true_and, Bool.and_true, Bool.false_and, Bool.and_false, Bool.true_or, Bool.or_true, Bool.false_or, Bool.or_false] <;> rfl, H.out.off⟩)
def tab_endsR : Wk.Tab := [(38, 1, 1), (38, 5, 5)]
theorem p_endsR {ops : Array Oper} {rest : List Oper} {o : Oper} {w0 : World} {Q : Exit → Act → World → Prop} {S : List Nat} {R : List Res} {K K' : Wk.Env} {N : Nat} (h : Wk.stp tab_endsR N ops K o = some K') (n : Wk.Wk N S w0 K' R (wpList Try.prog ops Q rest)) : Wk.Wk N S w0 K R (wpList Try.prog ops Q (o :: rest)) := Wk.wP (T := tab_endsR) (by kernel_rfl) h n
set_option maxHeartbeats 16000000 in
set_option maxRecDepth 20000 in
theorem endsR (x : CallV) (how : Int) (w : World) : Calls Try.prog 77 #[.agg (xA x), .int .i64 how] w fun e w' => e = .returned (.tuple #[.agg #[.int .i64 (((endsV x how).1).id), .int .i64 (((endsV x how).1).kind), .int .i64 (((endsV x how).1).src), .int .i64 (((endsV x how).1).dst), .int .i64 (((endsV x how).1).car), .int .i64 (((endsV x how).1).state), .int .i64 (((endsV x how).1).owner), .int .i64 (((endsV x how).1).born)], .int .i64 (endsV x how).2]) ∧ Off [] w w' := by
 have H := Lib.hid (Hp.start [] w)
 refine wStart (args := [.agg (xA x), .int .i64 how]) Try.func77 rfl rfl rfl H ?_
 clear H
 show Wk 57 _ _ [(0, .agg (xA x)), (1, .int .i64 how)] _ _
 refine wSeqK fun KK1 hK1 => ?_
 refine wReg ?_
 refine wBx rfl rfl rfl fun b2 => ?_
 refine wAl rfl rfl tyapi_Call fun b4 => ?_
 refine p_endsR rfl ?_
 refine wN ?_
 refine tN (wKK hK1 ?_)
 refine wSeqK fun KK2 hK2 => ?_
 refine wReg ?_
 refine p_endsR rfl ?_
 refine wLd rfl tyint 1 rfl rfl ?_
 iterate 2 refine p_endsR rfl ?_
 refine wN ?_
 refine tN (wKK hK2 ?_)
 refine wSeqK fun KK3 hK3 => ?_
 refine wSeqK fun KK4 hK4 => ?_
 refine wReg ?_
 refine p_endsR rfl ?_
 refine wN ?_
 refine tN (wKK hK4 ?_)
 refine wBlk ?_
 refine wSeqK fun KK5 hK5 => ?_
 refine wReg ?_
 iterate 2 refine p_endsR rfl ?_
 refine wN ?_
 refine tN (wKK hK5 ?_)
 refine wCond (E := how == 1) rfl (fun z1 => ?_) (fun z1 => ?_)
 · skip
   have z1o : (how != 1) = false := eqq_t z1
   refine wSeqK fun KK6 hK6 => ?_
   refine wReg ?_
   refine p_endsR rfl ?_
   refine wLd rfl tyint 1 rfl rfl ?_
   iterate 2 refine p_endsR rfl ?_
   refine wCut 2 [(18, .bool ((x.state == 2) && (x.kind == 4))), (0, .agg (xA x)), (1, .int .i64 how), (2, .pointer (some ⟨b2, 0, none⟩)), (4, .pointer (some ⟨b4, 0, none⟩)), (5, .int .i64 0), (6, .bool (x.kind == 4)), (10, .int .i64 how), (11, .bool (how == 1))] ?_ ?_
   · intro KK hKK
     rcases Bool.eq_false_or_eq_true (x.state == 2) with u2 | u2
     · skip
       refine wB (c := true) 16 rfl u2 ?_
       refine p_endsR rfl ?_
       refine p_endsR rfl ?_
       refine wB (c := (x.state == 2) && (x.kind == 4)) 18 rfl (by rw [u2]; rfl) ?_
       refine wN (tN ?_)
       exact fun aa ww nn dd hs H => hKK aa ww nn dd (sat_sub ⟨rfl, rfl, rfl, rfl, rfl, rfl, rfl, rfl, rfl, trivial⟩ hs) H
     · skip
       refine wB (c := false) 16 rfl u2 ?_
       refine p_endsR rfl ?_
       refine p_endsR rfl ?_
       refine wB (c := (x.state == 2) && (x.kind == 4)) 18 rfl (by rw [u2]; rfl) ?_
       refine wN (tN ?_)
       exact fun aa ww nn dd hs H => hKK aa ww nn dd (sat_sub ⟨rfl, rfl, rfl, rfl, rfl, rfl, rfl, rfl, rfl, trivial⟩ hs) H
   refine wN ?_
   refine tN (wKK hK6 ?_)
   refine wCond (E := (x.state == 2) && (x.kind == 4)) rfl (fun z3 => ?_) (fun z3 => ?_)
   · skip
     have z3l : (x.state == 2) = true := Reg.bl z3
     have z3lo : (x.state != 2) = false := eqq_t z3l
     have z3r : (x.kind == 4) = true := Reg.br z3
     have z3ro : (x.kind != 4) = false := eqq_t z3r
     refine wSeqK fun KK7 hK7 => ?_
     refine wReg ?_
     refine p_endsR rfl ?_
     refine wSt rfl tyint 1 rfl rfl rfl rfl ?_
     refine wN ?_
     refine tN (wKK hK7 ?_)
     refine wSeqK fun KK8 hK8 => ?_
     refine wReg ?_
     refine wLr rfl tyapi_Call 1 rfl [.int .i64 x.id, .int .i64 x.kind, .int .i64 x.src, .int .i64 x.dst, .int .i64 x.car, .int .i64 3, .int .i64 x.owner, .int .i64 x.born] rfl rfl ?_
     refine wSr rfl tyapi_Call 0 rfl rfl rfl rfl [.int .i64 x.id, .int .i64 x.kind, .int .i64 x.src, .int .i64 x.dst, .int .i64 x.car, .int .i64 3, .int .i64 x.owner, .int .i64 x.born] (by first | rfl | (simp only [spl]; rfl)) ?_
     refine p_endsR rfl ?_
     refine wN ?_
     refine tN (wKK hK8 ?_)
     refine wRet ?_
     refine bR (tR ?_)
     exact wRct tyapi_Call rfl rfl rfl 0 rfl rfl (fun ww H => ⟨by simp only [endsV, z1, z1o, z3, z3l, z3lo, z3r, z3ro, cond_true, cond_false, Bool.not_true, Bool.not_false, Bool.true_and, Bool.and_true, Bool.false_and, Bool.and_false, Bool.true_or, Bool.or_true, Bool.false_or, Bool.or_false] <;> rfl, H.out.off⟩)
   · skip
     refine wSk ?_
     refine bN (tN (wKK hK3 ?_))
     refine wSeqK fun KK9 hK9 => ?_
     refine wReg ?_
     refine wE (.agg (xA zeroC)) rfl rfl rfl (fun aa ww hs _ => by simp only [execOp]; go_simp <;> first | rfl | omega) ?_
     refine wSr rfl tyapi_Call 0 rfl rfl rfl rfl (xL zeroC) (by first | rfl | (simp only [spl]; rfl)) ?_
     refine p_endsR rfl ?_
     refine wN ?_
     refine tN (wKK hK9 ?_)
     refine wRet ?_
     exact wRct tyapi_Call rfl rfl rfl 0 rfl rfl (fun ww H => ⟨by simp only [endsV, z1, z1o, z3, cond_true, cond_false, Bool.not_true, Bool.not_false, Bool.true_and, Bool.and_true, Bool.false_and, Bool.and_false, Bool.true_or, Bool.or_true, Bool.false_or, Bool.or_false] <;> rfl, H.out.off⟩)
 · skip
   have z1o : (how != 1) = true := eqq_f z1
   refine wSeqK fun KK10 hK10 => ?_
   refine wReg ?_
   iterate 2 refine p_endsR rfl ?_
   refine wN ?_
   refine tN (wKK hK10 ?_)
   refine wCond (E := how == 2) rfl (fun z4 => ?_) (fun z4 => ?_)
   · skip
     have z4o : (how != 2) = false := eqq_t z4
     refine wSeqK fun KK11 hK11 => ?_
     refine wReg ?_
     refine p_endsR rfl ?_
     refine wLd rfl tyint 1 rfl rfl ?_
     iterate 2 refine p_endsR rfl ?_
     refine wCut 8 [(34, .bool ((x.state == 3) || ((x.state == 2) && (!(x.kind == 4))))), (0, .agg (xA x)), (1, .int .i64 how), (2, .pointer (some ⟨b2, 0, none⟩)), (4, .pointer (some ⟨b4, 0, none⟩)), (5, .int .i64 0), (6, .bool (x.kind == 4)), (10, .int .i64 how), (11, .bool (how == 1)), (21, .bool (how == 2))] ?_ ?_
     · intro KK hKK
       rcases Bool.eq_false_or_eq_true (x.state == 3) with u5 | u5
       · skip
         refine wB (c := true) 26 rfl u5 ?_
         iterate 7 refine p_endsR rfl ?_
         refine p_endsR rfl ?_
         refine wB (c := (x.state == 3) || ((x.state == 2) && (!(x.kind == 4)))) 34 rfl (by rw [u5]; rfl) ?_
         refine wN (tN ?_)
         exact fun aa ww nn dd hs H => hKK aa ww nn dd (sat_sub ⟨rfl, rfl, rfl, rfl, rfl, rfl, rfl, rfl, rfl, rfl, trivial⟩ hs) H
       · skip
         refine wB (c := false) 26 rfl u5 ?_
         refine p_endsR rfl ?_
         refine wLd rfl tyint 1 rfl rfl ?_
         iterate 2 refine p_endsR rfl ?_
         refine wCut 3 [(33, .bool ((x.state == 2) && (!(x.kind == 4)))), (0, .agg (xA x)), (1, .int .i64 how), (2, .pointer (some ⟨b2, 0, none⟩)), (4, .pointer (some ⟨b4, 0, none⟩)), (5, .int .i64 0), (6, .bool (x.kind == 4)), (10, .int .i64 how), (11, .bool (how == 1)), (21, .bool (how == 2)), (26, .bool false)] ?_ ?_
         · intro KK hKK
           rcases Bool.eq_false_or_eq_true (x.state == 2) with u6 | u6
           · skip
             refine wB (c := true) 30 rfl u6 ?_
             iterate 2 refine p_endsR rfl ?_
             refine p_endsR rfl ?_
             refine wB (c := (x.state == 2) && (!(x.kind == 4))) 33 rfl (by rw [u6]; rfl) ?_
             refine wN (tN ?_)
             exact fun aa ww nn dd hs H => hKK aa ww nn dd (sat_sub ⟨rfl, rfl, rfl, rfl, rfl, rfl, rfl, rfl, rfl, rfl, rfl, trivial⟩ hs) H
           · skip
             refine wB (c := false) 30 rfl u6 ?_
             iterate 2 refine p_endsR rfl ?_
             refine p_endsR rfl ?_
             refine wB (c := (x.state == 2) && (!(x.kind == 4))) 33 rfl (by rw [u6]; rfl) ?_
             refine wN (tN ?_)
             exact fun aa ww nn dd hs H => hKK aa ww nn dd (sat_sub ⟨rfl, rfl, rfl, rfl, rfl, rfl, rfl, rfl, rfl, rfl, rfl, trivial⟩ hs) H
         refine p_endsR rfl ?_
         refine wB (c := (x.state == 3) || ((x.state == 2) && (!(x.kind == 4)))) 34 rfl (by rw [u5]; rfl) ?_
         refine wN (tN ?_)
         exact fun aa ww nn dd hs H => hKK aa ww nn dd (sat_sub ⟨rfl, rfl, rfl, rfl, rfl, rfl, rfl, rfl, rfl, rfl, trivial⟩ hs) H
     refine wN ?_
     refine tN (wKK hK11 ?_)
     refine wCond (E := (x.state == 3) || ((x.state == 2) && (!(x.kind == 4)))) rfl (fun z7 => ?_) (fun z7 => ?_)
     · skip
       refine wSeqK fun KK12 hK12 => ?_
       refine wReg ?_
       refine p_endsR rfl ?_
       refine wSt rfl tyint 1 rfl rfl rfl rfl ?_
       refine wN ?_
       refine tN (wKK hK12 ?_)
       refine wSeqK fun KK13 hK13 => ?_
       refine wReg ?_
       refine wLr rfl tyapi_Call 1 rfl [.int .i64 x.id, .int .i64 x.kind, .int .i64 x.src, .int .i64 x.dst, .int .i64 x.car, .int .i64 4, .int .i64 x.owner, .int .i64 x.born] rfl rfl ?_
       refine wSr rfl tyapi_Call 0 rfl rfl rfl rfl [.int .i64 x.id, .int .i64 x.kind, .int .i64 x.src, .int .i64 x.dst, .int .i64 x.car, .int .i64 4, .int .i64 x.owner, .int .i64 x.born] (by first | rfl | (simp only [spl]; rfl)) ?_
       refine p_endsR rfl ?_
       refine wN ?_
       refine tN (wKK hK13 ?_)
       refine wRet ?_
       refine bR (tR ?_)
       exact wRct tyapi_Call rfl rfl rfl 0 rfl rfl (fun ww H => ⟨by simp only [endsV, z1, z1o, z4, z4o, z7, cond_true, cond_false, Bool.not_true, Bool.not_false, Bool.true_and, Bool.and_true, Bool.false_and, Bool.and_false, Bool.true_or, Bool.or_true, Bool.false_or, Bool.or_false] <;> rfl, H.out.off⟩)
     · skip
       have z7l : (x.state == 3) = false := Reg.ol z7
       have z7lo : (x.state != 3) = true := eqq_f z7l
       have z7r : ((x.state == 2) && (!(x.kind == 4))) = false := Reg.orr z7
       refine wSk ?_
       refine bN (tN (wKK hK3 ?_))
       refine wSeqK fun KK14 hK14 => ?_
       refine wReg ?_
       refine wE (.agg (xA zeroC)) rfl rfl rfl (fun aa ww hs _ => by simp only [execOp]; go_simp <;> first | rfl | omega) ?_
       refine wSr rfl tyapi_Call 0 rfl rfl rfl rfl (xL zeroC) (by first | rfl | (simp only [spl]; rfl)) ?_
       refine p_endsR rfl ?_
       refine wN ?_
       refine tN (wKK hK14 ?_)
       refine wRet ?_
       exact wRct tyapi_Call rfl rfl rfl 0 rfl rfl (fun ww H => ⟨by simp only [endsV, z1, z1o, z4, z4o, z7, z7l, z7lo, z7r, cond_true, cond_false, Bool.not_true, Bool.not_false, Bool.true_and, Bool.and_true, Bool.false_and, Bool.and_false, Bool.true_or, Bool.or_true, Bool.false_or, Bool.or_false] <;> rfl, H.out.off⟩)
   · skip
     have z4o : (how != 2) = true := eqq_f z4
     refine wSeqK fun KK15 hK15 => ?_
     refine wReg ?_
     iterate 2 refine p_endsR rfl ?_
     refine wN ?_
     refine tN (wKK hK15 ?_)
     refine wCond (E := how == 3) rfl (fun z8 => ?_) (fun z8 => ?_)
     · skip
       have z8o : (how != 3) = false := eqq_t z8
       refine wSeqK fun KK16 hK16 => ?_
       refine wReg ?_
       refine p_endsR rfl ?_
       refine wLd rfl tyint 1 rfl rfl ?_
       iterate 2 refine p_endsR rfl ?_
       refine wCut 4 [(46, .bool ((x.state == 1) || (x.state == 2))), (0, .agg (xA x)), (1, .int .i64 how), (2, .pointer (some ⟨b2, 0, none⟩)), (4, .pointer (some ⟨b4, 0, none⟩)), (5, .int .i64 0), (6, .bool (x.kind == 4)), (10, .int .i64 how), (11, .bool (how == 1)), (21, .bool (how == 2)), (37, .bool (how == 3))] ?_ ?_
       · intro KK hKK
         rcases Bool.eq_false_or_eq_true (x.state == 1) with u9 | u9
         · skip
           refine wB (c := true) 42 rfl u9 ?_
           iterate 3 refine p_endsR rfl ?_
           refine p_endsR rfl ?_
           refine wB (c := (x.state == 1) || (x.state == 2)) 46 rfl (by rw [u9]; rfl) ?_
           refine wN (tN ?_)
           exact fun aa ww nn dd hs H => hKK aa ww nn dd (sat_sub ⟨rfl, rfl, rfl, rfl, rfl, rfl, rfl, rfl, rfl, rfl, rfl, trivial⟩ hs) H
         · skip
           refine wB (c := false) 42 rfl u9 ?_
           refine p_endsR rfl ?_
           refine wLd rfl tyint 1 rfl rfl ?_
           refine p_endsR rfl ?_
           refine p_endsR rfl ?_
           refine wB (c := (x.state == 1) || (x.state == 2)) 46 rfl (by rw [u9]; rfl) ?_
           refine wN (tN ?_)
           exact fun aa ww nn dd hs H => hKK aa ww nn dd (sat_sub ⟨rfl, rfl, rfl, rfl, rfl, rfl, rfl, rfl, rfl, rfl, rfl, trivial⟩ hs) H
       refine wN ?_
       refine tN (wKK hK16 ?_)
       refine wCond (E := (x.state == 1) || (x.state == 2)) rfl (fun z10 => ?_) (fun z10 => ?_)
       · skip
         refine wSeqK fun KK17 hK17 => ?_
         refine wReg ?_
         refine p_endsR rfl ?_
         refine wSt rfl tyint 1 rfl rfl rfl rfl ?_
         refine wN ?_
         refine tN (wKK hK17 ?_)
         refine wSeqK fun KK18 hK18 => ?_
         refine wReg ?_
         refine wLr rfl tyapi_Call 1 rfl [.int .i64 x.id, .int .i64 x.kind, .int .i64 x.src, .int .i64 x.dst, .int .i64 x.car, .int .i64 5, .int .i64 x.owner, .int .i64 x.born] rfl rfl ?_
         refine wSr rfl tyapi_Call 0 rfl rfl rfl rfl [.int .i64 x.id, .int .i64 x.kind, .int .i64 x.src, .int .i64 x.dst, .int .i64 x.car, .int .i64 5, .int .i64 x.owner, .int .i64 x.born] (by first | rfl | (simp only [spl]; rfl)) ?_
         refine p_endsR rfl ?_
         refine wN ?_
         refine tN (wKK hK18 ?_)
         refine wRet ?_
         refine bR (tR ?_)
         exact wRct tyapi_Call rfl rfl rfl 0 rfl rfl (fun ww H => ⟨by simp only [endsV, z1, z1o, z4, z4o, z8, z8o, z10, cond_true, cond_false, Bool.not_true, Bool.not_false, Bool.true_and, Bool.and_true, Bool.false_and, Bool.and_false, Bool.true_or, Bool.or_true, Bool.false_or, Bool.or_false] <;> rfl, H.out.off⟩)
       · skip
         have z10l : (x.state == 1) = false := Reg.ol z10
         have z10lo : (x.state != 1) = true := eqq_f z10l
         have z10r : (x.state == 2) = false := Reg.orr z10
         have z10ro : (x.state != 2) = true := eqq_f z10r
         refine wSk ?_
         refine bN (tN (wKK hK3 ?_))
         refine wSeqK fun KK19 hK19 => ?_
         refine wReg ?_
         refine wE (.agg (xA zeroC)) rfl rfl rfl (fun aa ww hs _ => by simp only [execOp]; go_simp <;> first | rfl | omega) ?_
         refine wSr rfl tyapi_Call 0 rfl rfl rfl rfl (xL zeroC) (by first | rfl | (simp only [spl]; rfl)) ?_
         refine p_endsR rfl ?_
         refine wN ?_
         refine tN (wKK hK19 ?_)
         refine wRet ?_
         exact wRct tyapi_Call rfl rfl rfl 0 rfl rfl (fun ww H => ⟨by simp only [endsV, z1, z1o, z4, z4o, z8, z8o, z10, z10l, z10lo, z10r, z10ro, cond_true, cond_false, Bool.not_true, Bool.not_false, Bool.true_and, Bool.and_true, Bool.false_and, Bool.and_false, Bool.true_or, Bool.or_true, Bool.false_or, Bool.or_false] <;> rfl, H.out.off⟩)
     · skip
       have z8o : (how != 3) = true := eqq_f z8
       refine wSeqK fun KK20 hK20 => ?_
       refine wReg ?_
       iterate 2 refine p_endsR rfl ?_
       refine wN ?_
       refine tN (wKK hK20 ?_)
       refine wCond (E := how == 4) rfl (fun z11 => ?_) (fun z11 => ?_)
       · skip
         have z11o : (how != 4) = false := eqq_t z11
         refine wSeqK fun KK21 hK21 => ?_
         refine wReg ?_
         refine p_endsR rfl ?_
         refine wLd rfl tyint 1 rfl rfl ?_
         refine p_endsR rfl ?_
         refine wN ?_
         refine tN (wKK hK21 ?_)
         refine wCond (E := x.state == 1) rfl (fun z12 => ?_) (fun z12 => ?_)
         · skip
           have z12o : (x.state != 1) = false := eqq_t z12
           refine wSeqK fun KK22 hK22 => ?_
           refine wReg ?_
           refine wLr rfl tyapi_Call 1 rfl (xL x) rfl rfl ?_
           refine wQ (l := [.agg (xA x), .int .i64 6]) Try.func111 rfl (by kernel_rfl) (.agg (xA (freeV x 6))) (fun wc H => freeR x 6 wc) rfl rfl rfl rfl ?_
           refine wSr rfl tyapi_Call 0 rfl rfl rfl rfl (xL (freeV x 6)) (by first | rfl | (simp only [spl]; rfl)) ?_
           refine p_endsR rfl ?_
           refine wN ?_
           refine tN (wKK hK22 ?_)
           refine wRet ?_
           refine bR (tR ?_)
           exact wRct tyapi_Call rfl rfl rfl 0 rfl rfl (fun ww H => ⟨by simp only [endsV, z1, z1o, z4, z4o, z8, z8o, z11, z11o, z12, z12o, cond_true, cond_false, Bool.not_true, Bool.not_false, Bool.true_and, Bool.and_true, Bool.false_and, Bool.and_false, Bool.true_or, Bool.or_true, Bool.false_or, Bool.or_false] <;> rfl, H.out.off⟩)
         · skip
           have z12o : (x.state != 1) = true := eqq_f z12
           refine wSk ?_
           refine bN (tN (wKK hK3 ?_))
           refine wSeqK fun KK23 hK23 => ?_
           refine wReg ?_
           refine wE (.agg (xA zeroC)) rfl rfl rfl (fun aa ww hs _ => by simp only [execOp]; go_simp <;> first | rfl | omega) ?_
           refine wSr rfl tyapi_Call 0 rfl rfl rfl rfl (xL zeroC) (by first | rfl | (simp only [spl]; rfl)) ?_
           refine p_endsR rfl ?_
           refine wN ?_
           refine tN (wKK hK23 ?_)
           refine wRet ?_
           exact wRct tyapi_Call rfl rfl rfl 0 rfl rfl (fun ww H => ⟨by simp only [endsV, z1, z1o, z4, z4o, z8, z8o, z11, z11o, z12, z12o, cond_true, cond_false, Bool.not_true, Bool.not_false, Bool.true_and, Bool.and_true, Bool.false_and, Bool.and_false, Bool.true_or, Bool.or_true, Bool.false_or, Bool.or_false] <;> rfl, H.out.off⟩)
       · skip
         have z11o : (how != 4) = true := eqq_f z11
         refine wSk ?_
         refine bN (tN (wKK hK3 ?_))
         refine wSeqK fun KK24 hK24 => ?_
         refine wReg ?_
         refine wE (.agg (xA zeroC)) rfl rfl rfl (fun aa ww hs _ => by simp only [execOp]; go_simp <;> first | rfl | omega) ?_
         refine wSr rfl tyapi_Call 0 rfl rfl rfl rfl (xL zeroC) (by first | rfl | (simp only [spl]; rfl)) ?_
         refine p_endsR rfl ?_
         refine wN ?_
         refine tN (wKK hK24 ?_)
         refine wRet ?_
         exact wRct tyapi_Call rfl rfl rfl 0 rfl rfl (fun ww H => ⟨by simp only [endsV, z1, z1o, z4, z4o, z8, z8o, z11, z11o, cond_true, cond_false, Bool.not_true, Bool.not_false, Bool.true_and, Bool.and_true, Bool.false_and, Bool.and_false, Bool.true_or, Bool.or_true, Bool.false_or, Bool.or_false] <;> rfl, H.out.off⟩)
theorem ends_1 (a : CallV) : endsV a 1 = boardV a := rfl
theorem ends_2 (a : CallV) : endsV a 2 = serveV a := rfl
theorem ends_3 (a : CallV) : endsV a 3 = cancelV a := rfl
theorem ends_4 (a : CallV) : endsV a 4 = expireV a := by
  unfold endsV expireV
  simp only [show ((4 : Int) == 1) = false from rfl, show ((4 : Int) == 2) = false from rfl, show ((4 : Int) == 3) = false from rfl, show ((4 : Int) == 4) = true from rfl, cond_true, cond_false, bne]
  cases (a.state == 1) <;> rfl
theorem may_good {c : Cfg} (a b : CallV) (h : checkV c = 0) : mayV c a b = ((goneB (assignV c a b.car) b) || (goneB (boardV a) b || (goneB (serveV a) b || (goneB (cancelV a) b || (goneB (expireV a) b || leftV c a b))))) := by
  unfold mayV
  rw [h]
  simp only [show ((0 : Int) != 0) = false from rfl, cond_false]
  cases goneB (assignV c a b.car) b <;> cases goneB (boardV a) b <;> cases goneB (serveV a) b <;> cases goneB (cancelV a) b <;> cases goneB (expireV a) b <;> rfl
theorem may_bad {c : Cfg} (a b : CallV) (h : (checkV c == 0) = false) : mayV c a b = false := by
  unfold mayV
  rw [show (checkV c != 0) = true by rw [bne, h]; rfl]
  rfl
theorem gone_at {y : CallV × Int} {b : CallV} (h : goneB y b = true) : y.2 = 0 ∧ y.1 = b := by
  unfold goneB at h
  simpa using h
theorem may_ends {c : Cfg} {a b : CallV} (hc : (checkV c == 0) = true) {k : Nat} (hk : 1 ≤ k ∧ k ≤ 4) (h : goneB (endsV a k) b = true) : mayV c a b = true := by
  rw [may_good a b (by simpa using hc)]
  have : k = 1 ∨ k = 2 ∨ k = 3 ∨ k = 4 := by omega
  rcases this with rfl | rfl | rfl | rfl
  · rw [show ((1 : Nat) : Int) = 1 from rfl, ends_1] at h; rw [h]; simp
  · rw [show ((2 : Nat) : Int) = 2 from rfl, ends_2] at h; rw [h]; simp
  · rw [show ((3 : Nat) : Int) = 3 from rfl, ends_3] at h; rw [h]; simp
  · rw [show ((4 : Nat) : Int) = 4 from rfl, ends_4] at h; rw [h]; simp
theorem asg_car {c : Cfg} {a b : CallV} {n : Int} (h : goneB (assignV c a n) b = true) : b.car = n ∧ carV c n = true := by
  obtain ⟨h1, h2⟩ := gone_at h
  unfold assignV at h1 h2
  cases e1 : (a.state != 1) with
  | true => rw [e1] at h1; cases h1
  | false =>
    rw [e1] at h1 h2
    simp only [cond_false] at h1 h2
    cases e2 : ((!(carV c n)) || ((a.kind == 3) && (a.car != n))) with
    | true => rw [e2] at h1; cases h1
    | false =>
      rw [e2] at h2
      simp only [cond_false] at h2
      refine ⟨by rw [← h2], ?_⟩
      have := ol e2
      simpa using this
theorem may_assign {c : Cfg} {a b : CallV} (hc : (checkV c == 0) = true) {n : Int} (h : goneB (assignV c a n) b = true) : mayV c a b = true := by
  rw [may_good a b (by simpa using hc), (asg_car h).1, h]
  rfl
theorem left_is (c : Cfg) (a b : CallV) : leftV c a b = bif a.state == 3 then goneB (leaveV c a b.src) b else goneB (leaveV c a 1) b := rfl
theorem free_src (x : CallV) (s : Int) : (freeV x s).src = x.src := by
  unfold freeV
  cases (x.kind != 3) <;> rfl
theorem may_leave {c : Cfg} {a b : CallV} (hc : (checkV c == 0) = true) {n : Int} (hn : 1 ≤ n ∧ n ≤ c.floors) (h : goneB (leaveV c a n) b = true) : mayV c a b = true := by
  have hc' : checkV c = 0 := by simpa using hc
  rw [may_good a b hc']
  have hf : floorV c n = true := by unfold floorV; simp [hc', hn]
  have hf1 : floorV c 1 = true := by unfold floorV; simp [hc']; omega
  obtain ⟨h1, h2⟩ := gone_at h
  unfold leaveV at h1 h2
  cases e1 : ((a.state != 2) && (a.state != 3)) with
  | true => rw [e1] at h1; cases h1
  | false =>
    rw [e1, hf] at h1 h2
    simp only [cond_false, Bool.not_true] at h1 h2
    cases e2 : (a.state == 2) with
    | true =>
      rw [e2] at h2
      simp only [cond_true] at h2
      have e3 : (a.state == 3) = false := by
        have : a.state = 2 := by simpa using e2
        rw [this]; rfl
      have : leftV c a b = true := by
        rw [left_is, e3]
        simp only [cond_false]
        unfold goneB leaveV
        rw [e1, hf1, e2]
        simp [h2]
      rw [this]
      simp
    | false =>
      rw [e2] at h2
      simp only [cond_false] at h2
      have e3 : (a.state == 3) = true := by
        have x1 : ¬ a.state = 2 := by simpa using e2
        have x2 : a.state = 2 ∨ a.state = 3 := by
          have := e1
          simp at this
          omega
        simp
        omega
      cases e4 : (a.dst == n) with
      | true =>
        rw [e4] at h2
        simp only [cond_true] at h2
        have : goneB (serveV a) b = true := by
          unfold goneB serveV toV
          rw [e3]
          simp [h2]
        rw [this]
        simp
      | false =>
        rw [e4] at h2
        simp only [cond_false] at h2
        have hs : b.src = n := by rw [← h2, free_src]
        have : leftV c a b = true := by
          rw [left_is, e3]
          simp only [cond_true]
          unfold goneB leaveV
          rw [hs, e1, hf, e2, e4]
          simp [h2]
        rw [this]
        simp
theorem may_none {c : Cfg} {a b : CallV} (hc : (checkV c == 0) = true) (h1 : ∀ k : Nat, 1 ≤ k → k < 5 → goneB (endsV a k) b = false ∧ goneB (assignV c a k) b = false) (h2 : ∀ k : Nat, 1 ≤ k → (k : Int) ≤ c.floors → goneB (leaveV c a k) b = false) : mayV c a b = false := by
  have hc' : checkV c = 0 := by simpa using hc
  have hci := cfg_in (c := c) (by rw [hc']; rfl)
  rw [may_good a b hc']
  have g1 := (h1 1 (by omega) (by omega)).1
  have g2 := (h1 2 (by omega) (by omega)).1
  have g3 := (h1 3 (by omega) (by omega)).1
  have g4 := (h1 4 (by omega) (by omega)).1
  rw [show ((1 : Nat) : Int) = 1 from rfl, ends_1] at g1
  rw [show ((2 : Nat) : Int) = 2 from rfl, ends_2] at g2
  rw [show ((3 : Nat) : Int) = 3 from rfl, ends_3] at g3
  rw [show ((4 : Nat) : Int) = 4 from rfl, ends_4] at g4
  have g5 : goneB (assignV c a b.car) b = false := by
    cases e : goneB (assignV c a b.car) b with
    | false => rfl
    | true =>
      have hcar := (asg_car e).2
      unfold carV at hcar
      simp [hc'] at hcar
      have := (h1 b.car.toNat (by omega) (by omega)).2
      rw [show ((b.car.toNat : Nat) : Int) = b.car by omega, e] at this
      cases this
  have g6 : leftV c a b = false := by
    have key : ∀ n : Int, goneB (leaveV c a n) b = false := fun n => by
      by_cases hn : 1 ≤ n ∧ n ≤ c.floors
      · have := h2 n.toNat (by omega) (by omega)
        rwa [show ((n.toNat : Nat) : Int) = n by omega] at this
      · have hf : floorV c n = false := by
          cases e : floorV c n with
          | false => rfl
          | true =>
            unfold floorV at e
            simp [hc'] at e
            exact absurd e hn
        unfold goneB leaveV
        rw [hf]
        cases ((a.state != 2) && (a.state != 3)) <;> rfl
    rw [left_is, key, key]
    cases (a.state == 3) <;> rfl
  rw [g1, g2, g3, g4, g5, g6]
  rfl
def tab_mayR : Wk.Tab := [(24, 0, 0)]
theorem p_mayR {ops : Array Oper} {rest : List Oper} {o : Oper} {w0 : World} {Q : Exit → Act → World → Prop} {S : List Nat} {R : List Res} {K K' : Wk.Env} {N : Nat} (h : Wk.stp tab_mayR N ops K o = some K') (n : Wk.Wk N S w0 K' R (wpList Try.prog ops Q rest)) : Wk.Wk N S w0 K R (wpList Try.prog ops Q (o :: rest)) := Wk.wP (T := tab_mayR) (by kernel_rfl) h n
set_option maxHeartbeats 16000000 in
set_option maxRecDepth 20000 in
theorem mayR (c : Cfg) (a : CallV) (b : CallV) (w : World) : Calls Try.prog 59 #[.agg (cA c), .agg (xA a), .agg (xA b)] w fun e w' => e = .returned (.bool (mayV c a b)) ∧ Off [] w w' := by
 have H := Lib.hid (Hp.start [] w)
 refine wStart (args := [.agg (cA c), .agg (xA a), .agg (xA b)]) Try.func59 rfl rfl rfl H ?_
 clear H
 show Wk 67 _ _ [(0, .agg (cA c)), (1, .agg (xA a)), (2, .agg (xA b))] _ _
 refine wSeqK fun KK1 hK1 => ?_
 refine wReg ?_
 refine wBx rfl rfl rfl fun b3 => ?_
 refine wBx rfl rfl rfl fun b4 => ?_
 refine wBx rfl rfl rfl fun b5 => ?_
 refine p_mayR rfl ?_
 refine wN ?_
 refine tN (wKK hK1 ?_)
 refine wSeqK fun KK2 hK2 => ?_
 refine wSeqK fun KK3 hK3 => ?_
 refine wReg ?_
 refine wLr rfl tyapi_Config 2 rfl (cL c) rfl rfl ?_
 refine wQ (l := [.agg (cA c)]) Try.func30 rfl (by kernel_rfl) (.bool (checkV c == 0)) (fun wc H => goodR c wc) rfl rfl rfl rfl ?_
 refine p_mayR rfl ?_
 refine wN ?_
 refine tN (wKK hK3 ?_)
 refine wCond (E := !(checkV c == 0)) rfl (fun z1 => ?_) (fun z1 => ?_)
 · skip
   have z1n : (checkV c == 0) = false := Reg.bn z1
   have z1no : (checkV c != 0) = true := eqq_f z1n
   refine wSeqK fun KK4 hK4 => ?_
   refine wReg ?_
   refine p_mayR rfl ?_
   refine wN ?_
   refine tN (wKK hK4 ?_)
   refine wRet ?_
   refine tR ?_
   exact wR1 rfl rfl (fun ww H => ⟨by rw [may_bad a b z1n], H.out.off⟩)
 · skip
   have z1n : (checkV c == 0) = true := Reg.bt z1
   have z1no : (checkV c != 0) = false := eqq_t z1n
   refine wSk ?_
   refine tN (wKK hK2 ?_)
   refine wSeqK fun KK5 hK5 => ?_
   refine wSeqK fun KK6 hK6 => ?_
   refine wReg ?_
   refine p_mayR rfl ?_
   refine wN ?_
   refine tN (wKK hK6 ?_)
   refine wBlk ?_
   refine wLoop (fun ab wv => ∃ i : Nat, (1 ≤ i ∧ i ≤ 5) ∧ (Hid (∀ k : Nat, 1 ≤ k → k < i → goneB (endsV a k) b = false ∧ goneB (assignV c a k) b = false)) ∧ ab.tmps.size = 67 ∧ ab.defers = [] ∧ Sat [(0, .agg (cA c)), (1, .agg (xA a)), (2, .agg (xA b)), (3, .pointer (some ⟨b3, 0, none⟩)), (4, .pointer (some ⟨b4, 0, none⟩)), (5, .pointer (some ⟨b5, 0, none⟩)), (7, .int .i64 i), (15, .bool (!(checkV c == 0)))] ab ∧ Hid (Hp [] w wv [rB b5 38 (xL b), rB b4 38 (xL a), rB b3 24 (cL c)])) (fun ab _ => 5 - (intOf (ab.eval (.tmp 7))).toNat) (fun aa ww nn dd hs H => ⟨1, (by omega), (Lib.hid (fun k h1 h2 => absurd h2 (by omega))), nn, dd, (sat_sub ⟨rfl, rfl, rfl, rfl, rfl, rfl, rfl, rfl, trivial⟩ hs), H⟩) ?_
   rintro a1 wv ⟨i, hi, hn, nn, dd, hs, H⟩
   have mu1_7 := hs 7 _ rfl
   refine wIn nn dd hs H ?_
   clear nn dd hs H
   refine wSeqK fun KK7 hK7 => ?_
   refine wSeqK fun KK8 hK8 => ?_
   refine wReg ?_
   iterate 2 refine p_mayR rfl ?_
   refine wN ?_
   refine tN (wKK hK8 ?_)
   refine wCond (E := decide ((i : Int) ≤ 4)) rfl (fun z2 => ?_) (fun z2 => ?_)
   · skip
     have z2d : (i : Int) ≤ 4 := of_decide_eq_true z2
     refine wSk ?_
     refine tN (wKK hK7 ?_)
     refine wSeqK fun KK9 hK9 => ?_
     refine wBlk ?_
     refine wSeqK fun KK10 hK10 => ?_
     refine wReg ?_
     refine wLr rfl tyapi_Call 1 rfl (xL a) rfl rfl ?_
     refine p_mayR rfl ?_
     refine wQ (l := [.agg (xA a), .int .i64 i]) Try.func77 rfl (by kernel_rfl) (.tuple #[.agg (xA ((endsV a i).1)), .int .i64 ((endsV a i).2)]) (fun wc H => endsR a i wc) rfl rfl rfl rfl ?_
     iterate 3 refine p_mayR rfl ?_
     refine wAl rfl rfl tyapi_Call fun b8 => ?_
     refine wSr rfl tyapi_Call 0 rfl rfl rfl rfl (xL ((endsV a i).1)) (by first | rfl | (simp only [spl]; rfl)) ?_
     refine p_mayR rfl ?_
     refine wN ?_
     refine tN (wKK hK10 ?_)
     refine wSeqK fun KK11 hK11 => ?_
     refine wSeqK fun KK12 hK12 => ?_
     refine wReg ?_
     iterate 3 refine p_mayR rfl ?_
     refine wCut 4 [(32, .bool ((((endsV a i).2) == 0) && (decide (((endsV a i).1) = b)))), (0, .agg (cA c)), (1, .agg (xA a)), (2, .agg (xA b)), (3, .pointer (some ⟨b3, 0, none⟩)), (4, .pointer (some ⟨b4, 0, none⟩)), (5, .pointer (some ⟨b5, 0, none⟩)), (7, .int .i64 i), (8, .pointer (some ⟨b8, 0, none⟩)), (9, .int .i64 ((endsV a i).2)), (15, .bool (!(checkV c == 0))), (17, .bool (decide ((i : Int) ≤ 4)))] ?_ ?_
     · intro KK hKK
       rcases Bool.eq_false_or_eq_true (((endsV a i).2) == 0) with u3 | u3
       · skip
         refine wB (c := true) 28 rfl u3 ?_
         refine wLr rfl tyapi_Call 0 rfl (xL ((endsV a i).1)) rfl rfl ?_
         refine wLr rfl tyapi_Call 1 rfl (xL b) rfl rfl ?_
         refine wE (.bool ((decide (((endsV a i).1) = b)))) rfl rfl rfl (fun aa wc hs H => exec_eql rfl (hs _ _ rfl) (hs _ _ rfl) (by kernel_rfl) (run_eq_call ((endsV a i).1) b wc)) ?_
         refine p_mayR rfl ?_
         refine wB (c := (((endsV a i).2) == 0) && (decide (((endsV a i).1) = b))) 32 rfl (by rw [u3]; rfl) ?_
         refine wN (tN ?_)
         exact fun aa ww nn dd hs H => hKK aa ww nn dd (sat_sub ⟨rfl, rfl, rfl, rfl, rfl, rfl, rfl, rfl, rfl, rfl, rfl, rfl, trivial⟩ hs) H
       · skip
         refine wB (c := false) 28 rfl u3 ?_
         iterate 3 refine p_mayR rfl ?_
         refine p_mayR rfl ?_
         refine wB (c := (((endsV a i).2) == 0) && (decide (((endsV a i).1) = b))) 32 rfl (by rw [u3]; rfl) ?_
         refine wN (tN ?_)
         exact fun aa ww nn dd hs H => hKK aa ww nn dd (sat_sub ⟨rfl, rfl, rfl, rfl, rfl, rfl, rfl, rfl, rfl, rfl, rfl, rfl, trivial⟩ hs) H
     refine wN ?_
     refine tN (wKK hK12 ?_)
     refine wCond (E := (((endsV a i).2) == 0) && (decide (((endsV a i).1) = b))) rfl (fun z4 => ?_) (fun z4 => ?_)
     · skip
       have z4l : (((endsV a i).2) == 0) = true := Reg.bl z4
       have z4lo : (((endsV a i).2) != 0) = false := eqq_t z4l
       have z4r : (decide (((endsV a i).1) = b)) = true := Reg.br z4
       refine wSeqK fun KK13 hK13 => ?_
       refine wReg ?_
       refine p_mayR rfl ?_
       refine wN ?_
       refine tN (wKK hK13 ?_)
       refine wRet ?_
       refine tR (bR (tR (tR (bR (tR ?_)))))
       exact wR1 rfl rfl (fun ww H => ⟨by rw [may_ends z1n ⟨hi.1, by omega⟩ z4], H.out.off⟩)
     · skip
       refine wSk ?_
       refine tN (wKK hK11 ?_)
       refine wSeqK fun KK14 hK14 => ?_
       refine wReg ?_
       refine wLr rfl tyapi_Config 3 rfl (cL c) rfl rfl ?_
       refine wLr rfl tyapi_Call 2 rfl (xL a) rfl rfl ?_
       refine p_mayR rfl ?_
       refine wQ (l := [.agg (cA c), .agg (xA a), .int .i64 i]) Try.func78 rfl (by kernel_rfl) (.tuple #[.agg (xA ((assignV c a i).1)), .int .i64 ((assignV c a i).2)]) (fun wc H => assignR c a i wc) rfl rfl rfl rfl ?_
       iterate 3 refine p_mayR rfl ?_
       refine wSr rfl tyapi_Call 0 rfl rfl rfl rfl (xL ((assignV c a i).1)) (by first | rfl | (simp only [spl]; rfl)) ?_
       refine p_mayR rfl ?_
       refine wN ?_
       refine tN (wKK hK14 ?_)
       refine wSeqK fun KK15 hK15 => ?_
       refine wReg ?_
       iterate 3 refine p_mayR rfl ?_
       refine wCut 4 [(46, .bool ((((assignV c a i).2) == 0) && (decide (((assignV c a i).1) = b)))), (0, .agg (cA c)), (1, .agg (xA a)), (2, .agg (xA b)), (3, .pointer (some ⟨b3, 0, none⟩)), (4, .pointer (some ⟨b4, 0, none⟩)), (5, .pointer (some ⟨b5, 0, none⟩)), (7, .int .i64 i), (8, .pointer (some ⟨b8, 0, none⟩)), (9, .int .i64 ((assignV c a i).2)), (15, .bool (!(checkV c == 0))), (17, .bool (decide ((i : Int) ≤ 4))), (32, .bool ((((endsV a i).2) == 0) && (decide (((endsV a i).1) = b))))] ?_ ?_
       · intro KK hKK
         rcases Bool.eq_false_or_eq_true (((assignV c a i).2) == 0) with u5 | u5
         · skip
           refine wB (c := true) 42 rfl u5 ?_
           refine wLr rfl tyapi_Call 0 rfl (xL ((assignV c a i).1)) rfl rfl ?_
           refine wLr rfl tyapi_Call 1 rfl (xL b) rfl rfl ?_
           refine wE (.bool ((decide (((assignV c a i).1) = b)))) rfl rfl rfl (fun aa wc hs H => exec_eql rfl (hs _ _ rfl) (hs _ _ rfl) (by kernel_rfl) (run_eq_call ((assignV c a i).1) b wc)) ?_
           refine p_mayR rfl ?_
           refine wB (c := (((assignV c a i).2) == 0) && (decide (((assignV c a i).1) = b))) 46 rfl (by rw [u5]; rfl) ?_
           refine wN (tN ?_)
           exact fun aa ww nn dd hs H => hKK aa ww nn dd (sat_sub ⟨rfl, rfl, rfl, rfl, rfl, rfl, rfl, rfl, rfl, rfl, rfl, rfl, rfl, trivial⟩ hs) H
         · skip
           refine wB (c := false) 42 rfl u5 ?_
           iterate 3 refine p_mayR rfl ?_
           refine p_mayR rfl ?_
           refine wB (c := (((assignV c a i).2) == 0) && (decide (((assignV c a i).1) = b))) 46 rfl (by rw [u5]; rfl) ?_
           refine wN (tN ?_)
           exact fun aa ww nn dd hs H => hKK aa ww nn dd (sat_sub ⟨rfl, rfl, rfl, rfl, rfl, rfl, rfl, rfl, rfl, rfl, rfl, rfl, rfl, trivial⟩ hs) H
       refine wN ?_
       refine tN (wKK hK15 ?_)
       refine wCond (E := (((assignV c a i).2) == 0) && (decide (((assignV c a i).1) = b))) rfl (fun z6 => ?_) (fun z6 => ?_)
       · skip
         have z6l : (((assignV c a i).2) == 0) = true := Reg.bl z6
         have z6lo : (((assignV c a i).2) != 0) = false := eqq_t z6l
         have z6r : (decide (((assignV c a i).1) = b)) = true := Reg.br z6
         refine wSeqK fun KK16 hK16 => ?_
         refine wReg ?_
         refine p_mayR rfl ?_
         refine wN ?_
         refine tN (wKK hK16 ?_)
         refine wRet ?_
         refine bR (tR (tR (bR (tR ?_))))
         exact wR1 rfl rfl (fun ww H => ⟨by rw [may_assign z1n z6], H.out.off⟩)
       · skip
         refine wSk ?_
         refine bN (tN (wKK hK9 ?_))
         refine wReg ?_
         iterate 2 refine p_mayR rfl ?_
         refine wI 19 rfl (IntWalk.i64_in _ (by omega)) ?_
         refine p_mayR rfl ?_
         refine wN ?_
         refine tN ?_
         intro aa ww nn dd hs H
         have hn2 := Lib.hid (show ∀ k : Nat, 1 ≤ k → k < i + 1 → goneB (endsV a k) b = false ∧ goneB (assignV c a k) b = false from fun k h1 h2 => by
           rcases Nat.lt_or_ge k i with h3 | h3
           · exact hn.out k h1 h3
           · obtain rfl : k = i := by omega
             exact ⟨z4, z6⟩)
         refine ⟨⟨i + 1, (by omega), hn2, nn, dd, (sat_sub ⟨rfl, rfl, rfl, rfl, rfl, rfl, rfl, rfl, trivial⟩ hs), (Lib.hid (H.out.sub (by repeat (first | exact List.Sublist.refl _ | apply List.Sublist.cons₂ | apply List.Sublist.cons))))⟩, ?_⟩
         have m7 := hs 7 _ rfl
         simp only [mu1_7, m7, intOf]
         omega
   · skip
     have z2d : ¬ ((i : Int) ≤ 4) := of_decide_eq_false z2
     refine wEx ?_
     refine tX (tX (bX (tN (wKK hK5 ?_))))
     refine wSeqK fun KK17 hK17 => ?_
     refine wSeqK fun KK18 hK18 => ?_
     refine wReg ?_
     refine p_mayR rfl ?_
     refine wN ?_
     refine tN (wKK hK18 ?_)
     refine wBlk ?_
     intro aa ww nn dd hs H
     have hfl : 2 ≤ c.floors ∧ c.floors ≤ 32 := by
       have h1 : cfgOk c = true := by rw [← check_ok]; exact z1n
       unfold cfgOk at h1
       simp at h1
       omega
     refine wIn nn dd hs H ?_
     refine wLoop (fun ab wv => ∃ j : Nat, (1 ≤ j ∧ (j : Int) ≤ c.floors + 1) ∧ (Hid (∀ k : Nat, 1 ≤ k → k < j → goneB (leaveV c a k) b = false)) ∧ ab.tmps.size = 67 ∧ ab.defers = [] ∧ Sat [(0, .agg (cA c)), (1, .agg (xA a)), (2, .agg (xA b)), (3, .pointer (some ⟨b3, 0, none⟩)), (4, .pointer (some ⟨b4, 0, none⟩)), (5, .pointer (some ⟨b5, 0, none⟩)), (7, .int .i64 i), (10, .int .i64 j), (15, .bool (!(checkV c == 0))), (17, .bool (decide ((i : Int) ≤ 4)))] ab ∧ Hid (Hp [] w wv [rB b5 38 (xL b), rB b4 38 (xL a), rB b3 24 (cL c)])) (fun ab _ => (c.floors + 1).toNat - (intOf (ab.eval (.tmp 10))).toNat) (fun aa ww nn dd hs H => ⟨1, (by omega), (Lib.hid (fun k h1 h2 => absurd h2 (by omega))), nn, dd, (sat_sub ⟨rfl, rfl, rfl, rfl, rfl, rfl, rfl, rfl, rfl, rfl, trivial⟩ hs), H⟩) ?_
     rintro a2 wv ⟨j, hj, hm, nn, dd, hs, H⟩
     have mu2_10 := hs 10 _ rfl
     refine wIn nn dd hs H ?_
     clear nn dd hs H
     refine wSeqK fun KK19 hK19 => ?_
     refine wSeqK fun KK20 hK20 => ?_
     refine wReg ?_
     iterate 2 refine p_mayR rfl ?_
     refine wLd rfl tyint 2 rfl rfl ?_
     refine p_mayR rfl ?_
     refine wN ?_
     refine tN (wKK hK20 ?_)
     refine wCond (E := decide ((j : Int) ≤ c.floors)) rfl (fun z7 => ?_) (fun z7 => ?_)
     · skip
       have z7d : (j : Int) ≤ c.floors := of_decide_eq_true z7
       refine wSk ?_
       refine tN (wKK hK19 ?_)
       refine wSeqK fun KK21 hK21 => ?_
       refine wBlk ?_
       refine wSeqK fun KK22 hK22 => ?_
       refine wReg ?_
       refine wLr rfl tyapi_Config 2 rfl (cL c) rfl rfl ?_
       refine wLr rfl tyapi_Call 1 rfl (xL a) rfl rfl ?_
       refine p_mayR rfl ?_
       refine wQ (l := [.agg (cA c), .agg (xA a), .int .i64 j]) Try.func79 rfl (by kernel_rfl) (.tuple #[.agg (xA ((leaveV c a j).1)), .int .i64 ((leaveV c a j).2)]) (fun wc H => leaveR c a j wc) rfl rfl rfl rfl ?_
       iterate 3 refine p_mayR rfl ?_
       refine wAl rfl rfl tyapi_Call fun b11 => ?_
       refine wSr rfl tyapi_Call 0 rfl rfl rfl rfl (xL ((leaveV c a j).1)) (by first | rfl | (simp only [spl]; rfl)) ?_
       refine p_mayR rfl ?_
       refine wN ?_
       refine tN (wKK hK22 ?_)
       refine wSeqK fun KK23 hK23 => ?_
       refine wReg ?_
       iterate 3 refine p_mayR rfl ?_
       refine wCut 4 [(66, .bool ((((leaveV c a j).2) == 0) && (decide (((leaveV c a j).1) = b)))), (0, .agg (cA c)), (1, .agg (xA a)), (2, .agg (xA b)), (3, .pointer (some ⟨b3, 0, none⟩)), (4, .pointer (some ⟨b4, 0, none⟩)), (5, .pointer (some ⟨b5, 0, none⟩)), (7, .int .i64 i), (10, .int .i64 j), (11, .pointer (some ⟨b11, 0, none⟩)), (12, .int .i64 ((leaveV c a j).2)), (15, .bool (!(checkV c == 0))), (17, .bool (decide ((i : Int) ≤ 4))), (50, .bool (decide ((j : Int) ≤ c.floors)))] ?_ ?_
       · intro KK hKK
         rcases Bool.eq_false_or_eq_true (((leaveV c a j).2) == 0) with u8 | u8
         · skip
           refine wB (c := true) 62 rfl u8 ?_
           refine wLr rfl tyapi_Call 0 rfl (xL ((leaveV c a j).1)) rfl rfl ?_
           refine wLr rfl tyapi_Call 1 rfl (xL b) rfl rfl ?_
           refine wE (.bool ((decide (((leaveV c a j).1) = b)))) rfl rfl rfl (fun aa wc hs H => exec_eql rfl (hs _ _ rfl) (hs _ _ rfl) (by kernel_rfl) (run_eq_call ((leaveV c a j).1) b wc)) ?_
           refine p_mayR rfl ?_
           refine wB (c := (((leaveV c a j).2) == 0) && (decide (((leaveV c a j).1) = b))) 66 rfl (by rw [u8]; rfl) ?_
           refine wN (tN ?_)
           exact fun aa ww nn dd hs H => hKK aa ww nn dd (sat_sub ⟨rfl, rfl, rfl, rfl, rfl, rfl, rfl, rfl, rfl, rfl, rfl, rfl, rfl, rfl, trivial⟩ hs) H
         · skip
           refine wB (c := false) 62 rfl u8 ?_
           iterate 3 refine p_mayR rfl ?_
           refine p_mayR rfl ?_
           refine wB (c := (((leaveV c a j).2) == 0) && (decide (((leaveV c a j).1) = b))) 66 rfl (by rw [u8]; rfl) ?_
           refine wN (tN ?_)
           exact fun aa ww nn dd hs H => hKK aa ww nn dd (sat_sub ⟨rfl, rfl, rfl, rfl, rfl, rfl, rfl, rfl, rfl, rfl, rfl, rfl, rfl, rfl, trivial⟩ hs) H
       refine wN ?_
       refine tN (wKK hK23 ?_)
       refine wCond (E := (((leaveV c a j).2) == 0) && (decide (((leaveV c a j).1) = b))) rfl (fun z9 => ?_) (fun z9 => ?_)
       · skip
         have z9l : (((leaveV c a j).2) == 0) = true := Reg.bl z9
         have z9lo : (((leaveV c a j).2) != 0) = false := eqq_t z9l
         have z9r : (decide (((leaveV c a j).1) = b)) = true := Reg.br z9
         refine wSeqK fun KK24 hK24 => ?_
         refine wReg ?_
         refine p_mayR rfl ?_
         refine wN ?_
         refine tN (wKK hK24 ?_)
         refine wRet ?_
         refine bR (tR (tR (bR (tR ?_))))
         exact wR1 rfl rfl (fun ww H => ⟨by rw [may_leave z1n ⟨by omega, by omega⟩ z9], H.out.off⟩)
       · skip
         refine wSk ?_
         refine bN (tN (wKK hK21 ?_))
         refine wReg ?_
         iterate 2 refine p_mayR rfl ?_
         refine wI 52 rfl (IntWalk.i64_in _ (by omega)) ?_
         refine p_mayR rfl ?_
         refine wN ?_
         refine tN ?_
         intro aa ww nn dd hs H
         have hm2 := Lib.hid (show ∀ k : Nat, 1 ≤ k → k < j + 1 → goneB (leaveV c a k) b = false from fun k h1 h2 => by
           rcases Nat.lt_or_ge k j with h3 | h3
           · exact hm.out k h1 h3
           · obtain rfl : k = j := by omega
             exact z9)
         refine ⟨⟨j + 1, (by omega), hm2, nn, dd, (sat_sub ⟨rfl, rfl, rfl, rfl, rfl, rfl, rfl, rfl, rfl, rfl, trivial⟩ hs), (Lib.hid (H.out.sub (by repeat (first | exact List.Sublist.refl _ | apply List.Sublist.cons₂ | apply List.Sublist.cons))))⟩, ?_⟩
         have m10 := hs 10 _ rfl
         simp only [mu2_10, m10, intOf]
         omega
     · skip
       have z7d : ¬ ((j : Int) ≤ c.floors) := of_decide_eq_false z7
       refine wEx ?_
       refine tX (tX (bX (tN (wKK hK17 ?_))))
       refine wSeqK fun KK25 hK25 => ?_
       refine wReg ?_
       refine p_mayR rfl ?_
       refine wN ?_
       refine tN (wKK hK25 ?_)
       refine wRet ?_
       exact wR1 rfl rfl (fun ww H => ⟨by rw [may_none z1n (fun k h1 h2 => hn.out k h1 (by omega)) (fun k h1 h2 => hm.out k h1 (by omega))], H.out.off⟩)
end Go.Proofs.Ytnanihffljpdbaa.Bk
