/- Layer 9: the reference. -/
import Derived.Test.YtnanihffljpdbaaProg
import Derived.Below
import Derived.WalkKit
import Derived.KernelRfl
import Derived.RowKit3
import Derived.Deep.LoopGhost
import Derived.Deep.QuietTactic
import Derived.BigQuiet
import Derived.WideLaws
import Derived.Deep.DeepCutAuto
import Derived.Deep.CutBlock
import Derived.Lib.Hide
import Derived.Laws.BitsLemmas
import Derived.Laws.Bits64
import Derived.Laws.BitsAllLaws
import Derived.IntWalk
import Derived.Outline
import Derived.WalkSpells
import Derived.Test.YtnanihffljpdbaaMem
import Derived.Test.YtnanihffljpdbaaBr1
import Derived.Test.YtnanihffljpdbaaBk2
namespace Go.Proofs.Ytnanihffljpdbaa.Bk
open Go.RowKit Go.Proofs.Ytnanihffljpdbaa.Mem Go.Proofs.Ytnanihffljpdbaa.Reg Go.Proofs.Ytnanihffljpdbaa.Wk Go.Proofs.Ytnanihffljpdbaa.Si Go.Proofs.Ytnanihffljpdbaa.Ca Go.Proofs.Ytnanihffljpdbaa.Sc6
set_option linter.unusedVariables false
set_option linter.unusedSimpArgs false

def rbL (c : Cfg) (is : Bool) (ix : Int) (lv dn : Value) (ms : List Int) : List Value := [.int .i64 c.floors, .int .i64 c.cars, .int .i64 c.seats, .int .i64 c.calls, .int .i64 c.lines, .int .i64 c.keys, .int .i64 c.window, .int .i64 c.burst, .int .i64 c.rate, .int .i64 c.idle, .int .i64 c.inn, .int .i64 c.out, .int .i64 c.feed, .int .i64 c.retries, .int .i64 c.life, .int .i64 c.door, .int .i64 c.holds, .int .u32 c.secret, .bool is, .int .i64 ix, lv, dn, .int .i64 (ms.getD 0 0), .int .i64 (ms.getD 1 0), .int .i64 (ms.getD 2 0), .int .i64 (ms.getD 3 0)]
def rbA (c : Cfg) (is : Bool) (ix : Int) (lv dn : Value) (ms : List Int) : Array Value := #[.int .i64 c.floors, .int .i64 c.cars, .int .i64 c.seats, .int .i64 c.calls, .int .i64 c.lines, .int .i64 c.keys, .int .i64 c.window, .int .i64 c.burst, .int .i64 c.rate, .int .i64 c.idle, .int .i64 c.inn, .int .i64 c.out, .int .i64 c.feed, .int .i64 c.retries, .int .i64 c.life, .int .i64 c.door, .int .i64 c.holds, .int .u32 c.secret, .bool is, .int .i64 ix, lv, dn, .int .i64 (ms.getD 0 0), .int .i64 (ms.getD 1 0), .int .i64 (ms.getD 2 0), .int .i64 (ms.getD 3 0)]
/-- the reference's book -/
structure RBook where
  c : Cfg
  is : Bool
  index : Int
  live : List CallV
  done : List CallV
  modes : List Int
structure OkR (u : RBook) : Prop where
  live : u.live.length ≤ 1000
  done : u.done.length ≤ 1000
  modes : u.modes.length = 4
  index : 0 ≤ u.index ∧ u.index ≤ 1073741824
  cars : u.c.cars ≤ 4
def GivesR (w w' : World) (Rs : List Res) (la : Option Addr) (lc : Nat) (da : Option Addr) (dc : Nat) (u : RBook) : Prop := (rS la lc 8 (u.live.map callRow)).holds w' ∧ (rS da dc 8 (u.done.map callRow)).holds w' ∧ From w Rs (rS la lc 8 (u.live.map callRow)).foot ∧ From w Rs (rS da dc 8 (u.done.map callRow)).foot ∧ Off [] w w'
def zeroR : RBook := ⟨zeroF, false, 0, [], [], [0, 0, 0, 0]⟩
def newR9 (c : Cfg) : RBook := bif !(checkV c == 0) then zeroR else ⟨c, true, 0, [], [], newModes c.cars⟩
def findR (u : RBook) (id : Int) : CallV × Bool := match u.live.find? (fun x => x.id == id) with | some x => (x, true) | none => (match u.done.find? (fun x => x.id == id) with | some x => (x, true) | none => (zeroC, false))
def keep1 (x y : CallV) : List CallV := bif y.id != x.id then [y] else bif decide (x.state < 4) then [x] else []
def keepL (l : List CallV) (x : CallV) : List CallV := l.flatMap (keep1 x)
def wasL (l : List CallV) (x : CallV) : Bool := l.any fun y => !(y.id != x.id)
def nextR (u : RBook) (x : CallV) : RBook × ChgV × Int :=
  bif decide (1073741824 ≤ u.index) then (zeroR, zeroCh, 5)
  else bif decide (3 < x.state) then (⟨u.c, u.is, u.index + 1, keepL u.live x, bif decide (u.c.calls < (((([] : List CallV) ++ u.done) ++ [x]).length : Int)) then ((([] : List CallV) ++ u.done) ++ [x]).drop 1 else ((([] : List CallV) ++ u.done) ++ [x]), u.modes⟩, ⟨u.index + 1, x, 0, 0⟩, 0)
  else bif !(wasL u.live x) then (bif decide (u.c.calls ≤ ((keepL u.live x).length : Int)) then (zeroR, zeroCh, 5) else (⟨u.c, u.is, u.index + 1, keepL u.live x ++ [x], u.done, u.modes⟩, ⟨u.index + 1, x, 0, 0⟩, 0))
  else (⟨u.c, u.is, u.index + 1, keepL u.live x, u.done, u.modes⟩, ⟨u.index + 1, x, 0, 0⟩, 0)
def placeR (u : RBook) (x : CallV) (owner now : Int) : RBook × ChgV × Int :=
  bif checkCallV u.c x != 0 then (zeroR, zeroCh, checkCallV u.c x)
  else bif ((decide (owner < 1) || decide (1073741824 < owner)) || decide (now < 0)) || decide (1073741824 < now) then (zeroR, zeroCh, 1)
  else nextR u ⟨u.index + 1, x.kind, x.src, x.dst, x.car, 1, owner, now⟩
def cancelR (u : RBook) (id owner : Int) : RBook × ChgV × Int :=
  bif !u.is then (zeroR, zeroCh, 3) else bif !((findR u id).2) then (zeroR, zeroCh, 6) else bif (findR u id).1.owner != owner then (zeroR, zeroCh, 8)
  else bif ((findR u id).1.state != 1) && ((findR u id).1.state != 2) then (zeroR, zeroCh, 7)
  else nextR u ⟨(findR u id).1.id, (findR u id).1.kind, (findR u id).1.src, (findR u id).1.dst, (findR u id).1.car, 5, (findR u id).1.owner, (findR u id).1.born⟩
def setR (u : RBook) (car mode : Int) : RBook × ChgV × Int :=
  bif !u.is then (zeroR, zeroCh, 3) else bif (decide (car < 1) || decide (u.c.cars < car)) || ((mode != 1) && (mode != 2)) then (zeroR, zeroCh, 1) else bif decide (1073741824 ≤ u.index) then (zeroR, zeroCh, 5)
  else (⟨u.c, u.is, u.index + 1, u.live, u.done, u.modes.set (car - 1).toNat mode⟩, ⟨u.index + 1, zeroC, car, mode⟩, 0)
def applyR (u : RBook) (ch : ChgV) : RBook × Int :=
  bif !u.is then (zeroR, 3)
  else bif decide (ch.index < 1) || ((IntKind.i64.wrap (ch.index - 1)) != u.index) then (zeroR, 1)
  else bif decide (ch.call = ⟨0, 0, 0, 0, 0, 0, 0, 0⟩) then ((setR u ch.car ch.mode).1, (setR u ch.car ch.mode).2.2)
  else bif (ch.car != 0) || (ch.mode != 0) then (zeroR, 1)
  else match u.live.find? (fun x => x.id == ch.call.id) with
    | some z => bif !(mayV u.c z ch.call) then (zeroR, 1) else ((nextR u ch.call).1, (nextR u ch.call).2.2)
    | none => bif ((((((ch.call.id != ch.index) || (ch.call.state != 1)) || (checkCallV u.c ⟨0, ch.call.kind, ch.call.src, ch.call.dst, ch.call.car, 0, 0, 0⟩ != 0)) || decide (ch.call.owner < 1)) || decide (1073741824 < ch.call.owner)) || decide (ch.call.born < 0)) || decide (1073741824 < ch.call.born) then (zeroR, 1) else ((nextR u ch.call).1, (nextR u ch.call).2.2)
theorem fd_stop {l : List CallV} {i : Nat} {x : CallV} {id : Int} (h : ∀ k, k < i → ∀ y, l[k]? = some y → (y.id == id) = false) (hx : l[i]? = some x) (he : (x.id == id) = true) : l.find? (fun y => y.id == id) = some x := by
  rw [List.find?_eq_some_iff_getElem]
  obtain ⟨hi, rfl⟩ := List.getElem?_eq_some_iff.1 hx
  exact ⟨he, i, hi, rfl, fun j hj => by simp [h j hj _ (List.getElem?_eq_getElem (by omega))]⟩
theorem fd_end {l : List CallV} {id : Int} (h : ∀ k, k < l.length → ∀ y, l[k]? = some y → (y.id == id) = false) : l.find? (fun y => y.id == id) = none := by
  rw [List.find?_eq_none]
  intro x hx
  obtain ⟨k, hk, rfl⟩ := List.getElem_of_mem hx
  simp [h k hk _ (List.getElem?_eq_getElem hk)]
theorem find_lv {u : RBook} {id : Int} {x : CallV} (h : u.live.find? (fun y => y.id == id) = some x) : findR u id = (x, true) := by unfold findR; rw [h]
theorem find_dn {u : RBook} {id : Int} {x : CallV} (h : u.live.find? (fun y => y.id == id) = none) (h2 : u.done.find? (fun y => y.id == id) = some x) : findR u id = (x, true) := by unfold findR; rw [h, h2]
theorem find_no {u : RBook} {id : Int} (h : u.live.find? (fun y => y.id == id) = none) (h2 : u.done.find? (fun y => y.id == id) = none) : findR u id = (zeroC, false) := by unfold findR; rw [h, h2]
theorem keep_len (l : List CallV) (x : CallV) : (keepL l x).length ≤ l.length := by
  induction l with
  | nil => simp [keepL]
  | cons y l ih =>
    unfold keepL at ih ⊢
    rw [List.flatMap_cons, List.length_append, List.length_cons]
    have : (keep1 x y).length ≤ 1 := by unfold keep1; cases (y.id != x.id) <;> cases (decide (x.state < 4)) <;> simp
    omega
theorem keep_next {l ys : List CallV} {x y : CallV} {i : Nat} (h : ys = keepL (l.take i) x) (hy : l[i]? = some y) : ys ++ keep1 x y = keepL (l.take (i + 1)) x := by
  rw [h, List.take_add_one, hy]
  simp [keepL]
theorem keep_yes {x y : CallV} (q : (y.id != x.id) = true) : keep1 x y = [y] := by unfold keep1; rw [q]; rfl
theorem keep_set {x y : CallV} (q : (y.id != x.id) = false) (q2 : decide (x.state < 4) = true) : keep1 x y = [x] := by unfold keep1; rw [q, q2]; rfl
theorem keep_not {x y : CallV} (q : (y.id != x.id) = false) (q2 : decide (x.state < 4) = false) : keep1 x y = [] := by unfold keep1; rw [q, q2]; rfl
theorem was_next {l : List CallV} {x y : CallV} {i : Nat} {b : Bool} (h : b = wasL (l.take i) x) (hy : l[i]? = some y) : (b || !(y.id != x.id)) = wasL (l.take (i + 1)) x := by
  rw [h, List.take_add_one, hy]
  simp [wasL]
theorem tyhoistwayref09_Book : TyI Try.prog 61 26 true [.int .i64 0, .int .i64 0, .int .i64 0, .int .i64 0, .int .i64 0, .int .i64 0, .int .i64 0, .int .i64 0, .int .i64 0, .int .i64 0, .int .i64 0, .int .i64 0, .int .i64 0, .int .i64 0, .int .i64 0, .int .i64 0, .int .i64 0, .int .u32 0, .bool false, .int .i64 0, .slice none 0 0, .slice none 0 0, .int .i64 0, .int .i64 0, .int .i64 0, .int .i64 0] := ⟨by kernel_rfl, by kernel_rfl, by kernel_rfl⟩
theorem tybool : TyI Try.prog 4 1 false [.bool false] := ⟨by kernel_rfl, by kernel_rfl, by kernel_rfl⟩
def tab_newRC : Wk.Tab := [(24, 1, 1), (61, 0, 0), (61, 1, 18), (61, 5, 22)]
theorem p_newRC {ops : Array Oper} {rest : List Oper} {o : Oper} {w0 : World} {Q : Exit → Act → World → Prop} {S : List Nat} {R : List Res} {K K' : Wk.Env} {N : Nat} (h : Wk.stp tab_newRC N ops K o = some K') (n : Wk.Wk N S w0 K' R (wpList Try.prog ops Q rest)) : Wk.Wk N S w0 K R (wpList Try.prog ops Q (o :: rest)) := Wk.wP (T := tab_newRC) (by kernel_rfl) h n
set_option maxHeartbeats 16000000 in
set_option maxRecDepth 20000 in
theorem newRC (c : Cfg) (w : World) : Calls Try.prog 23 #[.agg (cA c)] w fun e w' => ∃ la' lc' da' dc', e = .returned (.agg #[.int .i64 (((newR9 c).c).floors), .int .i64 (((newR9 c).c).cars), .int .i64 (((newR9 c).c).seats), .int .i64 (((newR9 c).c).calls), .int .i64 (((newR9 c).c).lines), .int .i64 (((newR9 c).c).keys), .int .i64 (((newR9 c).c).window), .int .i64 (((newR9 c).c).burst), .int .i64 (((newR9 c).c).rate), .int .i64 (((newR9 c).c).idle), .int .i64 (((newR9 c).c).inn), .int .i64 (((newR9 c).c).out), .int .i64 (((newR9 c).c).feed), .int .i64 (((newR9 c).c).retries), .int .i64 (((newR9 c).c).life), .int .i64 (((newR9 c).c).door), .int .i64 (((newR9 c).c).holds), .int .u32 (((newR9 c).c).secret), .bool ((newR9 c).is), .int .i64 ((newR9 c).index), .slice la' ((newR9 c).live.length) lc', .slice da' ((newR9 c).done.length) dc', .int .i64 ((newR9 c).modes.getD 0 0), .int .i64 ((newR9 c).modes.getD 1 0), .int .i64 ((newR9 c).modes.getD 2 0), .int .i64 ((newR9 c).modes.getD 3 0)]) ∧ GivesR w w' [] la' lc' da' dc' (newR9 c) := by
 have H := Lib.hid (Hp.start [] w)
 refine wStart (args := [.agg (cA c)]) Try.func23 rfl rfl rfl H ?_
 clear H
 show Wk 23 _ _ [(0, .agg (cA c))] _ _
 refine wSeqK fun KK1 hK1 => ?_
 refine wReg ?_
 refine wBx rfl rfl rfl fun b1 => ?_
 refine wAl rfl rfl tyhoistwayref09_Book fun b2 => ?_
 refine wN ?_
 refine tN (wKK hK1 ?_)
 refine wSeqK fun KK2 hK2 => ?_
 refine wReg ?_
 refine wE (.agg (rbA zeroF false 0 (.slice none 0 0) (.slice none 0 0) ([0, 0, 0, 0]))) rfl rfl rfl (fun aa ww hs _ => by simp only [execOp]; go_simp <;> first | rfl | omega) ?_
 refine wAl rfl rfl tyhoistwayref09_Book fun b3 => ?_
 refine wSr rfl tyhoistwayref09_Book 0 rfl rfl rfl rfl (rbL zeroF false 0 (.slice none 0 0) (.slice none 0 0) ([0, 0, 0, 0])) (by first | rfl | (simp only [spl]; rfl)) ?_
 refine wN ?_
 refine tN (wKK hK2 ?_)
 refine wSeqK fun KK3 hK3 => ?_
 refine wSeqK fun KK4 hK4 => ?_
 refine wReg ?_
 refine wLr rfl tyapi_Config 2 rfl (cL c) rfl rfl ?_
 refine wQ (l := [.agg (cA c)]) Try.func30 rfl (by kernel_rfl) (.bool (checkV c == 0)) (fun wc H => goodR c wc) rfl rfl rfl rfl ?_
 refine p_newRC rfl ?_
 refine wN ?_
 refine tN (wKK hK4 ?_)
 refine wCond (E := !(checkV c == 0)) rfl (fun z1 => ?_) (fun z1 => ?_)
 · skip
   have z1n : (checkV c == 0) = false := Reg.bn z1
   have z1no : (checkV c != 0) = true := eqq_f z1n
   refine wSeqK fun KK5 hK5 => ?_
   refine wReg ?_
   refine wLr rfl tyhoistwayref09_Book 0 rfl (rbL zeroF false 0 (.slice none 0 0) (.slice none 0 0) ([0, 0, 0, 0])) rfl rfl ?_
   refine wSr rfl tyhoistwayref09_Book 1 rfl rfl rfl rfl (rbL zeroF false 0 (.slice none 0 0) (.slice none 0 0) ([0, 0, 0, 0])) (by first | rfl | (simp only [spl]; rfl)) ?_
   refine wN ?_
   refine tN (wKK hK5 ?_)
   refine wRet ?_
   refine tR ?_
   exact wRc tyhoistwayref09_Book rfl rfl 1 rfl rfl (fun ww H => (by simp only [newR9, newModes, z1, z1n, z1no, cond_true, cond_false, Bool.not_true, Bool.not_false, Bool.true_and, Bool.and_true, Bool.false_and, Bool.and_false, Bool.true_or, Bool.or_true, Bool.false_or, Bool.or_false]; exact ⟨none, 0, none, 0, rfl, (rS_nil _ _), (rS_nil _ _), (From.none _ _ _ _ _), (From.none _ _ _ _ _), H.out.off⟩))
 · skip
   have z1n : (checkV c == 0) = true := Reg.bt z1
   have z1no : (checkV c != 0) = false := eqq_t z1n
   intro aa ww nn dd hs H
   have hci := cfg_in (c := c) (by rw [bne, z1n]; rfl)
   refine wIn nn dd hs H ?_
   refine wSk ?_
   refine tN (wKK hK3 ?_)
   refine wSeqK fun KK6 hK6 => ?_
   refine wReg ?_
   refine wLr rfl tyapi_Config 2 rfl (cL c) rfl rfl ?_
   refine p_newRC rfl ?_
   refine wSr rfl tyapi_Config 0 rfl rfl rfl rfl (rbL c false 0 (.slice none 0 0) (.slice none 0 0) ([0, 0, 0, 0])) (by first | rfl | (simp only [spl]; rfl)) ?_
   refine wN ?_
   refine tN (wKK hK6 ?_)
   refine wSeqK fun KK7 hK7 => ?_
   refine wReg ?_
   refine p_newRC rfl ?_
   refine wSt rfl tybool 0 rfl rfl rfl rfl ?_
   refine wN ?_
   refine tN (wKK hK7 ?_)
   refine wSeqK fun KK8 hK8 => ?_
   refine wSeqK fun KK9 hK9 => ?_
   refine wReg ?_
   refine p_newRC rfl ?_
   refine wN ?_
   refine tN (wKK hK9 ?_)
   refine wBlk ?_
   refine wLoopN 6 ?_
   refine wRnd ?_
   refine wSeqK fun KK10 hK10 => ?_
   refine wSeqK fun KK11 hK11 => ?_
   refine wReg ?_
   iterate 2 refine p_newRC rfl ?_
   refine wLd rfl tyint 2 rfl rfl ?_
   refine p_newRC rfl ?_
   refine wN ?_
   refine tN (wKK hK11 ?_)
   refine wCond (E := decide (0 < c.cars)) rfl (fun z2 => ?_) (fun z2 => ?_)
   · skip
     have z2d : 0 < c.cars := of_decide_eq_true z2
     refine wSk ?_
     refine tN (wKK hK10 ?_)
     refine wSeqK fun KK12 hK12 => ?_
     refine wBlk ?_
     refine wReg ?_
     iterate 2 refine p_newRC rfl ?_
     refine wE (.pointer (some ⟨b3, 22, none⟩)) rfl rfl rfl (fun aa ww hs _ => by have e20 := hs 20 _ rfl; have g20 := gt_of e20; have e19 := hs 19 _ rfl; have g19 := gt_of e19; simp only [execOp]; go_simp <;> first | rfl | omega) ?_
     refine wSt rfl tyint 0 rfl rfl rfl rfl ?_
     refine wN ?_
     refine bN (tN (wKK hK12 ?_))
     refine wReg ?_
     iterate 2 refine p_newRC rfl ?_
     refine wI 18 rfl (IntWalk.i64_in _ (by omega)) ?_
     refine p_newRC rfl ?_
     refine wN ?_
     refine tN ?_
     refine wRnd ?_
     refine wSeqK fun KK13 hK13 => ?_
     refine wSeqK fun KK14 hK14 => ?_
     refine wReg ?_
     iterate 2 refine p_newRC rfl ?_
     refine wLd rfl tyint 2 rfl rfl ?_
     refine p_newRC rfl ?_
     refine wN ?_
     refine tN (wKK hK14 ?_)
     refine wCond (E := decide (1 < c.cars)) rfl (fun z3 => ?_) (fun z3 => ?_)
     · skip
       have z3d : 1 < c.cars := of_decide_eq_true z3
       refine wSk ?_
       refine tN (wKK hK13 ?_)
       refine wSeqK fun KK15 hK15 => ?_
       refine wBlk ?_
       refine wReg ?_
       iterate 2 refine p_newRC rfl ?_
       refine wE (.pointer (some ⟨b3, 23, none⟩)) rfl rfl rfl (fun aa ww hs _ => by have e20 := hs 20 _ rfl; have g20 := gt_of e20; have e19 := hs 19 _ rfl; have g19 := gt_of e19; simp only [execOp]; go_simp <;> first | rfl | omega) ?_
       refine wSt rfl tyint 0 rfl rfl rfl rfl ?_
       refine wN ?_
       refine bN (tN (wKK hK15 ?_))
       refine wReg ?_
       iterate 2 refine p_newRC rfl ?_
       refine wI 18 rfl (IntWalk.i64_in _ (by omega)) ?_
       refine p_newRC rfl ?_
       refine wN ?_
       refine tN ?_
       refine wRnd ?_
       refine wSeqK fun KK16 hK16 => ?_
       refine wSeqK fun KK17 hK17 => ?_
       refine wReg ?_
       iterate 2 refine p_newRC rfl ?_
       refine wLd rfl tyint 2 rfl rfl ?_
       refine p_newRC rfl ?_
       refine wN ?_
       refine tN (wKK hK17 ?_)
       refine wCond (E := decide (2 < c.cars)) rfl (fun z4 => ?_) (fun z4 => ?_)
       · skip
         have z4d : 2 < c.cars := of_decide_eq_true z4
         refine wSk ?_
         refine tN (wKK hK16 ?_)
         refine wSeqK fun KK18 hK18 => ?_
         refine wBlk ?_
         refine wReg ?_
         iterate 2 refine p_newRC rfl ?_
         refine wE (.pointer (some ⟨b3, 24, none⟩)) rfl rfl rfl (fun aa ww hs _ => by have e20 := hs 20 _ rfl; have g20 := gt_of e20; have e19 := hs 19 _ rfl; have g19 := gt_of e19; simp only [execOp]; go_simp <;> first | rfl | omega) ?_
         refine wSt rfl tyint 0 rfl rfl rfl rfl ?_
         refine wN ?_
         refine bN (tN (wKK hK18 ?_))
         refine wReg ?_
         iterate 2 refine p_newRC rfl ?_
         refine wI 18 rfl (IntWalk.i64_in _ (by omega)) ?_
         refine p_newRC rfl ?_
         refine wN ?_
         refine tN ?_
         refine wRnd ?_
         refine wSeqK fun KK19 hK19 => ?_
         refine wSeqK fun KK20 hK20 => ?_
         refine wReg ?_
         iterate 2 refine p_newRC rfl ?_
         refine wLd rfl tyint 2 rfl rfl ?_
         refine p_newRC rfl ?_
         refine wN ?_
         refine tN (wKK hK20 ?_)
         refine wCond (E := decide (3 < c.cars)) rfl (fun z5 => ?_) (fun z5 => ?_)
         · skip
           have z5d : 3 < c.cars := of_decide_eq_true z5
           refine wSk ?_
           refine tN (wKK hK19 ?_)
           refine wSeqK fun KK21 hK21 => ?_
           refine wBlk ?_
           refine wReg ?_
           iterate 2 refine p_newRC rfl ?_
           refine wE (.pointer (some ⟨b3, 25, none⟩)) rfl rfl rfl (fun aa ww hs _ => by have e20 := hs 20 _ rfl; have g20 := gt_of e20; have e19 := hs 19 _ rfl; have g19 := gt_of e19; simp only [execOp]; go_simp <;> first | rfl | omega) ?_
           refine wSt rfl tyint 0 rfl rfl rfl rfl ?_
           refine wN ?_
           refine bN (tN (wKK hK21 ?_))
           refine wReg ?_
           iterate 2 refine p_newRC rfl ?_
           refine wI 18 rfl (IntWalk.i64_in _ (by omega)) ?_
           refine p_newRC rfl ?_
           refine wN ?_
           refine tN ?_
           refine wRnd ?_
           refine wSeqK fun KK22 hK22 => ?_
           refine wSeqK fun KK23 hK23 => ?_
           refine wReg ?_
           iterate 2 refine p_newRC rfl ?_
           refine wLd rfl tyint 2 rfl rfl ?_
           refine p_newRC rfl ?_
           refine wN ?_
           refine tN (wKK hK23 ?_)
           refine wCond (E := decide (4 < c.cars)) rfl (fun z6 => ?_) (fun z6 => ?_)
           · skip
             have z6d : 4 < c.cars := of_decide_eq_true z6
             exfalso
             omega
           · skip
             have z6d : ¬ (4 < c.cars) := of_decide_eq_false z6
             refine wEx ?_
             refine tX (tX (bX (tN (wKK hK8 ?_))))
             refine wSeqK fun KK24 hK24 => ?_
             refine wReg ?_
             refine wLr rfl tyhoistwayref09_Book 0 rfl (rbL c true 0 (.slice none 0 0) (.slice none 0 0) ([1, 1, 1, 1])) rfl rfl ?_
             refine wSr rfl tyhoistwayref09_Book 1 rfl rfl rfl rfl (rbL c true 0 (.slice none 0 0) (.slice none 0 0) ([1, 1, 1, 1])) (by first | rfl | (simp only [spl]; rfl)) ?_
             refine wN ?_
             refine tN (wKK hK24 ?_)
             refine wRet ?_
             exact wRc tyhoistwayref09_Book rfl rfl 1 rfl rfl (fun ww H => (by simp only [newR9, newModes, z1, z1n, z1no, z2, z3, z4, z5, z6, cond_true, cond_false, Bool.not_true, Bool.not_false, Bool.true_and, Bool.and_true, Bool.false_and, Bool.and_false, Bool.true_or, Bool.or_true, Bool.false_or, Bool.or_false]; exact ⟨none, 0, none, 0, rfl, (rS_nil _ _), (rS_nil _ _), (From.none _ _ _ _ _), (From.none _ _ _ _ _), H.out.off⟩))
         · skip
           have z5d : ¬ (3 < c.cars) := of_decide_eq_false z5
           refine wEx ?_
           refine tX (tX (bX (tN (wKK hK8 ?_))))
           refine wSeqK fun KK25 hK25 => ?_
           refine wReg ?_
           refine wLr rfl tyhoistwayref09_Book 0 rfl (rbL c true 0 (.slice none 0 0) (.slice none 0 0) ([1, 1, 1, 0])) rfl rfl ?_
           refine wSr rfl tyhoistwayref09_Book 1 rfl rfl rfl rfl (rbL c true 0 (.slice none 0 0) (.slice none 0 0) ([1, 1, 1, 0])) (by first | rfl | (simp only [spl]; rfl)) ?_
           refine wN ?_
           refine tN (wKK hK25 ?_)
           refine wRet ?_
           exact wRc tyhoistwayref09_Book rfl rfl 1 rfl rfl (fun ww H => (by simp only [newR9, newModes, z1, z1n, z1no, z2, z3, z4, z5, cond_true, cond_false, Bool.not_true, Bool.not_false, Bool.true_and, Bool.and_true, Bool.false_and, Bool.and_false, Bool.true_or, Bool.or_true, Bool.false_or, Bool.or_false]; exact ⟨none, 0, none, 0, rfl, (rS_nil _ _), (rS_nil _ _), (From.none _ _ _ _ _), (From.none _ _ _ _ _), H.out.off⟩))
       · skip
         have z4d : ¬ (2 < c.cars) := of_decide_eq_false z4
         refine wEx ?_
         refine tX (tX (bX (tN (wKK hK8 ?_))))
         refine wSeqK fun KK26 hK26 => ?_
         refine wReg ?_
         refine wLr rfl tyhoistwayref09_Book 0 rfl (rbL c true 0 (.slice none 0 0) (.slice none 0 0) ([1, 1, 0, 0])) rfl rfl ?_
         refine wSr rfl tyhoistwayref09_Book 1 rfl rfl rfl rfl (rbL c true 0 (.slice none 0 0) (.slice none 0 0) ([1, 1, 0, 0])) (by first | rfl | (simp only [spl]; rfl)) ?_
         refine wN ?_
         refine tN (wKK hK26 ?_)
         refine wRet ?_
         exact wRc tyhoistwayref09_Book rfl rfl 1 rfl rfl (fun ww H => (by simp only [newR9, newModes, z1, z1n, z1no, z2, z3, z4, cond_true, cond_false, Bool.not_true, Bool.not_false, Bool.true_and, Bool.and_true, Bool.false_and, Bool.and_false, Bool.true_or, Bool.or_true, Bool.false_or, Bool.or_false, show decide (3 < c.cars) = false from decide_eq_false (by omega)]; exact ⟨none, 0, none, 0, rfl, (rS_nil _ _), (rS_nil _ _), (From.none _ _ _ _ _), (From.none _ _ _ _ _), H.out.off⟩))
     · skip
       have z3d : ¬ (1 < c.cars) := of_decide_eq_false z3
       refine wEx ?_
       refine tX (tX (bX (tN (wKK hK8 ?_))))
       refine wSeqK fun KK27 hK27 => ?_
       refine wReg ?_
       refine wLr rfl tyhoistwayref09_Book 0 rfl (rbL c true 0 (.slice none 0 0) (.slice none 0 0) ([1, 0, 0, 0])) rfl rfl ?_
       refine wSr rfl tyhoistwayref09_Book 1 rfl rfl rfl rfl (rbL c true 0 (.slice none 0 0) (.slice none 0 0) ([1, 0, 0, 0])) (by first | rfl | (simp only [spl]; rfl)) ?_
       refine wN ?_
       refine tN (wKK hK27 ?_)
       refine wRet ?_
       exact wRc tyhoistwayref09_Book rfl rfl 1 rfl rfl (fun ww H => (by simp only [newR9, newModes, z1, z1n, z1no, z2, z3, cond_true, cond_false, Bool.not_true, Bool.not_false, Bool.true_and, Bool.and_true, Bool.false_and, Bool.and_false, Bool.true_or, Bool.or_true, Bool.false_or, Bool.or_false, show decide (2 < c.cars) = false from decide_eq_false (by omega), show decide (3 < c.cars) = false from decide_eq_false (by omega)]; exact ⟨none, 0, none, 0, rfl, (rS_nil _ _), (rS_nil _ _), (From.none _ _ _ _ _), (From.none _ _ _ _ _), H.out.off⟩))
   · skip
     have z2d : ¬ (0 < c.cars) := of_decide_eq_false z2
     refine wEx ?_
     refine tX (tX (bX (tN (wKK hK8 ?_))))
     refine wSeqK fun KK28 hK28 => ?_
     refine wReg ?_
     refine wLr rfl tyhoistwayref09_Book 0 rfl (rbL c true 0 (.slice none 0 0) (.slice none 0 0) ([0, 0, 0, 0])) rfl rfl ?_
     refine wSr rfl tyhoistwayref09_Book 1 rfl rfl rfl rfl (rbL c true 0 (.slice none 0 0) (.slice none 0 0) ([0, 0, 0, 0])) (by first | rfl | (simp only [spl]; rfl)) ?_
     refine wN ?_
     refine tN (wKK hK28 ?_)
     refine wRet ?_
     exact wRc tyhoistwayref09_Book rfl rfl 1 rfl rfl (fun ww H => (by simp only [newR9, newModes, z1, z1n, z1no, z2, cond_true, cond_false, Bool.not_true, Bool.not_false, Bool.true_and, Bool.and_true, Bool.false_and, Bool.and_false, Bool.true_or, Bool.or_true, Bool.false_or, Bool.or_false, show decide (1 < c.cars) = false from decide_eq_false (by omega), show decide (2 < c.cars) = false from decide_eq_false (by omega), show decide (3 < c.cars) = false from decide_eq_false (by omega)]; exact ⟨none, 0, none, 0, rfl, (rS_nil _ _), (rS_nil _ _), (From.none _ _ _ _ _), (From.none _ _ _ _ _), H.out.off⟩))
def tab_findRC : Wk.Tab := [(61, 3, 20), (61, 4, 21)]
theorem p_findRC {ops : Array Oper} {rest : List Oper} {o : Oper} {w0 : World} {Q : Exit → Act → World → Prop} {S : List Nat} {R : List Res} {K K' : Wk.Env} {N : Nat} (h : Wk.stp tab_findRC N ops K o = some K') (n : Wk.Wk N S w0 K' R (wpList Try.prog ops Q rest)) : Wk.Wk N S w0 K R (wpList Try.prog ops Q (o :: rest)) := Wk.wP (T := tab_findRC) (by kernel_rfl) h n
set_option maxHeartbeats 16000000 in
set_option maxRecDepth 20000 in
theorem findRC (u : RBook) (la : Option Addr) (lc : Nat) (da : Option Addr) (dc : Nat) (id : Int) (w : World) (h1 : (rS la lc 8 (u.live.map callRow)).holds w) (h2 : (rS da dc 8 (u.done.map callRow)).holds w) (hu : Hid (OkR u)) : Calls Try.prog 29 #[.agg (rbA u.c u.is u.index (.slice la u.live.length lc) (.slice da u.done.length dc) u.modes), .int .i64 id] w fun e w' => e = .returned (.tuple #[.agg #[.int .i64 (((findR u id).1).id), .int .i64 (((findR u id).1).kind), .int .i64 (((findR u id).1).src), .int .i64 (((findR u id).1).dst), .int .i64 (((findR u id).1).car), .int .i64 (((findR u id).1).state), .int .i64 (((findR u id).1).owner), .int .i64 (((findR u id).1).born)], .bool (findR u id).2]) ∧ Off [] w w' := by
 have H := Lib.hid (Hp.start [] w)
 have H := hp_old H h1 (by decide)
 have H := hp_old H h2 (by decide)
 clear h1 h2
 refine wStart (args := [.agg (rbA u.c u.is u.index (.slice la u.live.length lc) (.slice da u.done.length dc) u.modes), .int .i64 id]) Try.func29 rfl rfl rfl H ?_
 clear H
 show Wk 49 _ _ [(0, .agg (rbA u.c u.is u.index (.slice la u.live.length lc) (.slice da u.done.length dc) u.modes)), (1, .int .i64 id)] _ _
 have hul : u.live.length ≤ 1000 := hu.out.live
 have hud : u.done.length ≤ 1000 := hu.out.done
 have hui : 0 ≤ u.index ∧ u.index ≤ 1073741824 := hu.out.index
 have huc : u.c.cars ≤ 4 := hu.out.cars
 refine wSeqK fun KK1 hK1 => ?_
 refine wReg ?_
 refine wBx rfl rfl rfl fun b2 => ?_
 refine wAl rfl rfl tyapi_Call fun b4 => ?_
 refine p_findRC rfl ?_
 refine wN ?_
 refine tN (wKK hK1 ?_)
 refine wSeqK fun KK2 hK2 => ?_
 refine wSeqK fun KK3 hK3 => ?_
 refine wReg ?_
 refine p_findRC rfl ?_
 refine wN ?_
 refine tN (wKK hK3 ?_)
 refine wBlk ?_
 refine wLoop (fun ab wv => ∃ i : Nat, (i ≤ u.live.length) ∧ (Hid (∀ k, k < i → ∀ y, u.live[k]? = some y → (y.id == id) = false)) ∧ ab.tmps.size = 49 ∧ ab.defers = [] ∧ Sat [(0, .agg (rbA u.c u.is u.index (.slice la u.live.length lc) (.slice da u.done.length dc) u.modes)), (1, .int .i64 id), (2, .pointer (some ⟨b2, 0, none⟩)), (4, .pointer (some ⟨b4, 0, none⟩)), (6, .int .i64 i)] ab ∧ Hid (Hp [] w wv [rB b4 38 (xL zeroC), rB b2 61 (rbL u.c u.is u.index (.slice la u.live.length lc) (.slice da u.done.length dc) u.modes), rS da dc 8 (u.done.map callRow), rS la lc 8 (u.live.map callRow)])) (fun ab _ => u.live.length - (intOf (ab.eval (.tmp 6))).toNat) (fun aa ww nn dd hs H => ⟨0, (Nat.zero_le _), (Lib.hid (fun k hk => absurd hk (by omega))), nn, dd, (sat_sub ⟨rfl, rfl, rfl, rfl, rfl, trivial⟩ hs), H⟩) ?_
 rintro a1 wv ⟨i, hi, hn, nn, dd, hs, H⟩
 have mu1_6 := hs 6 _ rfl
 refine wIn nn dd hs H ?_
 clear nn dd hs H
 refine wSeqK fun KK4 hK4 => ?_
 refine wSeqK fun KK5 hK5 => ?_
 refine wReg ?_
 iterate 2 refine p_findRC rfl ?_
 refine wLd rfl tyS_api_Call 1 rfl rfl ?_
 refine wE (.int .i64 u.live.length) rfl rfl rfl (fun aa ww hs _ => by have e10 := hs 10 _ rfl; have g10 := gt_of e10; simp only [execOp]; go_simp <;> first | rfl | omega) ?_
 refine p_findRC rfl ?_
 refine wB (c := decide (i < u.live.length)) 12 rfl (by simp) ?_
 refine wN ?_
 refine tN (wKK hK5 ?_)
 refine wCond (E := decide (i < u.live.length)) rfl (fun z1 => ?_) (fun z1 => ?_)
 · skip
   have z1d : i < u.live.length := of_decide_eq_true z1
   intro aa ww nn dd hs H
   obtain ⟨y, rfl⟩ := some_of_row (hp_held H (show rS la lc 8 (u.live.map callRow) ∈ _ by simp)) (i := i) (by simp; omega)
   obtain ⟨x, hx⟩ : ∃ x, u.live[i]? = some x := ⟨u.live[i], List.getElem?_eq_getElem (by omega)⟩
   have HRx := Lib.hid (show (u.live.map callRow)[i]? = some [.int .i64 x.id, .int .i64 x.kind, .int .i64 x.src, .int .i64 x.dst, .int .i64 x.car, .int .i64 x.state, .int .i64 x.owner, .int .i64 x.born] by rw [List.getElem?_map, hx]; rfl)
   have HXx := Lib.hid hx
   clear hx
   refine wIn nn dd hs H ?_
   refine wSk ?_
   refine tN (wKK hK4 ?_)
   refine wSeqK fun KK6 hK6 => ?_
   refine wBlk ?_
   refine wSeqK fun KK7 hK7 => ?_
   refine wReg ?_
   refine p_findRC rfl ?_
   refine wLd rfl tyS_api_Call 1 rfl rfl ?_
   refine p_findRC rfl ?_
   refine wE (.pointer (some (y.add (i * 8)))) rfl rfl rfl (fun aa ww hs _ => by have e16 := hs 16 _ rfl; have g16 := gt_of e16; have e17 := hs 17 _ rfl; have g17 := gt_of e17; simp only [execOp]; go_simp <;> first | rfl | omega) ?_
   refine wE (.pointer (some (y.add (i * 8)))) rfl rfl rfl (fun aa ww hs _ => by have e18 := hs 18 _ rfl; have g18 := gt_of e18; simp only [execOp]; go_simp <;> first | rfl | omega) ?_
   refine wX 20 (.int .i64 x.id) rfl (fun aa ww KK hs H _ hk => hpS_load1 0 tyint H (y := y) rfl (hs _ _ rfl) (wnt_ok hs rfl) (by (repeat (first | exact List.Mem.head _ | apply List.Mem.tail))) HRx.out (by rfl) (by simp [Addr.add]) hk) ?_
   iterate 2 refine p_findRC rfl ?_
   refine wN ?_
   refine tN (wKK hK7 ?_)
   refine wCond (E := x.id == id) rfl (fun z2 => ?_) (fun z2 => ?_)
   · skip
     have z2o : (x.id != id) = false := eqq_t z2
     refine wSeqK fun KK8 hK8 => ?_
     refine wReg ?_
     refine p_findRC rfl ?_
     refine wLd rfl tyS_api_Call 1 rfl rfl ?_
     refine p_findRC rfl ?_
     refine wE (.pointer (some (y.add (i * 8)))) rfl rfl rfl (fun aa ww hs _ => by have e24 := hs 24 _ rfl; have g24 := gt_of e24; have e25 := hs 25 _ rfl; have g25 := gt_of e25; simp only [execOp]; go_simp <;> first | rfl | omega) ?_
     refine wX 27 (.agg (xA x)) rfl (fun aa ww KK hs H _ hk => hpS_load tyapi_Call H (y := y) rfl (hs _ _ rfl) (wnt_ok hs rfl) (by (repeat (first | exact List.Mem.head _ | apply List.Mem.tail))) HRx.out rfl hk) ?_
     refine wSr rfl tyapi_Call 0 rfl rfl rfl rfl (xL x) (by first | rfl | (simp only [spl]; rfl)) ?_
     refine p_findRC rfl ?_
     refine wN ?_
     refine tN (wKK hK8 ?_)
     refine wRet ?_
     refine bR (tR (tR (bR (tR ?_))))
     exact wRct tyapi_Call rfl rfl rfl 0 rfl rfl (fun ww H => ⟨by rw [find_lv (fd_stop hn.out HXx.out z2)]; rfl, H.out.off⟩)
   · skip
     have z2o : (x.id != id) = true := eqq_f z2
     refine wSk ?_
     refine bN (tN (wKK hK6 ?_))
     refine wReg ?_
     iterate 2 refine p_findRC rfl ?_
     refine wI 14 rfl (IntWalk.i64_in _ (by omega)) ?_
     refine p_findRC rfl ?_
     refine wN ?_
     refine tN ?_
     intro aa ww nn dd hs H
     refine ⟨⟨i + 1, (by omega), (Lib.hid (idx_next hn.out HXx.out z2)), nn, dd, (sat_sub ⟨rfl, rfl, rfl, rfl, rfl, trivial⟩ hs), (Lib.hid (H.out.sub (by repeat (first | exact List.Sublist.refl _ | apply List.Sublist.cons₂ | apply List.Sublist.cons))))⟩, ?_⟩
     have m6 := hs 6 _ rfl
     simp only [mu1_6, m6, intOf]
     omega
 · skip
   have z1d : ¬ (i < u.live.length) := of_decide_eq_false z1
   refine wEx ?_
   refine tX (tX (bX (tN (wKK hK2 ?_))))
   refine wSeqK fun KK9 hK9 => ?_
   refine wSeqK fun KK10 hK10 => ?_
   refine wReg ?_
   refine p_findRC rfl ?_
   refine wN ?_
   refine tN (wKK hK10 ?_)
   refine wBlk ?_
   refine wLoop (fun ab wv => ∃ j : Nat, (j ≤ u.done.length) ∧ (Hid (∀ k, k < j → ∀ y, u.done[k]? = some y → (y.id == id) = false)) ∧ ab.tmps.size = 49 ∧ ab.defers = [] ∧ Sat [(0, .agg (rbA u.c u.is u.index (.slice la u.live.length lc) (.slice da u.done.length dc) u.modes)), (1, .int .i64 id), (2, .pointer (some ⟨b2, 0, none⟩)), (4, .pointer (some ⟨b4, 0, none⟩)), (6, .int .i64 i), (7, .int .i64 j), (12, .bool (decide (i < u.live.length)))] ab ∧ Hid (Hp [] w wv [rB b4 38 (xL zeroC), rB b2 61 (rbL u.c u.is u.index (.slice la u.live.length lc) (.slice da u.done.length dc) u.modes), rS da dc 8 (u.done.map callRow), rS la lc 8 (u.live.map callRow)])) (fun ab _ => u.done.length - (intOf (ab.eval (.tmp 7))).toNat) (fun aa ww nn dd hs H => ⟨0, (Nat.zero_le _), (Lib.hid (fun k hk => absurd hk (by omega))), nn, dd, (sat_sub ⟨rfl, rfl, rfl, rfl, rfl, rfl, rfl, trivial⟩ hs), H⟩) ?_
   rintro a2 wv ⟨j, hj, hm, nn, dd, hs, H⟩
   have mu2_7 := hs 7 _ rfl
   refine wIn nn dd hs H ?_
   clear nn dd hs H
   refine wSeqK fun KK11 hK11 => ?_
   refine wSeqK fun KK12 hK12 => ?_
   refine wReg ?_
   iterate 2 refine p_findRC rfl ?_
   refine wLd rfl tyS_api_Call 1 rfl rfl ?_
   refine wE (.int .i64 u.done.length) rfl rfl rfl (fun aa ww hs _ => by have e30 := hs 30 _ rfl; have g30 := gt_of e30; simp only [execOp]; go_simp <;> first | rfl | omega) ?_
   refine p_findRC rfl ?_
   refine wB (c := decide (j < u.done.length)) 32 rfl (by simp) ?_
   refine wN ?_
   refine tN (wKK hK12 ?_)
   refine wCond (E := decide (j < u.done.length)) rfl (fun z3 => ?_) (fun z3 => ?_)
   · skip
     have z3d : j < u.done.length := of_decide_eq_true z3
     intro aa ww nn dd hs H
     obtain ⟨y2, rfl⟩ := some_of_row (hp_held H (show rS da dc 8 (u.done.map callRow) ∈ _ by simp)) (i := j) (by simp; omega)
     obtain ⟨z, hz⟩ : ∃ z, u.done[j]? = some z := ⟨u.done[j], List.getElem?_eq_getElem (by omega)⟩
     have HRz := Lib.hid (show (u.done.map callRow)[j]? = some [.int .i64 z.id, .int .i64 z.kind, .int .i64 z.src, .int .i64 z.dst, .int .i64 z.car, .int .i64 z.state, .int .i64 z.owner, .int .i64 z.born] by rw [List.getElem?_map, hz]; rfl)
     have HXz := Lib.hid hz
     clear hz
     refine wIn nn dd hs H ?_
     refine wSk ?_
     refine tN (wKK hK11 ?_)
     refine wSeqK fun KK13 hK13 => ?_
     refine wBlk ?_
     refine wSeqK fun KK14 hK14 => ?_
     refine wReg ?_
     refine p_findRC rfl ?_
     refine wLd rfl tyS_api_Call 1 rfl rfl ?_
     refine p_findRC rfl ?_
     refine wE (.pointer (some (y2.add (j * 8)))) rfl rfl rfl (fun aa ww hs _ => by have e36 := hs 36 _ rfl; have g36 := gt_of e36; have e37 := hs 37 _ rfl; have g37 := gt_of e37; simp only [execOp]; go_simp <;> first | rfl | omega) ?_
     refine wE (.pointer (some (y2.add (j * 8)))) rfl rfl rfl (fun aa ww hs _ => by have e38 := hs 38 _ rfl; have g38 := gt_of e38; simp only [execOp]; go_simp <;> first | rfl | omega) ?_
     refine wX 40 (.int .i64 z.id) rfl (fun aa ww KK hs H _ hk => hpS_load1 0 tyint H (y := y2) rfl (hs _ _ rfl) (wnt_ok hs rfl) (by (repeat (first | exact List.Mem.head _ | apply List.Mem.tail))) HRz.out (by rfl) (by simp [Addr.add]) hk) ?_
     iterate 2 refine p_findRC rfl ?_
     refine wN ?_
     refine tN (wKK hK14 ?_)
     refine wCond (E := z.id == id) rfl (fun z4 => ?_) (fun z4 => ?_)
     · skip
       have z4o : (z.id != id) = false := eqq_t z4
       refine wSeqK fun KK15 hK15 => ?_
       refine wReg ?_
       refine p_findRC rfl ?_
       refine wLd rfl tyS_api_Call 1 rfl rfl ?_
       refine p_findRC rfl ?_
       refine wE (.pointer (some (y2.add (j * 8)))) rfl rfl rfl (fun aa ww hs _ => by have e44 := hs 44 _ rfl; have g44 := gt_of e44; have e45 := hs 45 _ rfl; have g45 := gt_of e45; simp only [execOp]; go_simp <;> first | rfl | omega) ?_
       refine wX 47 (.agg (xA z)) rfl (fun aa ww KK hs H _ hk => hpS_load tyapi_Call H (y := y2) rfl (hs _ _ rfl) (wnt_ok hs rfl) (by (repeat (first | exact List.Mem.head _ | apply List.Mem.tail))) HRz.out rfl hk) ?_
       refine wSr rfl tyapi_Call 0 rfl rfl rfl rfl (xL z) (by first | rfl | (simp only [spl]; rfl)) ?_
       refine p_findRC rfl ?_
       refine wN ?_
       refine tN (wKK hK15 ?_)
       refine wRet ?_
       refine bR (tR (tR (bR (tR ?_))))
       exact wRct tyapi_Call rfl rfl rfl 0 rfl rfl (fun ww H => ⟨by rw [find_dn (fd_end (fun k hk => hn.out k (by omega))) (fd_stop hm.out HXz.out z4)]; rfl, H.out.off⟩)
     · skip
       have z4o : (z.id != id) = true := eqq_f z4
       refine wSk ?_
       refine bN (tN (wKK hK13 ?_))
       refine wReg ?_
       iterate 2 refine p_findRC rfl ?_
       refine wI 34 rfl (IntWalk.i64_in _ (by omega)) ?_
       refine p_findRC rfl ?_
       refine wN ?_
       refine tN ?_
       intro aa ww nn dd hs H
       refine ⟨⟨j + 1, (by omega), (Lib.hid (idx_next hm.out HXz.out z4)), nn, dd, (sat_sub ⟨rfl, rfl, rfl, rfl, rfl, rfl, rfl, trivial⟩ hs), (Lib.hid (H.out.sub (by repeat (first | exact List.Sublist.refl _ | apply List.Sublist.cons₂ | apply List.Sublist.cons))))⟩, ?_⟩
       have m7 := hs 7 _ rfl
       simp only [mu2_7, m7, intOf]
       omega
   · skip
     have z3d : ¬ (j < u.done.length) := of_decide_eq_false z3
     refine wEx ?_
     refine tX (tX (bX (tN (wKK hK9 ?_))))
     refine wSeqK fun KK16 hK16 => ?_
     refine wReg ?_
     refine wE (.agg (xA zeroC)) rfl rfl rfl (fun aa ww hs _ => by simp only [execOp]; go_simp <;> first | rfl | omega) ?_
     refine wSr rfl tyapi_Call 0 rfl rfl rfl rfl (xL zeroC) (by first | rfl | (simp only [spl]; rfl)) ?_
     refine p_findRC rfl ?_
     refine wN ?_
     refine tN (wKK hK16 ?_)
     refine wRet ?_
     exact wRct tyapi_Call rfl rfl rfl 0 rfl rfl (fun ww H => ⟨by rw [find_no (fd_end (fun k hk => hn.out k (by omega))) (fd_end (fun k hk => hm.out k (by omega)))]; rfl, H.out.off⟩)
def tab_nextRC : Wk.Tab := [(24, 3, 3), (38, 5, 5), (61, 0, 0), (61, 2, 19), (61, 3, 20), (61, 4, 21)]
theorem p_nextRC {ops : Array Oper} {rest : List Oper} {o : Oper} {w0 : World} {Q : Exit → Act → World → Prop} {S : List Nat} {R : List Res} {K K' : Wk.Env} {N : Nat} (h : Wk.stp tab_nextRC N ops K o = some K') (n : Wk.Wk N S w0 K' R (wpList Try.prog ops Q rest)) : Wk.Wk N S w0 K R (wpList Try.prog ops Q (o :: rest)) := Wk.wP (T := tab_nextRC) (by kernel_rfl) h n
set_option maxHeartbeats 4000000 in
set_option maxRecDepth 20000 in
theorem nextRC_r8 (u : RBook) (lc : Nat) (da : Option Addr) (dc : Nat) (x : CallV) (hul : u.live.length ≤ 1000) (hud : u.done.length ≤ 1000) (hui : 0 ≤ u.index ∧ u.index ≤ 1073741824) (huc : u.c.cars ≤ 4) (b2 : Nat) (b3 : Nat) (b4 : Nat) (b5 : Nat) (z1d : ¬ (1073741824 ≤ u.index)) (i : Nat) (a : Option Addr) (c : Nat) (ys : List CallV) (hi : i ≤ u.live.length) (hyl : ys.length ≤ i) (z2d : i < u.live.length) (yz : Addr) (z : CallV) (HRz : Hid ((u.live.map callRow)[i]? = some [.int .i64 z.id, .int .i64 z.kind, .int .i64 z.src, .int .i64 z.dst, .int .i64 z.car, .int .i64 z.state, .int .i64 z.owner, .int .i64 z.born])) {wa wb : World} (H : Hid (Hp [] wa wb [rA a c 38 8 (ys.map callRow), rB b5 40 (chL zeroCh), rB b4 61 (rbL zeroF false 0 (.slice none 0 0) (.slice none 0 0) ([0, 0, 0, 0])), rB b3 38 (xL x), rB b2 61 (rbL u.c u.is u.index (.slice (some yz) u.live.length lc) (.slice da u.done.length dc) u.modes), rS da dc 8 (u.done.map callRow), rS (some yz) lc 8 (u.live.map callRow)])) (ac0 : Act) (hz : ac0.tmps.size = 94) (so2 : ac0.eval (.tmp 2) = .pointer (some ⟨b2, 0, none⟩)) (so3 : ac0.eval (.tmp 3) = .pointer (some ⟨b3, 0, none⟩)) (so9 : ac0.eval (.tmp 9) = .int .i64 i) {QR : Exit → Act → World → Prop} (hfin : ∀ (ac1 : Act) (wz : World), ac1.tmps.size = 94 → ac1.defers = ac0.defers → (∀ t, ([24, 25, 26, 27, 28, 29, 30, 31, 32] : List Nat).contains t = false → ac1.eval (.tmp t) = ac0.eval (.tmp t)) → ac1.eval (.tmp 32) = .bool (z.id != x.id) →  Hid (Hp [] wa wz [rA a c 38 8 (ys.map callRow), rB b5 40 (chL zeroCh), rB b4 61 (rbL zeroF false 0 (.slice none 0 0) (.slice none 0 0) ([0, 0, 0, 0])), rB b3 38 (xL x), rB b2 61 (rbL u.c u.is u.index (.slice (some yz) u.live.length lc) (.slice da u.done.length dc) u.modes), rS da dc 8 (u.done.map callRow), rS (some yz) lc 8 (u.live.map callRow)]) → QR .normal ac1 wz) : (regAt Try.f58 8).wp Try.prog QR ac0 wb := by
  refine wp_region_st mixedP ⟨[0, 1, 0, 2, 3, 4, 0, 1, 5], by kernel_rfl⟩ [[], [0], [], [0, 1, 2], [0, 1, 2, 3], [0, 1, 2, 3, 4], [], [6], [0, 1, 2, 3, 4, 5, 6, 7]] (by kernel_rfl) (by kernel_rfl) 94 hz (by kernel_rfl) (fun (xx : Unit) jx => nth [.pointer (some ⟨b2, 20, none⟩), .slice (some yz) u.live.length lc, .int .i64 i, .pointer (some (yz.add (i * 8))), .pointer (some (yz.add (i * 8))), .int .i64 z.id, .pointer (some ⟨b3, 0, none⟩), .int .i64 x.id, .bool (z.id != x.id)] jx) (fun (LL : Nat → Bool) (xx : Unit) ww => Hp [] wa ww [rA a c 38 8 (ys.map callRow), rB b5 40 (chL zeroCh), rB b4 61 (rbL zeroF false 0 (.slice none 0 0) (.slice none 0 0) ([0, 0, 0, 0])), rB b3 38 (xL x), rB b2 61 (rbL u.c u.is u.index (.slice (some yz) u.live.length lc) (.slice da u.done.length dc) u.modes), rS da dc 8 (u.done.map callRow), rS (some yz) lc 8 (u.live.map callRow)]) () H.out.drew ?_ (steps_al ?_) ?_ ?_
  · exact fun _ _ _ _ _ h => h
  · refine al_cons ?_ (al_cons ?_ (al_cons ?_ (al_cons ?_ (al_cons ?_ (al_cons ?_ (al_cons ?_ (al_cons ?_ (al_cons ?_ (al_nil)))))))))
    · intro LL xx ac wc sg hst hwant QQ hgo
      have se2 : ac.eval (.tmp 2) = _ := ((sg.free 2 (by kernel_rfl)).trans so2)
      have sg2 := gt_of se2
      exact op_val hwant hgo hst _ (by simp only [execOp, nth]; go_simp <;> omega) rfl
    · intro LL xx ac wc sg hst hwant QQ hgo
      have H := Lib.hid hst
      refine hpA_load1 tyS_api_Call H rfl (sg.slot 0 (sg.anc 0 rfl)) hwant (by (repeat (first | exact List.Mem.head _ | apply List.Mem.tail))) (by rfl) ?_
      exact hgo _ () _ (fun _ _ => rfl) rfl hst
    · intro LL xx ac wc sg hst hwant QQ hgo
      exact op_val hwant hgo hst _ (exec_move rfl ((sg.free 9 (by kernel_rfl)).trans so9)) rfl
    · intro LL xx ac wc sg hst hwant QQ hgo
      have se25 : ac.eval (.tmp 25) = _ := (sg.slot 1 (sg.anc 1 rfl))
      have sg25 := gt_of se25
      have se26 : ac.eval (.tmp 26) = _ := (sg.slot 2 (sg.anc 2 rfl))
      have sg26 := gt_of se26
      (try simp only [nth] at se25 sg25 se26 sg26)
      exact op_val hwant hgo hst _ (by simp only [execOp, nth]; go_simp <;> omega) rfl
    · intro LL xx ac wc sg hst hwant QQ hgo
      have se27 : ac.eval (.tmp 27) = _ := (sg.slot 3 (sg.anc 3 rfl))
      have sg27 := gt_of se27
      (try simp only [nth] at se27 sg27)
      exact op_val hwant hgo hst _ (by simp only [execOp, nth]; go_simp <;> omega) rfl
    · intro LL xx ac wc sg hst hwant QQ hgo
      have H := Lib.hid hst
      refine hpS_load1 0 tyint H (y := yz) rfl (sg.slot 4 (sg.anc 4 rfl)) hwant (by (repeat (first | exact List.Mem.head _ | apply List.Mem.tail))) HRz.out (by rfl) (by simp [Addr.add]) ?_
      exact hgo _ () _ (fun _ _ => rfl) rfl hst
    · intro LL xx ac wc sg hst hwant QQ hgo
      have se3 : ac.eval (.tmp 3) = _ := ((sg.free 3 (by kernel_rfl)).trans so3)
      have sg3 := gt_of se3
      exact op_val hwant hgo hst _ (by simp only [execOp, nth]; go_simp <;> omega) rfl
    · intro LL xx ac wc sg hst hwant QQ hgo
      have H := Lib.hid hst
      refine hpA_load1 tyint H rfl (sg.slot 6 (sg.anc 6 rfl)) hwant (by (repeat (first | exact List.Mem.head _ | apply List.Mem.tail))) (by rfl) ?_
      exact hgo _ () _ (fun _ _ => rfl) rfl hst
    · intro LL xx ac wc sg hst hwant QQ hgo
      have se29 : ac.eval (.tmp 29) = _ := (sg.slot 5 (sg.anc 5 rfl))
      have sg29 := gt_of se29
      have se31 : ac.eval (.tmp 31) = _ := (sg.slot 7 (sg.anc 7 rfl))
      have sg31 := gt_of se31
      (try simp only [nth] at se29 sg29 se31 sg31)
      exact op_val hwant hgo hst _ (by simp only [execOp, nth]; go_simp <;> omega) rfl
  · exact skips [] (by kernel_rfl) (fun _ h => by cases h)
  · intro xx ac1 wz hfr hsl hst
    exact hfin ac1 wz (hfr.size.trans hz) hfr.defers (fr_keep hfr [24, 25, 26, 27, 28, 29, 30, 31, 32] (by kernel_rfl)) (hsl 8 (by decide)) (Lib.hid hst)
set_option maxHeartbeats 4000000 in
set_option maxRecDepth 20000 in
theorem nextRC_r25 (u : RBook) (la : Option Addr) (lc : Nat) (da : Option Addr) (dc : Nat) (x : CallV) (hul : u.live.length ≤ 1000) (hud : u.done.length ≤ 1000) (hui : 0 ≤ u.index ∧ u.index ≤ 1073741824) (huc : u.c.cars ≤ 4) (b2 : Nat) (b3 : Nat) (b4 : Nat) (b5 : Nat) (z1d : ¬ (1073741824 ≤ u.index)) (i : Nat) (a : Option Addr) (c : Nat) (ys : List CallV) (was : Bool) (hi : i ≤ u.live.length) (hyl : ys.length ≤ i) (z2d : ¬ (i < u.live.length)) (hyk : ys = keepL u.live x) (hwk : was = wasL u.live x) (z5d : 3 < x.state) (b57 : Nat) (a58 : Option Addr) (c58 : Nat) (z6d : u.c.calls < (((([] : List CallV) ++ u.done) ++ [x]).length : Int)) (hcl : ((([] : List CallV) ++ u.done) ++ [x]).length = u.done.length + 1) {wa wb : World} (H : Hid (Hp [] wa wb [rB b57 38 (xL x), rA a58 c58 38 8 (((([] : List CallV) ++ u.done) ++ [x]).map callRow), rA a c 38 8 (ys.map callRow), rB b5 40 (chL zeroCh), rB b4 61 (rbL zeroF false 0 (.slice none 0 0) (.slice none 0 0) ([0, 0, 0, 0])), rB b3 38 (xL x), rB b2 61 (rbL u.c u.is (u.index + 1) (.slice a ys.length c) (.slice (cutA a58 c58 1 8) ((((([] : List CallV) ++ u.done) ++ [x]).length) - 1) (c58 - 1)) u.modes), rS da dc 8 (u.done.map callRow), rS la lc 8 (u.live.map callRow)])) (ac0 : Act) (hz : ac0.tmps.size = 94) (so2 : ac0.eval (.tmp 2) = .pointer (some ⟨b2, 0, none⟩)) (so3 : ac0.eval (.tmp 3) = .pointer (some ⟨b3, 0, none⟩)) (so4 : ac0.eval (.tmp 4) = .pointer (some ⟨b4, 0, none⟩)) (so5 : ac0.eval (.tmp 5) = .pointer (some ⟨b5, 0, none⟩)) {QR : Exit → Act → World → Prop} (hfin : ∀ (ac1 : Act) (wz : World), ac1.tmps.size = 94 → ac1.defers = ac0.defers → (∀ t, ([6, 89, 90, 91, 92, 93] : List Nat).contains t = false → ac1.eval (.tmp t) = ac0.eval (.tmp t)) → ac1.eval (.tmp 6) = .int .i64 0 →  Hid (Hp [] wa wz [rB b57 38 (xL x), rA a58 c58 38 8 (((([] : List CallV) ++ u.done) ++ [x]).map callRow), rA a c 38 8 (ys.map callRow), rB b5 40 [.int .i64 (u.index + 1), .int .i64 x.id, .int .i64 x.kind, .int .i64 x.src, .int .i64 x.dst, .int .i64 x.car, .int .i64 x.state, .int .i64 x.owner, .int .i64 x.born, .int .i64 0, .int .i64 0], rB b4 61 (rbL u.c u.is (u.index + 1) (.slice a ys.length c) (.slice (cutA a58 c58 1 8) ((((([] : List CallV) ++ u.done) ++ [x]).length) - 1) (c58 - 1)) u.modes), rB b3 38 (xL x), rB b2 61 (rbL u.c u.is (u.index + 1) (.slice a ys.length c) (.slice (cutA a58 c58 1 8) ((((([] : List CallV) ++ u.done) ++ [x]).length) - 1) (c58 - 1)) u.modes), rS da dc 8 (u.done.map callRow), rS la lc 8 (u.live.map callRow)]) → QR .normal ac1 wz) : (regAt Try.f58 25).wp Try.prog QR ac0 wb := by
  refine wp_region_st mixedP ⟨[0, 0, 1, 0, 2, 1, 3, 4], by kernel_rfl⟩ [[], [], [1], [], [1, 2, 3], [0], [0, 1, 2, 3, 4, 5], [0, 1, 2, 3, 4, 5, 6]] (by kernel_rfl) (by kernel_rfl) 94 hz (by kernel_rfl) (fun (xx : Unit) jx => nth [.agg (rbA u.c u.is (u.index + 1) (.slice a ys.length c) (.slice (cutA a58 c58 1 8) ((((([] : List CallV) ++ u.done) ++ [x]).length) - 1) (c58 - 1)) u.modes), .pointer (some ⟨b2, 19, none⟩), .int .i64 (u.index + 1), .agg (xA x), .agg #[.int .i64 (u.index + 1), .int .i64 x.id, .int .i64 x.kind, .int .i64 x.src, .int .i64 x.dst, .int .i64 x.car, .int .i64 x.state, .int .i64 x.owner, .int .i64 x.born, .int .i64 0, .int .i64 0], undef, undef, .int .i64 0] jx) (fun (LL : Nat → Bool) (xx : Unit) ww => Hp [] wa ww (bif LL 5 then (bif LL 6 then [rB b57 38 (xL x), rA a58 c58 38 8 (((([] : List CallV) ++ u.done) ++ [x]).map callRow), rA a c 38 8 (ys.map callRow), rB b5 40 [.int .i64 (u.index + 1), .int .i64 x.id, .int .i64 x.kind, .int .i64 x.src, .int .i64 x.dst, .int .i64 x.car, .int .i64 x.state, .int .i64 x.owner, .int .i64 x.born, .int .i64 0, .int .i64 0], rB b4 61 (rbL u.c u.is (u.index + 1) (.slice a ys.length c) (.slice (cutA a58 c58 1 8) ((((([] : List CallV) ++ u.done) ++ [x]).length) - 1) (c58 - 1)) u.modes), rB b3 38 (xL x), rB b2 61 (rbL u.c u.is (u.index + 1) (.slice a ys.length c) (.slice (cutA a58 c58 1 8) ((((([] : List CallV) ++ u.done) ++ [x]).length) - 1) (c58 - 1)) u.modes), rS da dc 8 (u.done.map callRow), rS la lc 8 (u.live.map callRow)] else [rB b57 38 (xL x), rA a58 c58 38 8 (((([] : List CallV) ++ u.done) ++ [x]).map callRow), rA a c 38 8 (ys.map callRow), rB b5 40 (chL zeroCh), rB b4 61 (rbL u.c u.is (u.index + 1) (.slice a ys.length c) (.slice (cutA a58 c58 1 8) ((((([] : List CallV) ++ u.done) ++ [x]).length) - 1) (c58 - 1)) u.modes), rB b3 38 (xL x), rB b2 61 (rbL u.c u.is (u.index + 1) (.slice a ys.length c) (.slice (cutA a58 c58 1 8) ((((([] : List CallV) ++ u.done) ++ [x]).length) - 1) (c58 - 1)) u.modes), rS da dc 8 (u.done.map callRow), rS la lc 8 (u.live.map callRow)]) else [rB b57 38 (xL x), rA a58 c58 38 8 (((([] : List CallV) ++ u.done) ++ [x]).map callRow), rA a c 38 8 (ys.map callRow), rB b5 40 (chL zeroCh), rB b4 61 (rbL zeroF false 0 (.slice none 0 0) (.slice none 0 0) ([0, 0, 0, 0])), rB b3 38 (xL x), rB b2 61 (rbL u.c u.is (u.index + 1) (.slice a ys.length c) (.slice (cutA a58 c58 1 8) ((((([] : List CallV) ++ u.done) ++ [x]).length) - 1) (c58 - 1)) u.modes), rS da dc 8 (u.done.map callRow), rS la lc 8 (u.live.map callRow)])) () H.out.drew ?_ (steps_al ?_) ?_ ?_
  · intro L1 L2 xx ww hL sg
    have lh5 := hL 5 (by decide)
    have lh6 := hL 6 (by decide)
    simp only [lh5, lh6] at sg
    exact sg
  · refine al_cons ?_ (al_cons ?_ (al_cons ?_ (al_cons ?_ (al_cons ?_ (al_cons ?_ (al_cons ?_ (al_cons ?_ (al_nil))))))))
    · intro LL xx ac wc sg hst hwant QQ hgo
      have H := Lib.hid hst
      simp only [sg.des 5 rfl, sg.des 6 rfl, cond_true, cond_false] at H
      refine hpA_load tyhoistwayref09_Book H rfl ((sg.free 2 (by kernel_rfl)).trans so2) hwant (by (repeat (first | exact List.Mem.head _ | apply List.Mem.tail))) (by rfl) rfl ?_
      exact hgo _ () _ (fun _ _ => rfl) rfl hst
    · intro LL xx ac wc sg hst hwant QQ hgo
      have se2 : ac.eval (.tmp 2) = _ := ((sg.free 2 (by kernel_rfl)).trans so2)
      have sg2 := gt_of se2
      exact op_val hwant hgo hst _ (by simp only [execOp, nth]; go_simp <;> omega) rfl
    · intro LL xx ac wc sg hst hwant QQ hgo
      rcases Bool.eq_false_or_eq_true (LL 5) with lh5 | lh5
      · skip
        have H := Lib.hid hst
        simp only [lh5, sg.des 6 rfl, cond_true, cond_false] at H
        refine hpA_load1 tyint H rfl (sg.slot 1 (sg.anc 1 rfl)) hwant (by (repeat (first | exact List.Mem.head _ | apply List.Mem.tail))) (by rfl) ?_
        exact hgo _ () _ (fun _ _ => rfl) rfl hst
      · skip
        have H := Lib.hid hst
        simp only [lh5, sg.des 6 rfl, cond_true, cond_false] at H
        refine hpA_load1 tyint H rfl (sg.slot 1 (sg.anc 1 rfl)) hwant (by (repeat (first | exact List.Mem.head _ | apply List.Mem.tail))) (by rfl) ?_
        exact hgo _ () _ (fun _ _ => rfl) rfl hst
    · intro LL xx ac wc sg hst hwant QQ hgo
      rcases Bool.eq_false_or_eq_true (LL 5) with lh5 | lh5
      · skip
        have H := Lib.hid hst
        simp only [lh5, sg.des 6 rfl, cond_true, cond_false] at H
        refine hpA_load tyapi_Call H rfl ((sg.free 3 (by kernel_rfl)).trans so3) hwant (by (repeat (first | exact List.Mem.head _ | apply List.Mem.tail))) (by rfl) rfl ?_
        exact hgo _ () _ (fun _ _ => rfl) rfl hst
      · skip
        have H := Lib.hid hst
        simp only [lh5, sg.des 6 rfl, cond_true, cond_false] at H
        refine hpA_load tyapi_Call H rfl ((sg.free 3 (by kernel_rfl)).trans so3) hwant (by (repeat (first | exact List.Mem.head _ | apply List.Mem.tail))) (by rfl) rfl ?_
        exact hgo _ () _ (fun _ _ => rfl) rfl hst
    · intro LL xx ac wc sg hst hwant QQ hgo
      have se91 : ac.eval (.tmp 91) = _ := (sg.slot 2 (sg.anc 2 rfl))
      have sg91 := gt_of se91
      have se92 : ac.eval (.tmp 92) = _ := (sg.slot 3 (sg.anc 3 rfl))
      have sg92 := gt_of se92
      (try simp only [nth] at se91 sg91 se92 sg92)
      (try simp only [xA, xL, cA, cL, chA, chL, bkA, bkL, rbA, rbL] at se91 sg91 se92 sg92)
      exact op_val hwant hgo hst _ (by simp only [execOp, nth, xA, xL, cA, cL, chA, chL, bkA, bkL, rbA, rbL]; go_simp <;> omega) rfl
    · intro LL xx ac wc sg hst hwant QQ hgo
      have H := Lib.hid hst
      simp only [sg.self, sg.des 6 rfl, cond_true, cond_false] at H
      refine hpA_store tyhoistwayref09_Book H rfl rfl ((sg.free 4 (by kernel_rfl)).trans so4) (sg.slot 0 (sg.anc 0 rfl)) rfl (by repeat (first | apply Put.head | apply Put.tail)) (by simp [xA, xL, cA, cL, chA, chL, bkA, bkL, rbA, rbL]) (by simp [xA, xL, cA, cL, chA, chL, bkA, bkL, rbA, rbL, Value.oneCell']) (by first | rfl | (simp only [spl]; rfl)) rfl ?_
      intro wd H2
      exact hgo _ () _ (fun _ _ => rfl) rfl (by simp only [(show upd LL 5 5 = true from rfl), (show upd LL 5 6 = LL 6 from rfl), sg.des 6 rfl, cond_true, cond_false]; exact H2.out)
    · intro LL xx ac wc sg hst hwant QQ hgo
      have H := Lib.hid hst
      simp only [sg.anc 5 rfl, sg.self, cond_true, cond_false] at H
      refine hpA_store tyapi_Change H rfl rfl ((sg.free 5 (by kernel_rfl)).trans so5) (sg.slot 4 (sg.anc 4 rfl)) rfl (by repeat (first | apply Put.head | apply Put.tail)) (by simp [xA, xL, cA, cL, chA, chL, bkA, bkL, rbA, rbL]) (by simp [xA, xL, cA, cL, chA, chL, bkA, bkL, rbA, rbL, Value.oneCell']) (by first | rfl | (simp only [spl]; rfl)) rfl ?_
      intro wd H2
      exact hgo _ () _ (fun _ _ => rfl) rfl (by simp only [(show upd LL 6 5 = LL 5 from rfl), sg.anc 5 rfl, (show upd LL 6 6 = true from rfl), cond_true, cond_false]; exact H2.out)
    · intro LL xx ac wc sg hst hwant QQ hgo
      exact op_val hwant hgo hst _ (exec_assign rfl rfl) rfl
  · exact skips [] (by kernel_rfl) (fun _ h => by cases h)
  · intro xx ac1 wz hfr hsl hst
    exact hfin ac1 wz (hfr.size.trans hz) hfr.defers (fr_keep hfr [6, 89, 90, 91, 92, 93] (by kernel_rfl)) (hsl 7 (by decide)) (Lib.hid hst)
set_option maxHeartbeats 4000000 in
set_option maxRecDepth 20000 in
theorem nextRC_r25x1 (u : RBook) (la : Option Addr) (lc : Nat) (da : Option Addr) (dc : Nat) (x : CallV) (hul : u.live.length ≤ 1000) (hud : u.done.length ≤ 1000) (hui : 0 ≤ u.index ∧ u.index ≤ 1073741824) (huc : u.c.cars ≤ 4) (b2 : Nat) (b3 : Nat) (b4 : Nat) (b5 : Nat) (z1d : ¬ (1073741824 ≤ u.index)) (i : Nat) (a : Option Addr) (c : Nat) (ys : List CallV) (was : Bool) (hi : i ≤ u.live.length) (hyl : ys.length ≤ i) (z2d : ¬ (i < u.live.length)) (hyk : ys = keepL u.live x) (hwk : was = wasL u.live x) (z5d : 3 < x.state) (b57 : Nat) (a58 : Option Addr) (c58 : Nat) (z6d : ¬ (u.c.calls < (((([] : List CallV) ++ u.done) ++ [x]).length : Int))) {wa wb : World} (H : Hid (Hp [] wa wb [rB b57 38 (xL x), rA a58 c58 38 8 (((([] : List CallV) ++ u.done) ++ [x]).map callRow), rA a c 38 8 (ys.map callRow), rB b5 40 (chL zeroCh), rB b4 61 (rbL zeroF false 0 (.slice none 0 0) (.slice none 0 0) ([0, 0, 0, 0])), rB b3 38 (xL x), rB b2 61 (rbL u.c u.is (u.index + 1) (.slice a ys.length c) (.slice a58 (((([] : List CallV) ++ u.done) ++ [x]).length) c58) u.modes), rS da dc 8 (u.done.map callRow), rS la lc 8 (u.live.map callRow)])) (ac0 : Act) (hz : ac0.tmps.size = 94) (so2 : ac0.eval (.tmp 2) = .pointer (some ⟨b2, 0, none⟩)) (so3 : ac0.eval (.tmp 3) = .pointer (some ⟨b3, 0, none⟩)) (so4 : ac0.eval (.tmp 4) = .pointer (some ⟨b4, 0, none⟩)) (so5 : ac0.eval (.tmp 5) = .pointer (some ⟨b5, 0, none⟩)) {QR : Exit → Act → World → Prop} (hfin : ∀ (ac1 : Act) (wz : World), ac1.tmps.size = 94 → ac1.defers = ac0.defers → (∀ t, ([6, 89, 90, 91, 92, 93] : List Nat).contains t = false → ac1.eval (.tmp t) = ac0.eval (.tmp t)) → ac1.eval (.tmp 6) = .int .i64 0 →  Hid (Hp [] wa wz [rB b57 38 (xL x), rA a58 c58 38 8 (((([] : List CallV) ++ u.done) ++ [x]).map callRow), rA a c 38 8 (ys.map callRow), rB b5 40 [.int .i64 (u.index + 1), .int .i64 x.id, .int .i64 x.kind, .int .i64 x.src, .int .i64 x.dst, .int .i64 x.car, .int .i64 x.state, .int .i64 x.owner, .int .i64 x.born, .int .i64 0, .int .i64 0], rB b4 61 (rbL u.c u.is (u.index + 1) (.slice a ys.length c) (.slice a58 (((([] : List CallV) ++ u.done) ++ [x]).length) c58) u.modes), rB b3 38 (xL x), rB b2 61 (rbL u.c u.is (u.index + 1) (.slice a ys.length c) (.slice a58 (((([] : List CallV) ++ u.done) ++ [x]).length) c58) u.modes), rS da dc 8 (u.done.map callRow), rS la lc 8 (u.live.map callRow)]) → QR .normal ac1 wz) : (regAt Try.f58 25).wp Try.prog QR ac0 wb := by
  refine wp_region_st mixedP ⟨[0, 0, 1, 0, 2, 1, 3, 4], by kernel_rfl⟩ [[], [], [1], [], [1, 2, 3], [0], [0, 1, 2, 3, 4, 5], [0, 1, 2, 3, 4, 5, 6]] (by kernel_rfl) (by kernel_rfl) 94 hz (by kernel_rfl) (fun (xx : Unit) jx => nth [.agg (rbA u.c u.is (u.index + 1) (.slice a ys.length c) (.slice a58 (((([] : List CallV) ++ u.done) ++ [x]).length) c58) u.modes), .pointer (some ⟨b2, 19, none⟩), .int .i64 (u.index + 1), .agg (xA x), .agg #[.int .i64 (u.index + 1), .int .i64 x.id, .int .i64 x.kind, .int .i64 x.src, .int .i64 x.dst, .int .i64 x.car, .int .i64 x.state, .int .i64 x.owner, .int .i64 x.born, .int .i64 0, .int .i64 0], undef, undef, .int .i64 0] jx) (fun (LL : Nat → Bool) (xx : Unit) ww => Hp [] wa ww (bif LL 5 then (bif LL 6 then [rB b57 38 (xL x), rA a58 c58 38 8 (((([] : List CallV) ++ u.done) ++ [x]).map callRow), rA a c 38 8 (ys.map callRow), rB b5 40 [.int .i64 (u.index + 1), .int .i64 x.id, .int .i64 x.kind, .int .i64 x.src, .int .i64 x.dst, .int .i64 x.car, .int .i64 x.state, .int .i64 x.owner, .int .i64 x.born, .int .i64 0, .int .i64 0], rB b4 61 (rbL u.c u.is (u.index + 1) (.slice a ys.length c) (.slice a58 (((([] : List CallV) ++ u.done) ++ [x]).length) c58) u.modes), rB b3 38 (xL x), rB b2 61 (rbL u.c u.is (u.index + 1) (.slice a ys.length c) (.slice a58 (((([] : List CallV) ++ u.done) ++ [x]).length) c58) u.modes), rS da dc 8 (u.done.map callRow), rS la lc 8 (u.live.map callRow)] else [rB b57 38 (xL x), rA a58 c58 38 8 (((([] : List CallV) ++ u.done) ++ [x]).map callRow), rA a c 38 8 (ys.map callRow), rB b5 40 (chL zeroCh), rB b4 61 (rbL u.c u.is (u.index + 1) (.slice a ys.length c) (.slice a58 (((([] : List CallV) ++ u.done) ++ [x]).length) c58) u.modes), rB b3 38 (xL x), rB b2 61 (rbL u.c u.is (u.index + 1) (.slice a ys.length c) (.slice a58 (((([] : List CallV) ++ u.done) ++ [x]).length) c58) u.modes), rS da dc 8 (u.done.map callRow), rS la lc 8 (u.live.map callRow)]) else [rB b57 38 (xL x), rA a58 c58 38 8 (((([] : List CallV) ++ u.done) ++ [x]).map callRow), rA a c 38 8 (ys.map callRow), rB b5 40 (chL zeroCh), rB b4 61 (rbL zeroF false 0 (.slice none 0 0) (.slice none 0 0) ([0, 0, 0, 0])), rB b3 38 (xL x), rB b2 61 (rbL u.c u.is (u.index + 1) (.slice a ys.length c) (.slice a58 (((([] : List CallV) ++ u.done) ++ [x]).length) c58) u.modes), rS da dc 8 (u.done.map callRow), rS la lc 8 (u.live.map callRow)])) () H.out.drew ?_ (steps_al ?_) ?_ ?_
  · intro L1 L2 xx ww hL sg
    have lh5 := hL 5 (by decide)
    have lh6 := hL 6 (by decide)
    simp only [lh5, lh6] at sg
    exact sg
  · refine al_cons ?_ (al_cons ?_ (al_cons ?_ (al_cons ?_ (al_cons ?_ (al_cons ?_ (al_cons ?_ (al_cons ?_ (al_nil))))))))
    · intro LL xx ac wc sg hst hwant QQ hgo
      have H := Lib.hid hst
      simp only [sg.des 5 rfl, sg.des 6 rfl, cond_true, cond_false] at H
      refine hpA_load tyhoistwayref09_Book H rfl ((sg.free 2 (by kernel_rfl)).trans so2) hwant (by (repeat (first | exact List.Mem.head _ | apply List.Mem.tail))) (by rfl) rfl ?_
      exact hgo _ () _ (fun _ _ => rfl) rfl hst
    · intro LL xx ac wc sg hst hwant QQ hgo
      have se2 : ac.eval (.tmp 2) = _ := ((sg.free 2 (by kernel_rfl)).trans so2)
      have sg2 := gt_of se2
      exact op_val hwant hgo hst _ (by simp only [execOp, nth]; go_simp <;> omega) rfl
    · intro LL xx ac wc sg hst hwant QQ hgo
      rcases Bool.eq_false_or_eq_true (LL 5) with lh5 | lh5
      · skip
        have H := Lib.hid hst
        simp only [lh5, sg.des 6 rfl, cond_true, cond_false] at H
        refine hpA_load1 tyint H rfl (sg.slot 1 (sg.anc 1 rfl)) hwant (by (repeat (first | exact List.Mem.head _ | apply List.Mem.tail))) (by rfl) ?_
        exact hgo _ () _ (fun _ _ => rfl) rfl hst
      · skip
        have H := Lib.hid hst
        simp only [lh5, sg.des 6 rfl, cond_true, cond_false] at H
        refine hpA_load1 tyint H rfl (sg.slot 1 (sg.anc 1 rfl)) hwant (by (repeat (first | exact List.Mem.head _ | apply List.Mem.tail))) (by rfl) ?_
        exact hgo _ () _ (fun _ _ => rfl) rfl hst
    · intro LL xx ac wc sg hst hwant QQ hgo
      rcases Bool.eq_false_or_eq_true (LL 5) with lh5 | lh5
      · skip
        have H := Lib.hid hst
        simp only [lh5, sg.des 6 rfl, cond_true, cond_false] at H
        refine hpA_load tyapi_Call H rfl ((sg.free 3 (by kernel_rfl)).trans so3) hwant (by (repeat (first | exact List.Mem.head _ | apply List.Mem.tail))) (by rfl) rfl ?_
        exact hgo _ () _ (fun _ _ => rfl) rfl hst
      · skip
        have H := Lib.hid hst
        simp only [lh5, sg.des 6 rfl, cond_true, cond_false] at H
        refine hpA_load tyapi_Call H rfl ((sg.free 3 (by kernel_rfl)).trans so3) hwant (by (repeat (first | exact List.Mem.head _ | apply List.Mem.tail))) (by rfl) rfl ?_
        exact hgo _ () _ (fun _ _ => rfl) rfl hst
    · intro LL xx ac wc sg hst hwant QQ hgo
      have se91 : ac.eval (.tmp 91) = _ := (sg.slot 2 (sg.anc 2 rfl))
      have sg91 := gt_of se91
      have se92 : ac.eval (.tmp 92) = _ := (sg.slot 3 (sg.anc 3 rfl))
      have sg92 := gt_of se92
      (try simp only [nth] at se91 sg91 se92 sg92)
      (try simp only [xA, xL, cA, cL, chA, chL, bkA, bkL, rbA, rbL] at se91 sg91 se92 sg92)
      exact op_val hwant hgo hst _ (by simp only [execOp, nth, xA, xL, cA, cL, chA, chL, bkA, bkL, rbA, rbL]; go_simp <;> omega) rfl
    · intro LL xx ac wc sg hst hwant QQ hgo
      have H := Lib.hid hst
      simp only [sg.self, sg.des 6 rfl, cond_true, cond_false] at H
      refine hpA_store tyhoistwayref09_Book H rfl rfl ((sg.free 4 (by kernel_rfl)).trans so4) (sg.slot 0 (sg.anc 0 rfl)) rfl (by repeat (first | apply Put.head | apply Put.tail)) (by simp [xA, xL, cA, cL, chA, chL, bkA, bkL, rbA, rbL]) (by simp [xA, xL, cA, cL, chA, chL, bkA, bkL, rbA, rbL, Value.oneCell']) (by first | rfl | (simp only [spl]; rfl)) rfl ?_
      intro wd H2
      exact hgo _ () _ (fun _ _ => rfl) rfl (by simp only [(show upd LL 5 5 = true from rfl), (show upd LL 5 6 = LL 6 from rfl), sg.des 6 rfl, cond_true, cond_false]; exact H2.out)
    · intro LL xx ac wc sg hst hwant QQ hgo
      have H := Lib.hid hst
      simp only [sg.anc 5 rfl, sg.self, cond_true, cond_false] at H
      refine hpA_store tyapi_Change H rfl rfl ((sg.free 5 (by kernel_rfl)).trans so5) (sg.slot 4 (sg.anc 4 rfl)) rfl (by repeat (first | apply Put.head | apply Put.tail)) (by simp [xA, xL, cA, cL, chA, chL, bkA, bkL, rbA, rbL]) (by simp [xA, xL, cA, cL, chA, chL, bkA, bkL, rbA, rbL, Value.oneCell']) (by first | rfl | (simp only [spl]; rfl)) rfl ?_
      intro wd H2
      exact hgo _ () _ (fun _ _ => rfl) rfl (by simp only [(show upd LL 6 5 = LL 5 from rfl), sg.anc 5 rfl, (show upd LL 6 6 = true from rfl), cond_true, cond_false]; exact H2.out)
    · intro LL xx ac wc sg hst hwant QQ hgo
      exact op_val hwant hgo hst _ (exec_assign rfl rfl) rfl
  · exact skips [] (by kernel_rfl) (fun _ h => by cases h)
  · intro xx ac1 wz hfr hsl hst
    exact hfin ac1 wz (hfr.size.trans hz) hfr.defers (fr_keep hfr [6, 89, 90, 91, 92, 93] (by kernel_rfl)) (hsl 7 (by decide)) (Lib.hid hst)
set_option maxHeartbeats 4000000 in
set_option maxRecDepth 20000 in
theorem nextRC_r25x2 (u : RBook) (la : Option Addr) (lc : Nat) (da : Option Addr) (dc : Nat) (x : CallV) (hul : u.live.length ≤ 1000) (hud : u.done.length ≤ 1000) (hui : 0 ≤ u.index ∧ u.index ≤ 1073741824) (huc : u.c.cars ≤ 4) (b2 : Nat) (b3 : Nat) (b4 : Nat) (b5 : Nat) (z1d : ¬ (1073741824 ≤ u.index)) (i : Nat) (c : Nat) (ys : List CallV) (was : Bool) (hi : i ≤ u.live.length) (hyl : ys.length ≤ i) (z2d : ¬ (i < u.live.length)) (hyk : ys = keepL u.live x) (hwk : was = wasL u.live x) (a51 : Option Addr) (c51 : Nat) (z5d : ¬ (3 < x.state)) (z8d : ¬ (u.c.calls ≤ (ys.length : Int))) (b79 : Nat) (a80 : Option Addr) (c80 : Nat) {wa wb : World} (H : Hid (Hp [] wa wb [rB b79 38 (xL x), rA a51 c51 38 8 ((([] : List CallV) ++ u.done).map callRow), rA a80 c80 38 8 ((ys ++ [x]).map callRow), rB b5 40 (chL zeroCh), rB b4 61 (rbL zeroF false 0 (.slice none 0 0) (.slice none 0 0) ([0, 0, 0, 0])), rB b3 38 (xL x), rB b2 61 (rbL u.c u.is (u.index + 1) (.slice a80 ((ys ++ [x]).length) c80) (.slice a51 ((([] : List CallV) ++ u.done).length) c51) u.modes), rS da dc 8 (u.done.map callRow), rS la lc 8 (u.live.map callRow)])) (ac0 : Act) (hz : ac0.tmps.size = 94) (so2 : ac0.eval (.tmp 2) = .pointer (some ⟨b2, 0, none⟩)) (so3 : ac0.eval (.tmp 3) = .pointer (some ⟨b3, 0, none⟩)) (so4 : ac0.eval (.tmp 4) = .pointer (some ⟨b4, 0, none⟩)) (so5 : ac0.eval (.tmp 5) = .pointer (some ⟨b5, 0, none⟩)) {QR : Exit → Act → World → Prop} (hfin : ∀ (ac1 : Act) (wz : World), ac1.tmps.size = 94 → ac1.defers = ac0.defers → (∀ t, ([6, 89, 90, 91, 92, 93] : List Nat).contains t = false → ac1.eval (.tmp t) = ac0.eval (.tmp t)) → ac1.eval (.tmp 6) = .int .i64 0 →  Hid (Hp [] wa wz [rB b79 38 (xL x), rA a51 c51 38 8 ((([] : List CallV) ++ u.done).map callRow), rA a80 c80 38 8 ((ys ++ [x]).map callRow), rB b5 40 [.int .i64 (u.index + 1), .int .i64 x.id, .int .i64 x.kind, .int .i64 x.src, .int .i64 x.dst, .int .i64 x.car, .int .i64 x.state, .int .i64 x.owner, .int .i64 x.born, .int .i64 0, .int .i64 0], rB b4 61 (rbL u.c u.is (u.index + 1) (.slice a80 ((ys ++ [x]).length) c80) (.slice a51 ((([] : List CallV) ++ u.done).length) c51) u.modes), rB b3 38 (xL x), rB b2 61 (rbL u.c u.is (u.index + 1) (.slice a80 ((ys ++ [x]).length) c80) (.slice a51 ((([] : List CallV) ++ u.done).length) c51) u.modes), rS da dc 8 (u.done.map callRow), rS la lc 8 (u.live.map callRow)]) → QR .normal ac1 wz) : (regAt Try.f58 25).wp Try.prog QR ac0 wb := by
  refine wp_region_st mixedP ⟨[0, 0, 1, 0, 2, 1, 3, 4], by kernel_rfl⟩ [[], [], [1], [], [1, 2, 3], [0], [0, 1, 2, 3, 4, 5], [0, 1, 2, 3, 4, 5, 6]] (by kernel_rfl) (by kernel_rfl) 94 hz (by kernel_rfl) (fun (xx : Unit) jx => nth [.agg (rbA u.c u.is (u.index + 1) (.slice a80 ((ys ++ [x]).length) c80) (.slice a51 ((([] : List CallV) ++ u.done).length) c51) u.modes), .pointer (some ⟨b2, 19, none⟩), .int .i64 (u.index + 1), .agg (xA x), .agg #[.int .i64 (u.index + 1), .int .i64 x.id, .int .i64 x.kind, .int .i64 x.src, .int .i64 x.dst, .int .i64 x.car, .int .i64 x.state, .int .i64 x.owner, .int .i64 x.born, .int .i64 0, .int .i64 0], undef, undef, .int .i64 0] jx) (fun (LL : Nat → Bool) (xx : Unit) ww => Hp [] wa ww (bif LL 5 then (bif LL 6 then [rB b79 38 (xL x), rA a51 c51 38 8 ((([] : List CallV) ++ u.done).map callRow), rA a80 c80 38 8 ((ys ++ [x]).map callRow), rB b5 40 [.int .i64 (u.index + 1), .int .i64 x.id, .int .i64 x.kind, .int .i64 x.src, .int .i64 x.dst, .int .i64 x.car, .int .i64 x.state, .int .i64 x.owner, .int .i64 x.born, .int .i64 0, .int .i64 0], rB b4 61 (rbL u.c u.is (u.index + 1) (.slice a80 ((ys ++ [x]).length) c80) (.slice a51 ((([] : List CallV) ++ u.done).length) c51) u.modes), rB b3 38 (xL x), rB b2 61 (rbL u.c u.is (u.index + 1) (.slice a80 ((ys ++ [x]).length) c80) (.slice a51 ((([] : List CallV) ++ u.done).length) c51) u.modes), rS da dc 8 (u.done.map callRow), rS la lc 8 (u.live.map callRow)] else [rB b79 38 (xL x), rA a51 c51 38 8 ((([] : List CallV) ++ u.done).map callRow), rA a80 c80 38 8 ((ys ++ [x]).map callRow), rB b5 40 (chL zeroCh), rB b4 61 (rbL u.c u.is (u.index + 1) (.slice a80 ((ys ++ [x]).length) c80) (.slice a51 ((([] : List CallV) ++ u.done).length) c51) u.modes), rB b3 38 (xL x), rB b2 61 (rbL u.c u.is (u.index + 1) (.slice a80 ((ys ++ [x]).length) c80) (.slice a51 ((([] : List CallV) ++ u.done).length) c51) u.modes), rS da dc 8 (u.done.map callRow), rS la lc 8 (u.live.map callRow)]) else [rB b79 38 (xL x), rA a51 c51 38 8 ((([] : List CallV) ++ u.done).map callRow), rA a80 c80 38 8 ((ys ++ [x]).map callRow), rB b5 40 (chL zeroCh), rB b4 61 (rbL zeroF false 0 (.slice none 0 0) (.slice none 0 0) ([0, 0, 0, 0])), rB b3 38 (xL x), rB b2 61 (rbL u.c u.is (u.index + 1) (.slice a80 ((ys ++ [x]).length) c80) (.slice a51 ((([] : List CallV) ++ u.done).length) c51) u.modes), rS da dc 8 (u.done.map callRow), rS la lc 8 (u.live.map callRow)])) () H.out.drew ?_ (steps_al ?_) ?_ ?_
  · intro L1 L2 xx ww hL sg
    have lh5 := hL 5 (by decide)
    have lh6 := hL 6 (by decide)
    simp only [lh5, lh6] at sg
    exact sg
  · refine al_cons ?_ (al_cons ?_ (al_cons ?_ (al_cons ?_ (al_cons ?_ (al_cons ?_ (al_cons ?_ (al_cons ?_ (al_nil))))))))
    · intro LL xx ac wc sg hst hwant QQ hgo
      have H := Lib.hid hst
      simp only [sg.des 5 rfl, sg.des 6 rfl, cond_true, cond_false] at H
      refine hpA_load tyhoistwayref09_Book H rfl ((sg.free 2 (by kernel_rfl)).trans so2) hwant (by (repeat (first | exact List.Mem.head _ | apply List.Mem.tail))) (by rfl) rfl ?_
      exact hgo _ () _ (fun _ _ => rfl) rfl hst
    · intro LL xx ac wc sg hst hwant QQ hgo
      have se2 : ac.eval (.tmp 2) = _ := ((sg.free 2 (by kernel_rfl)).trans so2)
      have sg2 := gt_of se2
      exact op_val hwant hgo hst _ (by simp only [execOp, nth]; go_simp <;> omega) rfl
    · intro LL xx ac wc sg hst hwant QQ hgo
      rcases Bool.eq_false_or_eq_true (LL 5) with lh5 | lh5
      · skip
        have H := Lib.hid hst
        simp only [lh5, sg.des 6 rfl, cond_true, cond_false] at H
        refine hpA_load1 tyint H rfl (sg.slot 1 (sg.anc 1 rfl)) hwant (by (repeat (first | exact List.Mem.head _ | apply List.Mem.tail))) (by rfl) ?_
        exact hgo _ () _ (fun _ _ => rfl) rfl hst
      · skip
        have H := Lib.hid hst
        simp only [lh5, sg.des 6 rfl, cond_true, cond_false] at H
        refine hpA_load1 tyint H rfl (sg.slot 1 (sg.anc 1 rfl)) hwant (by (repeat (first | exact List.Mem.head _ | apply List.Mem.tail))) (by rfl) ?_
        exact hgo _ () _ (fun _ _ => rfl) rfl hst
    · intro LL xx ac wc sg hst hwant QQ hgo
      rcases Bool.eq_false_or_eq_true (LL 5) with lh5 | lh5
      · skip
        have H := Lib.hid hst
        simp only [lh5, sg.des 6 rfl, cond_true, cond_false] at H
        refine hpA_load tyapi_Call H rfl ((sg.free 3 (by kernel_rfl)).trans so3) hwant (by (repeat (first | exact List.Mem.head _ | apply List.Mem.tail))) (by rfl) rfl ?_
        exact hgo _ () _ (fun _ _ => rfl) rfl hst
      · skip
        have H := Lib.hid hst
        simp only [lh5, sg.des 6 rfl, cond_true, cond_false] at H
        refine hpA_load tyapi_Call H rfl ((sg.free 3 (by kernel_rfl)).trans so3) hwant (by (repeat (first | exact List.Mem.head _ | apply List.Mem.tail))) (by rfl) rfl ?_
        exact hgo _ () _ (fun _ _ => rfl) rfl hst
    · intro LL xx ac wc sg hst hwant QQ hgo
      have se91 : ac.eval (.tmp 91) = _ := (sg.slot 2 (sg.anc 2 rfl))
      have sg91 := gt_of se91
      have se92 : ac.eval (.tmp 92) = _ := (sg.slot 3 (sg.anc 3 rfl))
      have sg92 := gt_of se92
      (try simp only [nth] at se91 sg91 se92 sg92)
      (try simp only [xA, xL, cA, cL, chA, chL, bkA, bkL, rbA, rbL] at se91 sg91 se92 sg92)
      exact op_val hwant hgo hst _ (by simp only [execOp, nth, xA, xL, cA, cL, chA, chL, bkA, bkL, rbA, rbL]; go_simp <;> omega) rfl
    · intro LL xx ac wc sg hst hwant QQ hgo
      have H := Lib.hid hst
      simp only [sg.self, sg.des 6 rfl, cond_true, cond_false] at H
      refine hpA_store tyhoistwayref09_Book H rfl rfl ((sg.free 4 (by kernel_rfl)).trans so4) (sg.slot 0 (sg.anc 0 rfl)) rfl (by repeat (first | apply Put.head | apply Put.tail)) (by simp [xA, xL, cA, cL, chA, chL, bkA, bkL, rbA, rbL]) (by simp [xA, xL, cA, cL, chA, chL, bkA, bkL, rbA, rbL, Value.oneCell']) (by first | rfl | (simp only [spl]; rfl)) rfl ?_
      intro wd H2
      exact hgo _ () _ (fun _ _ => rfl) rfl (by simp only [(show upd LL 5 5 = true from rfl), (show upd LL 5 6 = LL 6 from rfl), sg.des 6 rfl, cond_true, cond_false]; exact H2.out)
    · intro LL xx ac wc sg hst hwant QQ hgo
      have H := Lib.hid hst
      simp only [sg.anc 5 rfl, sg.self, cond_true, cond_false] at H
      refine hpA_store tyapi_Change H rfl rfl ((sg.free 5 (by kernel_rfl)).trans so5) (sg.slot 4 (sg.anc 4 rfl)) rfl (by repeat (first | apply Put.head | apply Put.tail)) (by simp [xA, xL, cA, cL, chA, chL, bkA, bkL, rbA, rbL]) (by simp [xA, xL, cA, cL, chA, chL, bkA, bkL, rbA, rbL, Value.oneCell']) (by first | rfl | (simp only [spl]; rfl)) rfl ?_
      intro wd H2
      exact hgo _ () _ (fun _ _ => rfl) rfl (by simp only [(show upd LL 6 5 = LL 5 from rfl), sg.anc 5 rfl, (show upd LL 6 6 = true from rfl), cond_true, cond_false]; exact H2.out)
    · intro LL xx ac wc sg hst hwant QQ hgo
      exact op_val hwant hgo hst _ (exec_assign rfl rfl) rfl
  · exact skips [] (by kernel_rfl) (fun _ h => by cases h)
  · intro xx ac1 wz hfr hsl hst
    exact hfin ac1 wz (hfr.size.trans hz) hfr.defers (fr_keep hfr [6, 89, 90, 91, 92, 93] (by kernel_rfl)) (hsl 7 (by decide)) (Lib.hid hst)
set_option maxHeartbeats 4000000 in
set_option maxRecDepth 20000 in
theorem nextRC_r25x3 (u : RBook) (la : Option Addr) (lc : Nat) (da : Option Addr) (dc : Nat) (x : CallV) (hul : u.live.length ≤ 1000) (hud : u.done.length ≤ 1000) (hui : 0 ≤ u.index ∧ u.index ≤ 1073741824) (huc : u.c.cars ≤ 4) (b2 : Nat) (b3 : Nat) (b4 : Nat) (b5 : Nat) (z1d : ¬ (1073741824 ≤ u.index)) (i : Nat) (a : Option Addr) (c : Nat) (ys : List CallV) (was : Bool) (hi : i ≤ u.live.length) (hyl : ys.length ≤ i) (z2d : ¬ (i < u.live.length)) (hyk : ys = keepL u.live x) (hwk : was = wasL u.live x) (a51 : Option Addr) (c51 : Nat) (z5d : ¬ (3 < x.state)) {wa wb : World} (H : Hid (Hp [] wa wb [rA a51 c51 38 8 ((([] : List CallV) ++ u.done).map callRow), rA a c 38 8 (ys.map callRow), rB b5 40 (chL zeroCh), rB b4 61 (rbL zeroF false 0 (.slice none 0 0) (.slice none 0 0) ([0, 0, 0, 0])), rB b3 38 (xL x), rB b2 61 (rbL u.c u.is (u.index + 1) (.slice a ys.length c) (.slice a51 ((([] : List CallV) ++ u.done).length) c51) u.modes), rS da dc 8 (u.done.map callRow), rS la lc 8 (u.live.map callRow)])) (ac0 : Act) (hz : ac0.tmps.size = 94) (so2 : ac0.eval (.tmp 2) = .pointer (some ⟨b2, 0, none⟩)) (so3 : ac0.eval (.tmp 3) = .pointer (some ⟨b3, 0, none⟩)) (so4 : ac0.eval (.tmp 4) = .pointer (some ⟨b4, 0, none⟩)) (so5 : ac0.eval (.tmp 5) = .pointer (some ⟨b5, 0, none⟩)) {QR : Exit → Act → World → Prop} (hfin : ∀ (ac1 : Act) (wz : World), ac1.tmps.size = 94 → ac1.defers = ac0.defers → (∀ t, ([6, 89, 90, 91, 92, 93] : List Nat).contains t = false → ac1.eval (.tmp t) = ac0.eval (.tmp t)) → ac1.eval (.tmp 6) = .int .i64 0 →  Hid (Hp [] wa wz [rA a51 c51 38 8 ((([] : List CallV) ++ u.done).map callRow), rA a c 38 8 (ys.map callRow), rB b5 40 [.int .i64 (u.index + 1), .int .i64 x.id, .int .i64 x.kind, .int .i64 x.src, .int .i64 x.dst, .int .i64 x.car, .int .i64 x.state, .int .i64 x.owner, .int .i64 x.born, .int .i64 0, .int .i64 0], rB b4 61 (rbL u.c u.is (u.index + 1) (.slice a ys.length c) (.slice a51 ((([] : List CallV) ++ u.done).length) c51) u.modes), rB b3 38 (xL x), rB b2 61 (rbL u.c u.is (u.index + 1) (.slice a ys.length c) (.slice a51 ((([] : List CallV) ++ u.done).length) c51) u.modes), rS da dc 8 (u.done.map callRow), rS la lc 8 (u.live.map callRow)]) → QR .normal ac1 wz) : (regAt Try.f58 25).wp Try.prog QR ac0 wb := by
  refine wp_region_st mixedP ⟨[0, 0, 1, 0, 2, 1, 3, 4], by kernel_rfl⟩ [[], [], [1], [], [1, 2, 3], [0], [0, 1, 2, 3, 4, 5], [0, 1, 2, 3, 4, 5, 6]] (by kernel_rfl) (by kernel_rfl) 94 hz (by kernel_rfl) (fun (xx : Unit) jx => nth [.agg (rbA u.c u.is (u.index + 1) (.slice a ys.length c) (.slice a51 ((([] : List CallV) ++ u.done).length) c51) u.modes), .pointer (some ⟨b2, 19, none⟩), .int .i64 (u.index + 1), .agg (xA x), .agg #[.int .i64 (u.index + 1), .int .i64 x.id, .int .i64 x.kind, .int .i64 x.src, .int .i64 x.dst, .int .i64 x.car, .int .i64 x.state, .int .i64 x.owner, .int .i64 x.born, .int .i64 0, .int .i64 0], undef, undef, .int .i64 0] jx) (fun (LL : Nat → Bool) (xx : Unit) ww => Hp [] wa ww (bif LL 5 then (bif LL 6 then [rA a51 c51 38 8 ((([] : List CallV) ++ u.done).map callRow), rA a c 38 8 (ys.map callRow), rB b5 40 [.int .i64 (u.index + 1), .int .i64 x.id, .int .i64 x.kind, .int .i64 x.src, .int .i64 x.dst, .int .i64 x.car, .int .i64 x.state, .int .i64 x.owner, .int .i64 x.born, .int .i64 0, .int .i64 0], rB b4 61 (rbL u.c u.is (u.index + 1) (.slice a ys.length c) (.slice a51 ((([] : List CallV) ++ u.done).length) c51) u.modes), rB b3 38 (xL x), rB b2 61 (rbL u.c u.is (u.index + 1) (.slice a ys.length c) (.slice a51 ((([] : List CallV) ++ u.done).length) c51) u.modes), rS da dc 8 (u.done.map callRow), rS la lc 8 (u.live.map callRow)] else [rA a51 c51 38 8 ((([] : List CallV) ++ u.done).map callRow), rA a c 38 8 (ys.map callRow), rB b5 40 (chL zeroCh), rB b4 61 (rbL u.c u.is (u.index + 1) (.slice a ys.length c) (.slice a51 ((([] : List CallV) ++ u.done).length) c51) u.modes), rB b3 38 (xL x), rB b2 61 (rbL u.c u.is (u.index + 1) (.slice a ys.length c) (.slice a51 ((([] : List CallV) ++ u.done).length) c51) u.modes), rS da dc 8 (u.done.map callRow), rS la lc 8 (u.live.map callRow)]) else [rA a51 c51 38 8 ((([] : List CallV) ++ u.done).map callRow), rA a c 38 8 (ys.map callRow), rB b5 40 (chL zeroCh), rB b4 61 (rbL zeroF false 0 (.slice none 0 0) (.slice none 0 0) ([0, 0, 0, 0])), rB b3 38 (xL x), rB b2 61 (rbL u.c u.is (u.index + 1) (.slice a ys.length c) (.slice a51 ((([] : List CallV) ++ u.done).length) c51) u.modes), rS da dc 8 (u.done.map callRow), rS la lc 8 (u.live.map callRow)])) () H.out.drew ?_ (steps_al ?_) ?_ ?_
  · intro L1 L2 xx ww hL sg
    have lh5 := hL 5 (by decide)
    have lh6 := hL 6 (by decide)
    simp only [lh5, lh6] at sg
    exact sg
  · refine al_cons ?_ (al_cons ?_ (al_cons ?_ (al_cons ?_ (al_cons ?_ (al_cons ?_ (al_cons ?_ (al_cons ?_ (al_nil))))))))
    · intro LL xx ac wc sg hst hwant QQ hgo
      have H := Lib.hid hst
      simp only [sg.des 5 rfl, sg.des 6 rfl, cond_true, cond_false] at H
      refine hpA_load tyhoistwayref09_Book H rfl ((sg.free 2 (by kernel_rfl)).trans so2) hwant (by (repeat (first | exact List.Mem.head _ | apply List.Mem.tail))) (by rfl) rfl ?_
      exact hgo _ () _ (fun _ _ => rfl) rfl hst
    · intro LL xx ac wc sg hst hwant QQ hgo
      have se2 : ac.eval (.tmp 2) = _ := ((sg.free 2 (by kernel_rfl)).trans so2)
      have sg2 := gt_of se2
      exact op_val hwant hgo hst _ (by simp only [execOp, nth]; go_simp <;> omega) rfl
    · intro LL xx ac wc sg hst hwant QQ hgo
      rcases Bool.eq_false_or_eq_true (LL 5) with lh5 | lh5
      · skip
        have H := Lib.hid hst
        simp only [lh5, sg.des 6 rfl, cond_true, cond_false] at H
        refine hpA_load1 tyint H rfl (sg.slot 1 (sg.anc 1 rfl)) hwant (by (repeat (first | exact List.Mem.head _ | apply List.Mem.tail))) (by rfl) ?_
        exact hgo _ () _ (fun _ _ => rfl) rfl hst
      · skip
        have H := Lib.hid hst
        simp only [lh5, sg.des 6 rfl, cond_true, cond_false] at H
        refine hpA_load1 tyint H rfl (sg.slot 1 (sg.anc 1 rfl)) hwant (by (repeat (first | exact List.Mem.head _ | apply List.Mem.tail))) (by rfl) ?_
        exact hgo _ () _ (fun _ _ => rfl) rfl hst
    · intro LL xx ac wc sg hst hwant QQ hgo
      rcases Bool.eq_false_or_eq_true (LL 5) with lh5 | lh5
      · skip
        have H := Lib.hid hst
        simp only [lh5, sg.des 6 rfl, cond_true, cond_false] at H
        refine hpA_load tyapi_Call H rfl ((sg.free 3 (by kernel_rfl)).trans so3) hwant (by (repeat (first | exact List.Mem.head _ | apply List.Mem.tail))) (by rfl) rfl ?_
        exact hgo _ () _ (fun _ _ => rfl) rfl hst
      · skip
        have H := Lib.hid hst
        simp only [lh5, sg.des 6 rfl, cond_true, cond_false] at H
        refine hpA_load tyapi_Call H rfl ((sg.free 3 (by kernel_rfl)).trans so3) hwant (by (repeat (first | exact List.Mem.head _ | apply List.Mem.tail))) (by rfl) rfl ?_
        exact hgo _ () _ (fun _ _ => rfl) rfl hst
    · intro LL xx ac wc sg hst hwant QQ hgo
      have se91 : ac.eval (.tmp 91) = _ := (sg.slot 2 (sg.anc 2 rfl))
      have sg91 := gt_of se91
      have se92 : ac.eval (.tmp 92) = _ := (sg.slot 3 (sg.anc 3 rfl))
      have sg92 := gt_of se92
      (try simp only [nth] at se91 sg91 se92 sg92)
      (try simp only [xA, xL, cA, cL, chA, chL, bkA, bkL, rbA, rbL] at se91 sg91 se92 sg92)
      exact op_val hwant hgo hst _ (by simp only [execOp, nth, xA, xL, cA, cL, chA, chL, bkA, bkL, rbA, rbL]; go_simp <;> omega) rfl
    · intro LL xx ac wc sg hst hwant QQ hgo
      have H := Lib.hid hst
      simp only [sg.self, sg.des 6 rfl, cond_true, cond_false] at H
      refine hpA_store tyhoistwayref09_Book H rfl rfl ((sg.free 4 (by kernel_rfl)).trans so4) (sg.slot 0 (sg.anc 0 rfl)) rfl (by repeat (first | apply Put.head | apply Put.tail)) (by simp [xA, xL, cA, cL, chA, chL, bkA, bkL, rbA, rbL]) (by simp [xA, xL, cA, cL, chA, chL, bkA, bkL, rbA, rbL, Value.oneCell']) (by first | rfl | (simp only [spl]; rfl)) rfl ?_
      intro wd H2
      exact hgo _ () _ (fun _ _ => rfl) rfl (by simp only [(show upd LL 5 5 = true from rfl), (show upd LL 5 6 = LL 6 from rfl), sg.des 6 rfl, cond_true, cond_false]; exact H2.out)
    · intro LL xx ac wc sg hst hwant QQ hgo
      have H := Lib.hid hst
      simp only [sg.anc 5 rfl, sg.self, cond_true, cond_false] at H
      refine hpA_store tyapi_Change H rfl rfl ((sg.free 5 (by kernel_rfl)).trans so5) (sg.slot 4 (sg.anc 4 rfl)) rfl (by repeat (first | apply Put.head | apply Put.tail)) (by simp [xA, xL, cA, cL, chA, chL, bkA, bkL, rbA, rbL]) (by simp [xA, xL, cA, cL, chA, chL, bkA, bkL, rbA, rbL, Value.oneCell']) (by first | rfl | (simp only [spl]; rfl)) rfl ?_
      intro wd H2
      exact hgo _ () _ (fun _ _ => rfl) rfl (by simp only [(show upd LL 6 5 = LL 5 from rfl), sg.anc 5 rfl, (show upd LL 6 6 = true from rfl), cond_true, cond_false]; exact H2.out)
    · intro LL xx ac wc sg hst hwant QQ hgo
      exact op_val hwant hgo hst _ (exec_assign rfl rfl) rfl
  · exact skips [] (by kernel_rfl) (fun _ h => by cases h)
  · intro xx ac1 wz hfr hsl hst
    exact hfin ac1 wz (hfr.size.trans hz) hfr.defers (fr_keep hfr [6, 89, 90, 91, 92, 93] (by kernel_rfl)) (hsl 7 (by decide)) (Lib.hid hst)
set_option maxHeartbeats 16000000 in
set_option maxRecDepth 20000 in
theorem nextRC (u : RBook) (la : Option Addr) (lc : Nat) (da : Option Addr) (dc : Nat) (x : CallV) (w : World) (h1 : (rS la lc 8 (u.live.map callRow)).holds w) (h2 : (rS da dc 8 (u.done.map callRow)).holds w) (hu : Hid (OkR u)) : Calls Try.prog 58 #[.agg (rbA u.c u.is u.index (.slice la u.live.length lc) (.slice da u.done.length dc) u.modes), .agg (xA x)] w fun e w' => ∃ la' lc' da' dc', e = .returned (.tuple #[.agg #[.int .i64 ((((nextR u x).1).c).floors), .int .i64 ((((nextR u x).1).c).cars), .int .i64 ((((nextR u x).1).c).seats), .int .i64 ((((nextR u x).1).c).calls), .int .i64 ((((nextR u x).1).c).lines), .int .i64 ((((nextR u x).1).c).keys), .int .i64 ((((nextR u x).1).c).window), .int .i64 ((((nextR u x).1).c).burst), .int .i64 ((((nextR u x).1).c).rate), .int .i64 ((((nextR u x).1).c).idle), .int .i64 ((((nextR u x).1).c).inn), .int .i64 ((((nextR u x).1).c).out), .int .i64 ((((nextR u x).1).c).feed), .int .i64 ((((nextR u x).1).c).retries), .int .i64 ((((nextR u x).1).c).life), .int .i64 ((((nextR u x).1).c).door), .int .i64 ((((nextR u x).1).c).holds), .int .u32 ((((nextR u x).1).c).secret), .bool (((nextR u x).1).is), .int .i64 (((nextR u x).1).index), .slice la' (((nextR u x).1).live.length) lc', .slice da' (((nextR u x).1).done.length) dc', .int .i64 (((nextR u x).1).modes.getD 0 0), .int .i64 (((nextR u x).1).modes.getD 1 0), .int .i64 (((nextR u x).1).modes.getD 2 0), .int .i64 (((nextR u x).1).modes.getD 3 0)], .agg #[.int .i64 (((nextR u x).2.1).index), .int .i64 ((((nextR u x).2.1).call).id), .int .i64 ((((nextR u x).2.1).call).kind), .int .i64 ((((nextR u x).2.1).call).src), .int .i64 ((((nextR u x).2.1).call).dst), .int .i64 ((((nextR u x).2.1).call).car), .int .i64 ((((nextR u x).2.1).call).state), .int .i64 ((((nextR u x).2.1).call).owner), .int .i64 ((((nextR u x).2.1).call).born), .int .i64 (((nextR u x).2.1).car), .int .i64 (((nextR u x).2.1).mode)], .int .i64 (nextR u x).2.2]) ∧ GivesR w w' [rS la lc 8 (u.live.map callRow), rS da dc 8 (u.done.map callRow)] la' lc' da' dc' (nextR u x).1 := by
 have H := Lib.hid (Hp.start [] w)
 have H := hp_old H h1 (by decide)
 have H := hp_old H h2 (by decide)
 clear h1 h2
 refine wStart (args := [.agg (rbA u.c u.is u.index (.slice la u.live.length lc) (.slice da u.done.length dc) u.modes), .agg (xA x)]) Try.func58 rfl rfl rfl H ?_
 clear H
 show Wk 94 _ _ [(0, .agg (rbA u.c u.is u.index (.slice la u.live.length lc) (.slice da u.done.length dc) u.modes)), (1, .agg (xA x))] _ _
 have hul : u.live.length ≤ 1000 := hu.out.live
 have hud : u.done.length ≤ 1000 := hu.out.done
 have hui : 0 ≤ u.index ∧ u.index ≤ 1073741824 := hu.out.index
 have huc : u.c.cars ≤ 4 := hu.out.cars
 refine wSeqK fun KK1 hK1 => ?_
 refine wReg ?_
 refine wBx rfl rfl rfl fun b2 => ?_
 refine wBx rfl rfl rfl fun b3 => ?_
 refine wAl rfl rfl tyhoistwayref09_Book fun b4 => ?_
 refine wAl rfl rfl tyapi_Change fun b5 => ?_
 refine p_nextRC rfl ?_
 refine wN ?_
 refine tN (wKK hK1 ?_)
 refine wSeqK fun KK2 hK2 => ?_
 refine wSeqK fun KK3 hK3 => ?_
 refine wReg ?_
 refine p_nextRC rfl ?_
 refine wLd rfl tyint 3 rfl rfl ?_
 refine p_nextRC rfl ?_
 refine wN ?_
 refine tN (wKK hK3 ?_)
 refine wCond (E := decide (1073741824 ≤ u.index)) rfl (fun z1 => ?_) (fun z1 => ?_)
 · skip
   have z1d : 1073741824 ≤ u.index := of_decide_eq_true z1
   refine wSeqK fun KK4 hK4 => ?_
   refine wReg ?_
   refine wE (.agg (rbA zeroF false 0 (.slice none 0 0) (.slice none 0 0) ([0, 0, 0, 0]))) rfl rfl rfl (fun aa ww hs _ => by simp only [execOp]; go_simp <;> first | rfl | omega) ?_
   refine wE (.agg (chA zeroCh)) rfl rfl rfl (fun aa ww hs _ => by simp only [execOp]; go_simp <;> first | rfl | omega) ?_
   refine wSr rfl tyhoistwayref09_Book 1 rfl rfl rfl rfl (rbL zeroF false 0 (.slice none 0 0) (.slice none 0 0) ([0, 0, 0, 0])) (by first | rfl | (simp only [spl]; rfl)) ?_
   refine wSr rfl tyapi_Change 0 rfl rfl rfl rfl (chL zeroCh) (by first | rfl | (simp only [spl]; rfl)) ?_
   refine p_nextRC rfl ?_
   refine wN ?_
   refine tN (wKK hK4 ?_)
   refine wRet ?_
   refine tR ?_
   exact wRcct tyhoistwayref09_Book tyapi_Change rfl rfl rfl rfl 1 0 rfl rfl rfl rfl (fun ww H => (by simp only [nextR, z1, cond_true, cond_false, Bool.not_true, Bool.not_false, Bool.true_and, Bool.and_true, Bool.false_and, Bool.and_false, Bool.true_or, Bool.or_true, Bool.false_or, Bool.or_false]; exact ⟨none, 0, none, 0, rfl, (rS_nil _ _), (rS_nil _ _), (From.none _ _ _ _ _), (From.none _ _ _ _ _), H.out.off⟩))
 · skip
   have z1d : ¬ (1073741824 ≤ u.index) := of_decide_eq_false z1
   refine wSk ?_
   refine tN (wKK hK2 ?_)
   refine wSeqK fun KK5 hK5 => ?_
   refine wReg ?_
   intro aa ww nn dd hs H
   refine hp_bslice0 elCall H rfl (wnt_ok hs rfl) ?_
   intro wd b16 H2
   replace H2 : Hid (Hp [] w wd (rA (some ⟨b16, 0, none⟩) 0 38 8 (([] : List CallV).map callRow) :: _)) := H2
   refine wGo (v := .slice (some ⟨b16, 0, none⟩) 0 0) nn dd hs rfl H2 ?_
   clear nn dd hs H H2
   refine p_nextRC rfl ?_
   refine wN ?_
   refine tN (wKK hK5 ?_)
   refine wSeqK fun KK6 hK6 => ?_
   refine wReg ?_
   refine p_nextRC rfl ?_
   refine wN ?_
   refine tN (wKK hK6 ?_)
   refine wSeqK fun KK7 hK7 => ?_
   refine wSeqK fun KK8 hK8 => ?_
   refine wReg ?_
   refine p_nextRC rfl ?_
   refine wN ?_
   refine tN (wKK hK8 ?_)
   refine wBlk ?_
   refine wLoop (fun ab wv => ∃ i : Nat, ∃ a : Option Addr, ∃ c : Nat, ∃ ys : List CallV, ∃ was : Bool, (i ≤ u.live.length) ∧ (ys.length ≤ i) ∧ (Hid (ys = keepL (u.live.take i) x)) ∧ (Hid (was = wasL (u.live.take i) x)) ∧ ab.tmps.size = 94 ∧ ab.defers = [] ∧ Sat [(0, .agg (rbA u.c u.is u.index (.slice la u.live.length lc) (.slice da u.done.length dc) u.modes)), (1, .agg (xA x)), (2, .pointer (some ⟨b2, 0, none⟩)), (3, .pointer (some ⟨b3, 0, none⟩)), (4, .pointer (some ⟨b4, 0, none⟩)), (5, .pointer (some ⟨b5, 0, none⟩)), (6, .int .i64 0), (7, .slice a ys.length c), (8, .bool was), (9, .int .i64 i), (13, .bool (decide (1073741824 ≤ u.index)))] ab ∧ Hid (Hp [] w wv [rA a c 38 8 (ys.map callRow), rB b5 40 (chL zeroCh), rB b4 61 (rbL zeroF false 0 (.slice none 0 0) (.slice none 0 0) ([0, 0, 0, 0])), rB b3 38 (xL x), rB b2 61 (rbL u.c u.is u.index (.slice la u.live.length lc) (.slice da u.done.length dc) u.modes), rS da dc 8 (u.done.map callRow), rS la lc 8 (u.live.map callRow)])) (fun ab _ => u.live.length - (intOf (ab.eval (.tmp 9))).toNat) (fun aa ww nn dd hs H => ⟨0, (some ⟨b16, 0, none⟩), 0, [], false, (Nat.zero_le _), (Nat.le_refl _), (Lib.hid rfl), (Lib.hid rfl), nn, dd, (sat_sub ⟨rfl, rfl, rfl, rfl, rfl, rfl, rfl, rfl, rfl, rfl, rfl, trivial⟩ hs), H⟩) ?_
   rintro a1 wv ⟨i, a, c, ys, was, hi, hyl, hy, hw, nn, dd, hs, H⟩
   have mu1_9 := hs 9 _ rfl
   refine wIn nn dd hs H ?_
   clear nn dd hs H
   refine wSeqK fun KK9 hK9 => ?_
   refine wSeqK fun KK10 hK10 => ?_
   refine wReg ?_
   iterate 2 refine p_nextRC rfl ?_
   refine wLd rfl tyS_api_Call 4 rfl rfl ?_
   refine wE (.int .i64 u.live.length) rfl rfl rfl (fun aa ww hs _ => by have e19 := hs 19 _ rfl; have g19 := gt_of e19; simp only [execOp]; go_simp <;> first | rfl | omega) ?_
   refine p_nextRC rfl ?_
   refine wB (c := decide (i < u.live.length)) 21 rfl (by simp) ?_
   refine wN ?_
   refine tN (wKK hK10 ?_)
   refine wCond (E := decide (i < u.live.length)) rfl (fun z2 => ?_) (fun z2 => ?_)
   · skip
     have z2d : i < u.live.length := of_decide_eq_true z2
     intro aa ww nn dd hs H
     obtain ⟨yz, rfl⟩ := some_of_row (hp_held H (show rS la lc 8 (u.live.map callRow) ∈ _ by simp)) (i := i) (by simp; omega)
     obtain ⟨z, hz⟩ : ∃ z, u.live[i]? = some z := ⟨u.live[i], List.getElem?_eq_getElem (by omega)⟩
     have HRz := Lib.hid (show (u.live.map callRow)[i]? = some [.int .i64 z.id, .int .i64 z.kind, .int .i64 z.src, .int .i64 z.dst, .int .i64 z.car, .int .i64 z.state, .int .i64 z.owner, .int .i64 z.born] by rw [List.getElem?_map, hz]; rfl)
     have HXz := Lib.hid hz
     clear hz
     refine wIn nn dd hs H ?_
     refine wSk ?_
     refine tN (wKK hK9 ?_)
     refine wSeqK fun KK11 hK11 => ?_
     refine wBlk ?_
     refine wSeqK fun KK12 hK12 => ?_
     intro aa ww nn dd hs H
     refine nextRC_r8 u lc da dc x hul hud hui huc b2 b3 b4 b5 z1d i a c ys hi hyl z2d yz z HRz H aa nn (hs 2 _ rfl) (hs 3 _ rfl) (hs 9 _ rfl) ?_
     intro ab wv nn2 dd2 kp o32 H2
     refine wIn nn2 (dd2.trans dd) (Sat.cons (Sat.cons (Sat.cons (Sat.cons (Sat.cons (Sat.cons (Sat.cons (Sat.cons (Sat.cons (Sat.cons (Sat.cons (Sat.cons (Sat.cons (sat_nil ab) ((kp 21 rfl).trans (hs 21 _ rfl))) ((kp 13 rfl).trans (hs 13 _ rfl))) ((kp 9 rfl).trans (hs 9 _ rfl))) ((kp 8 rfl).trans (hs 8 _ rfl))) ((kp 7 rfl).trans (hs 7 _ rfl))) ((kp 6 rfl).trans (hs 6 _ rfl))) ((kp 5 rfl).trans (hs 5 _ rfl))) ((kp 4 rfl).trans (hs 4 _ rfl))) ((kp 3 rfl).trans (hs 3 _ rfl))) ((kp 2 rfl).trans (hs 2 _ rfl))) ((kp 1 rfl).trans (hs 1 _ rfl))) ((kp 0 rfl).trans (hs 0 _ rfl))) o32) H2 ?_
     clear hs H kp H2 dd dd2 nn nn2 o32
     refine tN (wKK hK12 ?_)
     refine wCond (E := z.id != x.id) rfl (fun z3 => ?_) (fun z3 => ?_)
     · skip
       have z3o : (z.id == x.id) = false := neq_t z3
       refine wReg ?_
       iterate 2 refine p_nextRC rfl ?_
       refine wLd rfl tyS_api_Call 4 rfl rfl ?_
       refine p_nextRC rfl ?_
       refine wE (.pointer (some (yz.add (i * 8)))) rfl rfl rfl (fun aa ww hs _ => by have e35 := hs 35 _ rfl; have g35 := gt_of e35; have e36 := hs 36 _ rfl; have g36 := gt_of e36; simp only [execOp]; go_simp <;> first | rfl | omega) ?_
       refine wX 38 (.agg (xA z)) rfl (fun aa ww KK hs H _ hk => hpS_load tyapi_Call H (y := yz) rfl (hs _ _ rfl) (wnt_ok hs rfl) (by (repeat (first | exact List.Mem.head _ | apply List.Mem.tail))) HRz.out rfl hk) ?_
       refine wBs (cs := (xL z)) rfl rfl rfl rfl Try.underlying30 tyapi_Call rfl (by decide) (by decide) (by kernel_rfl) fun b39 => ?_
       intro aa ww nn dd hs H
       refine hp_append (news := [callRow z]) elCall H rfl rfl 1 rfl (hs _ _ rfl) (by simp) (hs _ _ rfl) rfl (hp_single (e := 38) H (List.mem_of_getElem? (i := 0) rfl) rfl (by simp [callRow, Value.oneCell'])) (by simp; omega) (by decide) ?_
       intro wd a40 c40 H2
       rw [show ys.map callRow ++ [callRow z] = (ys ++ [z]).map callRow by simp] at H2 ⊢
       rw [List.length_map]
       refine wGo (v := .slice a40 ((ys ++ [z]).length) c40) nn dd hs rfl H2 ?_
       clear nn dd hs H H2
       refine p_nextRC rfl ?_
       refine wN ?_
       refine bN (tN (wKK hK11 ?_))
       refine wReg ?_
       iterate 2 refine p_nextRC rfl ?_
       refine wI 23 rfl (IntWalk.i64_in _ (by omega)) ?_
       refine p_nextRC rfl ?_
       refine wN ?_
       refine tN ?_
       intro aa ww nn dd hs H
       have hy2 := keep_next hy.out HXz.out
       rw [keep_yes z3] at hy2
       have hw2 := was_next hw.out HXz.out
       rw [z3] at hw2
       replace H := hp_front H 7 rfl
       replace H := hp_front H 7 rfl
       replace H := hp_front H 7 rfl
       replace H := hp_front H 7 rfl
       replace H := hp_front H 7 rfl
       replace H := hp_front H 7 rfl
       replace H := hp_front H 7 rfl
       refine ⟨⟨i + 1, a40, c40, (ys ++ [z]), was, (by omega), (by first | omega | (simp; omega)), (Lib.hid hy2), (Lib.hid (by rw [← hw2]; simp)), nn, dd, (sat_sub ⟨rfl, rfl, rfl, rfl, rfl, rfl, rfl, rfl, rfl, rfl, rfl, trivial⟩ hs), (hp_take H 7)⟩, ?_⟩
       have m9 := hs 9 _ rfl
       simp only [mu1_9, m9, intOf]
       omega
     · skip
       have z3o : (z.id == x.id) = true := neq_f z3
       refine wSeqK fun KK13 hK13 => ?_
       refine wReg ?_
       refine p_nextRC rfl ?_
       refine wN ?_
       refine tN (wKK hK13 ?_)
       refine wSeqK fun KK14 hK14 => ?_
       refine wReg ?_
       refine p_nextRC rfl ?_
       refine wLd rfl tyint 3 rfl rfl ?_
       refine p_nextRC rfl ?_
       refine wN ?_
       refine tN (wKK hK14 ?_)
       refine wCond (E := decide (x.state < 4)) rfl (fun z4 => ?_) (fun z4 => ?_)
       · skip
         have z4d : x.state < 4 := of_decide_eq_true z4
         refine wReg ?_
         refine p_nextRC rfl ?_
         refine wLr rfl tyapi_Call 3 rfl (xL x) rfl rfl ?_
         refine wBs (cs := (xL x)) rfl rfl rfl rfl Try.underlying30 tyapi_Call rfl (by decide) (by decide) (by kernel_rfl) fun b46 => ?_
         intro aa ww nn dd hs H
         refine hp_append (news := [callRow x]) elCall H rfl rfl 1 rfl (hs _ _ rfl) (by simp) (hs _ _ rfl) rfl (hp_single (e := 38) H (List.mem_of_getElem? (i := 0) rfl) rfl (by simp [callRow, Value.oneCell'])) (by simp; omega) (by decide) ?_
         intro wd a47 c47 H2
         rw [show ys.map callRow ++ [callRow x] = (ys ++ [x]).map callRow by simp] at H2 ⊢
         rw [List.length_map]
         refine wGo (v := .slice a47 ((ys ++ [x]).length) c47) nn dd hs rfl H2 ?_
         clear nn dd hs H H2
         refine p_nextRC rfl ?_
         refine wN ?_
         refine bN (tN (wKK hK11 ?_))
         refine wReg ?_
         iterate 2 refine p_nextRC rfl ?_
         refine wI 23 rfl (IntWalk.i64_in _ (by omega)) ?_
         refine p_nextRC rfl ?_
         refine wN ?_
         refine tN ?_
         intro aa ww nn dd hs H
         have hy2 := keep_next hy.out HXz.out
         rw [keep_set z3 z4] at hy2
         have hw2 := was_next hw.out HXz.out
         rw [z3] at hw2
         replace H := hp_front H 7 rfl
         replace H := hp_front H 7 rfl
         replace H := hp_front H 7 rfl
         replace H := hp_front H 7 rfl
         replace H := hp_front H 7 rfl
         replace H := hp_front H 7 rfl
         replace H := hp_front H 7 rfl
         refine ⟨⟨i + 1, a47, c47, (ys ++ [x]), true, (by omega), (by first | omega | (simp; omega)), (Lib.hid hy2), (Lib.hid (by rw [← hw2]; simp)), nn, dd, (sat_sub ⟨rfl, rfl, rfl, rfl, rfl, rfl, rfl, rfl, rfl, rfl, rfl, trivial⟩ hs), (hp_take H 7)⟩, ?_⟩
         have m9 := hs 9 _ rfl
         simp only [mu1_9, m9, intOf]
         omega
       · skip
         have z4d : ¬ (x.state < 4) := of_decide_eq_false z4
         refine wSk ?_
         refine bN (tN (wKK hK11 ?_))
         refine wReg ?_
         iterate 2 refine p_nextRC rfl ?_
         refine wI 23 rfl (IntWalk.i64_in _ (by omega)) ?_
         refine p_nextRC rfl ?_
         refine wN ?_
         refine tN ?_
         intro aa ww nn dd hs H
         have hy2 := keep_next hy.out HXz.out
         rw [keep_not z3 z4] at hy2
         have hw2 := was_next hw.out HXz.out
         rw [z3] at hw2
         rw [List.append_nil] at hy2
         replace H := hp_front H 6 rfl
         replace H := hp_front H 6 rfl
         replace H := hp_front H 6 rfl
         replace H := hp_front H 6 rfl
         replace H := hp_front H 6 rfl
         replace H := hp_front H 6 rfl
         replace H := hp_front H 6 rfl
         refine ⟨⟨i + 1, a, c, ys, true, (by omega), (by first | omega | (simp; omega)), (Lib.hid hy2), (Lib.hid (by rw [← hw2]; simp)), nn, dd, (sat_sub ⟨rfl, rfl, rfl, rfl, rfl, rfl, rfl, rfl, rfl, rfl, rfl, trivial⟩ hs), (hp_take H 7)⟩, ?_⟩
         have m9 := hs 9 _ rfl
         simp only [mu1_9, m9, intOf]
         omega
   · skip
     have z2d : ¬ (i < u.live.length) := of_decide_eq_false z2
     intro aa ww nn dd hs H
     have hil : i = u.live.length := by omega
     have hyk := hy.out
     have hwk := hw.out
     rw [hil, List.take_length] at hyk hwk
     refine wIn nn dd hs H ?_
     refine wEx ?_
     refine tX (tX (bX (tN (wKK hK7 ?_))))
     refine wSeqK fun KK15 hK15 => ?_
     refine wReg ?_
     intro aa ww nn dd hs H
     refine hp_bslice0 elCall H rfl (wnt_ok hs rfl) ?_
     intro wd b48 H2
     replace H2 : Hid (Hp [] w wd (rA (some ⟨b48, 0, none⟩) 0 38 8 (([] : List CallV).map callRow) :: _)) := H2
     refine wGo (v := .slice (some ⟨b48, 0, none⟩) 0 0) nn dd hs rfl H2 ?_
     clear nn dd hs H H2
     refine p_nextRC rfl ?_
     refine wLd rfl tyS_api_Call 5 rfl rfl ?_
     intro aa ww nn dd hs H
     refine hp_append (news := u.done.map callRow) elCall H rfl rfl 0 rfl (hs _ _ rfl) (by simp) (hs _ _ rfl) (by simp <;> omega) (hp_held H (by (repeat (first | exact List.Mem.head _ | apply List.Mem.tail)))) (by simp <;> omega) (by decide) ?_
     intro wd a51 c51 H2
     rw [show ([] : List CallV).map callRow ++ u.done.map callRow = (([] : List CallV) ++ u.done).map callRow from List.map_append.symm] at H2 ⊢
     rw [List.length_map]
     refine wGo (v := .slice a51 ((([] : List CallV) ++ u.done).length) c51) nn dd hs rfl H2 ?_
     clear nn dd hs H H2
     refine p_nextRC rfl ?_
     refine wN ?_
     refine tN (wKK hK15 ?_)
     refine wSeqK fun KK16 hK16 => ?_
     refine wSeqK fun KK17 hK17 => ?_
     refine wReg ?_
     refine p_nextRC rfl ?_
     refine wLd rfl tyint 4 rfl rfl ?_
     refine p_nextRC rfl ?_
     refine wN ?_
     refine tN (wKK hK17 ?_)
     refine wCond (E := decide (3 < x.state)) rfl (fun z5 => ?_) (fun z5 => ?_)
     · skip
       have z5d : 3 < x.state := of_decide_eq_true z5
       refine wSeqK fun KK18 hK18 => ?_
       refine wReg ?_
       refine p_nextRC rfl ?_
       refine wLr rfl tyapi_Call 4 rfl (xL x) rfl rfl ?_
       refine wBs (cs := (xL x)) rfl rfl rfl rfl Try.underlying30 tyapi_Call rfl (by decide) (by decide) (by kernel_rfl) fun b57 => ?_
       intro aa ww nn dd hs H
       refine hp_append (news := [callRow x]) elCall H rfl rfl 1 rfl (hs _ _ rfl) (by simp) (hs _ _ rfl) rfl (hp_single (e := 38) H (List.mem_of_getElem? (i := 0) rfl) rfl (by simp [callRow, Value.oneCell'])) (by simp; omega) (by decide) ?_
       intro wd a58 c58 H2
       rw [show (([] : List CallV) ++ u.done).map callRow ++ [callRow x] = ((([] : List CallV) ++ u.done) ++ [x]).map callRow by simp] at H2 ⊢
       rw [List.length_map]
       refine wGo (v := .slice a58 (((([] : List CallV) ++ u.done) ++ [x]).length) c58) nn dd hs rfl H2 ?_
       clear nn dd hs H H2
       refine p_nextRC rfl ?_
       refine wN ?_
       refine tN (wKK hK18 ?_)
       refine wSeqK fun KK19 hK19 => ?_
       refine wReg ?_
       refine p_nextRC rfl ?_
       refine wE (.int .i64 (((([] : List CallV) ++ u.done) ++ [x]).length)) rfl rfl rfl (fun aa ww hs _ => by have e59 := hs 59 _ rfl; have g59 := gt_of e59; simp only [execOp]; go_simp <;> first | rfl | omega) ?_
       iterate 2 refine p_nextRC rfl ?_
       refine wLd rfl tyint 6 rfl rfl ?_
       refine p_nextRC rfl ?_
       refine wN ?_
       refine tN (wKK hK19 ?_)
       refine wCond (E := decide (u.c.calls < (((([] : List CallV) ++ u.done) ++ [x]).length : Int))) rfl (fun z6 => ?_) (fun z6 => ?_)
       · skip
         have z6d : u.c.calls < (((([] : List CallV) ++ u.done) ++ [x]).length : Int) := of_decide_eq_true z6
         intro aa ww nn dd hs H
         have hcl : ((([] : List CallV) ++ u.done) ++ [x]).length = u.done.length + 1 := by simp
         refine wIn nn dd hs H ?_
         refine wReg ?_
         refine p_nextRC rfl ?_
         refine wE (.slice (cutA a58 c58 1 8) ((((([] : List CallV) ++ u.done) ++ [x]).length) - 1) (c58 - 1)) rfl rfl rfl (fun aa ww hs _ => exec_cut_l elCall rfl (hs _ _ rfl) (((rfl : aa.eval (.const _) = _)).trans (by first | rfl | simp)) (by omega)) ?_
         refine p_nextRC rfl ?_
         refine wN ?_
         refine tN (wKK hK16 ?_)
         refine wSeqK fun KK20 hK20 => ?_
         refine wReg ?_
         iterate 2 refine p_nextRC rfl ?_
         refine wSt rfl tyS_api_Call 6 rfl rfl rfl rfl ?_
         refine wN ?_
         refine tN (wKK hK20 ?_)
         refine wSeqK fun KK21 hK21 => ?_
         refine wReg ?_
         iterate 2 refine p_nextRC rfl ?_
         refine wSt rfl tyS_api_Call 6 rfl rfl rfl rfl ?_
         refine wN ?_
         refine tN (wKK hK21 ?_)
         refine wSeqK fun KK22 hK22 => ?_
         refine wReg ?_
         refine p_nextRC rfl ?_
         refine wLd rfl tyint 6 rfl rfl ?_
         refine p_nextRC rfl ?_
         refine wI 87 rfl (IntWalk.i64_in _ (by omega)) ?_
         refine p_nextRC rfl ?_
         refine wSt rfl tyint 6 rfl rfl rfl rfl ?_
         refine wN ?_
         refine tN (wKK hK22 ?_)
         refine wSeqK fun KK23 hK23 => ?_
         intro aa ww nn dd hs H
         refine nextRC_r25 u la lc da dc x hul hud hui huc b2 b3 b4 b5 z1d i a c ys was hi hyl z2d hyk hwk z5d b57 a58 c58 z6d hcl H aa nn (hs 2 _ rfl) (hs 3 _ rfl) (hs 4 _ rfl) (hs 5 _ rfl) ?_
         intro ab wv nn2 dd2 kp o6 H2
         refine wIn nn2 (dd2.trans dd) (Sat.cons (Sat.cons (Sat.cons (Sat.cons (Sat.cons (Sat.cons (Sat.cons (Sat.cons (Sat.cons (Sat.cons (Sat.cons (Sat.cons (Sat.cons (Sat.cons (Sat.cons (sat_nil ab) ((kp 64 rfl).trans (hs 64 _ rfl))) ((kp 54 rfl).trans (hs 54 _ rfl))) ((kp 21 rfl).trans (hs 21 _ rfl))) ((kp 13 rfl).trans (hs 13 _ rfl))) ((kp 10 rfl).trans (hs 10 _ rfl))) ((kp 9 rfl).trans (hs 9 _ rfl))) ((kp 8 rfl).trans (hs 8 _ rfl))) ((kp 7 rfl).trans (hs 7 _ rfl))) ((kp 5 rfl).trans (hs 5 _ rfl))) ((kp 4 rfl).trans (hs 4 _ rfl))) ((kp 3 rfl).trans (hs 3 _ rfl))) ((kp 2 rfl).trans (hs 2 _ rfl))) ((kp 1 rfl).trans (hs 1 _ rfl))) ((kp 0 rfl).trans (hs 0 _ rfl))) o6) H2 ?_
         clear hs H kp H2 dd dd2 nn nn2 o6
         refine tN (wKK hK23 ?_)
         refine wRet ?_
         exact wRcct tyhoistwayref09_Book tyapi_Change rfl rfl rfl rfl 4 3 rfl rfl rfl rfl (fun ww H => (by have hla := hp_from H (List.mem_of_getElem? (i := 2) rfl) [rS la lc 8 (u.live.map callRow), rS da dc 8 (u.done.map callRow)]; have hlb := last_gives H (l := 1) rfl [rS la lc 8 (u.live.map callRow), rS da dc 8 (u.done.map callRow)] 1 (by simp <;> omega); simp only [nextR, z1, z2, z5, z6, cond_true, cond_false, Bool.not_true, Bool.not_false, Bool.true_and, Bool.and_true, Bool.false_and, Bool.and_false, Bool.true_or, Bool.or_true, Bool.false_or, Bool.or_false, ← hyk, ← hwk, List.length_drop]; exact ⟨a, c, (cutA a58 c58 1 8), (c58 - 1), rfl, hla.1, hlb.1, hla.2, hlb.2, H.out.off⟩))
       · skip
         have z6d : ¬ (u.c.calls < (((([] : List CallV) ++ u.done) ++ [x]).length : Int)) := of_decide_eq_false z6
         refine wSk ?_
         refine tN (wKK hK16 ?_)
         refine wSeqK fun KK24 hK24 => ?_
         refine wReg ?_
         iterate 2 refine p_nextRC rfl ?_
         refine wSt rfl tyS_api_Call 6 rfl rfl rfl rfl ?_
         refine wN ?_
         refine tN (wKK hK24 ?_)
         refine wSeqK fun KK25 hK25 => ?_
         refine wReg ?_
         iterate 2 refine p_nextRC rfl ?_
         refine wSt rfl tyS_api_Call 6 rfl rfl rfl rfl ?_
         refine wN ?_
         refine tN (wKK hK25 ?_)
         refine wSeqK fun KK26 hK26 => ?_
         refine wReg ?_
         refine p_nextRC rfl ?_
         refine wLd rfl tyint 6 rfl rfl ?_
         refine p_nextRC rfl ?_
         refine wI 87 rfl (IntWalk.i64_in _ (by omega)) ?_
         refine p_nextRC rfl ?_
         refine wSt rfl tyint 6 rfl rfl rfl rfl ?_
         refine wN ?_
         refine tN (wKK hK26 ?_)
         refine wSeqK fun KK27 hK27 => ?_
         intro aa ww nn dd hs H
         refine nextRC_r25x1 u la lc da dc x hul hud hui huc b2 b3 b4 b5 z1d i a c ys was hi hyl z2d hyk hwk z5d b57 a58 c58 z6d H aa nn (hs 2 _ rfl) (hs 3 _ rfl) (hs 4 _ rfl) (hs 5 _ rfl) ?_
         intro ab wv nn2 dd2 kp o6 H2
         refine wIn nn2 (dd2.trans dd) (Sat.cons (Sat.cons (Sat.cons (Sat.cons (Sat.cons (Sat.cons (Sat.cons (Sat.cons (Sat.cons (Sat.cons (Sat.cons (Sat.cons (Sat.cons (Sat.cons (Sat.cons (sat_nil ab) ((kp 64 rfl).trans (hs 64 _ rfl))) ((kp 54 rfl).trans (hs 54 _ rfl))) ((kp 21 rfl).trans (hs 21 _ rfl))) ((kp 13 rfl).trans (hs 13 _ rfl))) ((kp 10 rfl).trans (hs 10 _ rfl))) ((kp 9 rfl).trans (hs 9 _ rfl))) ((kp 8 rfl).trans (hs 8 _ rfl))) ((kp 7 rfl).trans (hs 7 _ rfl))) ((kp 5 rfl).trans (hs 5 _ rfl))) ((kp 4 rfl).trans (hs 4 _ rfl))) ((kp 3 rfl).trans (hs 3 _ rfl))) ((kp 2 rfl).trans (hs 2 _ rfl))) ((kp 1 rfl).trans (hs 1 _ rfl))) ((kp 0 rfl).trans (hs 0 _ rfl))) o6) H2 ?_
         clear hs H kp H2 dd dd2 nn nn2 o6
         refine tN (wKK hK27 ?_)
         refine wRet ?_
         exact wRcct tyhoistwayref09_Book tyapi_Change rfl rfl rfl rfl 4 3 rfl rfl rfl rfl (fun ww H => (by have hla := hp_from H (List.mem_of_getElem? (i := 2) rfl) [rS la lc 8 (u.live.map callRow), rS da dc 8 (u.done.map callRow)]; have hlb := hp_from H (List.mem_of_getElem? (i := 1) rfl) [rS la lc 8 (u.live.map callRow), rS da dc 8 (u.done.map callRow)]; simp only [nextR, z1, z2, z5, z6, cond_true, cond_false, Bool.not_true, Bool.not_false, Bool.true_and, Bool.and_true, Bool.false_and, Bool.and_false, Bool.true_or, Bool.or_true, Bool.false_or, Bool.or_false, ← hyk, ← hwk]; exact ⟨a, c, a58, c58, rfl, hla.1, hlb.1, hla.2, hlb.2, H.out.off⟩))
     · skip
       have z5d : ¬ (3 < x.state) := of_decide_eq_false z5
       refine wSeqK fun KK28 hK28 => ?_
       refine wReg ?_
       iterate 2 refine p_nextRC rfl ?_
       refine wN ?_
       refine tN (wKK hK28 ?_)
       refine wCond (E := !was) rfl (fun z7 => ?_) (fun z7 => ?_)
       · skip
         have z7n : was = false := Reg.bn z7
         refine wSeqK fun KK29 hK29 => ?_
         refine wSeqK fun KK30 hK30 => ?_
         refine wReg ?_
         refine p_nextRC rfl ?_
         refine wE (.int .i64 ys.length) rfl rfl rfl (fun aa ww hs _ => by have e69 := hs 69 _ rfl; have g69 := gt_of e69; simp only [execOp]; go_simp <;> first | rfl | omega) ?_
         iterate 2 refine p_nextRC rfl ?_
         refine wLd rfl tyint 5 rfl rfl ?_
         refine p_nextRC rfl ?_
         refine wN ?_
         refine tN (wKK hK30 ?_)
         refine wCond (E := decide (u.c.calls ≤ (ys.length : Int))) rfl (fun z8 => ?_) (fun z8 => ?_)
         · skip
           have z8d : u.c.calls ≤ (ys.length : Int) := of_decide_eq_true z8
           refine wSeqK fun KK31 hK31 => ?_
           refine wReg ?_
           refine wE (.agg (rbA zeroF false 0 (.slice none 0 0) (.slice none 0 0) ([0, 0, 0, 0]))) rfl rfl rfl (fun aa ww hs _ => by simp only [execOp]; go_simp <;> first | rfl | omega) ?_
           refine wE (.agg (chA zeroCh)) rfl rfl rfl (fun aa ww hs _ => by simp only [execOp]; go_simp <;> first | rfl | omega) ?_
           refine wSr rfl tyhoistwayref09_Book 3 rfl rfl rfl rfl (rbL zeroF false 0 (.slice none 0 0) (.slice none 0 0) ([0, 0, 0, 0])) (by first | rfl | (simp only [spl]; rfl)) ?_
           refine wSr rfl tyapi_Change 2 rfl rfl rfl rfl (chL zeroCh) (by first | rfl | (simp only [spl]; rfl)) ?_
           refine p_nextRC rfl ?_
           refine wN ?_
           refine tN (wKK hK31 ?_)
           refine wRet ?_
           refine tR (tR ?_)
           exact wRcct tyhoistwayref09_Book tyapi_Change rfl rfl rfl rfl 3 2 rfl rfl rfl rfl (fun ww H => (by simp only [nextR, z1, z2, z5, z7, z7n, z8, cond_true, cond_false, Bool.not_true, Bool.not_false, Bool.true_and, Bool.and_true, Bool.false_and, Bool.and_false, Bool.true_or, Bool.or_true, Bool.false_or, Bool.or_false, ← hyk, ← hwk]; exact ⟨none, 0, none, 0, rfl, (rS_nil _ _), (rS_nil _ _), (From.none _ _ _ _ _), (From.none _ _ _ _ _), H.out.off⟩))
         · skip
           have z8d : ¬ (u.c.calls ≤ (ys.length : Int)) := of_decide_eq_false z8
           refine wSk ?_
           refine tN (wKK hK29 ?_)
           refine wReg ?_
           refine p_nextRC rfl ?_
           refine wLr rfl tyapi_Call 4 rfl (xL x) rfl rfl ?_
           refine wBs (cs := (xL x)) rfl rfl rfl rfl Try.underlying30 tyapi_Call rfl (by decide) (by decide) (by kernel_rfl) fun b79 => ?_
           intro aa ww nn dd hs H
           refine hp_append (news := [callRow x]) elCall H rfl rfl 2 rfl (hs _ _ rfl) (by simp) (hs _ _ rfl) rfl (hp_single (e := 38) H (List.mem_of_getElem? (i := 0) rfl) rfl (by simp [callRow, Value.oneCell'])) (by simp; omega) (by decide) ?_
           intro wd a80 c80 H2
           rw [show ys.map callRow ++ [callRow x] = (ys ++ [x]).map callRow by simp] at H2 ⊢
           rw [List.length_map]
           refine wGo (v := .slice a80 ((ys ++ [x]).length) c80) nn dd hs rfl H2 ?_
           clear nn dd hs H H2
           refine p_nextRC rfl ?_
           refine wN ?_
           refine tN (wKK hK16 ?_)
           refine wSeqK fun KK32 hK32 => ?_
           refine wReg ?_
           iterate 2 refine p_nextRC rfl ?_
           refine wSt rfl tyS_api_Call 6 rfl rfl rfl rfl ?_
           refine wN ?_
           refine tN (wKK hK32 ?_)
           refine wSeqK fun KK33 hK33 => ?_
           refine wReg ?_
           iterate 2 refine p_nextRC rfl ?_
           refine wSt rfl tyS_api_Call 6 rfl rfl rfl rfl ?_
           refine wN ?_
           refine tN (wKK hK33 ?_)
           refine wSeqK fun KK34 hK34 => ?_
           refine wReg ?_
           refine p_nextRC rfl ?_
           refine wLd rfl tyint 6 rfl rfl ?_
           refine p_nextRC rfl ?_
           refine wI 87 rfl (IntWalk.i64_in _ (by omega)) ?_
           refine p_nextRC rfl ?_
           refine wSt rfl tyint 6 rfl rfl rfl rfl ?_
           refine wN ?_
           refine tN (wKK hK34 ?_)
           refine wSeqK fun KK35 hK35 => ?_
           intro aa ww nn dd hs H
           refine nextRC_r25x2 u la lc da dc x hul hud hui huc b2 b3 b4 b5 z1d i c ys was hi hyl z2d hyk hwk a51 c51 z5d z8d b79 a80 c80 H aa nn (hs 2 _ rfl) (hs 3 _ rfl) (hs 4 _ rfl) (hs 5 _ rfl) ?_
           intro ab wv nn2 dd2 kp o6 H2
           refine wIn nn2 (dd2.trans dd) (Sat.cons (Sat.cons (Sat.cons (Sat.cons (Sat.cons (Sat.cons (Sat.cons (Sat.cons (Sat.cons (Sat.cons (Sat.cons (Sat.cons (Sat.cons (Sat.cons (Sat.cons (Sat.cons (sat_nil ab) ((kp 74 rfl).trans (hs 74 _ rfl))) ((kp 68 rfl).trans (hs 68 _ rfl))) ((kp 54 rfl).trans (hs 54 _ rfl))) ((kp 21 rfl).trans (hs 21 _ rfl))) ((kp 13 rfl).trans (hs 13 _ rfl))) ((kp 10 rfl).trans (hs 10 _ rfl))) ((kp 9 rfl).trans (hs 9 _ rfl))) ((kp 8 rfl).trans (hs 8 _ rfl))) ((kp 7 rfl).trans (hs 7 _ rfl))) ((kp 5 rfl).trans (hs 5 _ rfl))) ((kp 4 rfl).trans (hs 4 _ rfl))) ((kp 3 rfl).trans (hs 3 _ rfl))) ((kp 2 rfl).trans (hs 2 _ rfl))) ((kp 1 rfl).trans (hs 1 _ rfl))) ((kp 0 rfl).trans (hs 0 _ rfl))) o6) H2 ?_
           clear hs H kp H2 dd dd2 nn nn2 o6
           refine tN (wKK hK35 ?_)
           refine wRet ?_
           exact wRcct tyhoistwayref09_Book tyapi_Change rfl rfl rfl rfl 4 3 rfl rfl rfl rfl (fun ww H => (by have hla := hp_from H (List.mem_of_getElem? (i := 2) rfl) [rS la lc 8 (u.live.map callRow), rS da dc 8 (u.done.map callRow)]; have hlb := hp_from H (List.mem_of_getElem? (i := 1) rfl) [rS la lc 8 (u.live.map callRow), rS da dc 8 (u.done.map callRow)]; simp only [nextR, z1, z2, z5, z7, z7n, z8, cond_true, cond_false, Bool.not_true, Bool.not_false, Bool.true_and, Bool.and_true, Bool.false_and, Bool.and_false, Bool.true_or, Bool.or_true, Bool.false_or, Bool.or_false, ← hyk, ← hwk]; exact ⟨a80, c80, a51, c51, rfl, hla.1, hlb.1, hla.2, hlb.2, H.out.off⟩))
       · skip
         have z7n : was = true := Reg.bt z7
         refine wSk ?_
         refine tN (wKK hK16 ?_)
         refine wSeqK fun KK36 hK36 => ?_
         refine wReg ?_
         iterate 2 refine p_nextRC rfl ?_
         refine wSt rfl tyS_api_Call 5 rfl rfl rfl rfl ?_
         refine wN ?_
         refine tN (wKK hK36 ?_)
         refine wSeqK fun KK37 hK37 => ?_
         refine wReg ?_
         iterate 2 refine p_nextRC rfl ?_
         refine wSt rfl tyS_api_Call 5 rfl rfl rfl rfl ?_
         refine wN ?_
         refine tN (wKK hK37 ?_)
         refine wSeqK fun KK38 hK38 => ?_
         refine wReg ?_
         refine p_nextRC rfl ?_
         refine wLd rfl tyint 5 rfl rfl ?_
         refine p_nextRC rfl ?_
         refine wI 87 rfl (IntWalk.i64_in _ (by omega)) ?_
         refine p_nextRC rfl ?_
         refine wSt rfl tyint 5 rfl rfl rfl rfl ?_
         refine wN ?_
         refine tN (wKK hK38 ?_)
         refine wSeqK fun KK39 hK39 => ?_
         intro aa ww nn dd hs H
         refine nextRC_r25x3 u la lc da dc x hul hud hui huc b2 b3 b4 b5 z1d i a c ys was hi hyl z2d hyk hwk a51 c51 z5d H aa nn (hs 2 _ rfl) (hs 3 _ rfl) (hs 4 _ rfl) (hs 5 _ rfl) ?_
         intro ab wv nn2 dd2 kp o6 H2
         refine wIn nn2 (dd2.trans dd) (Sat.cons (Sat.cons (Sat.cons (Sat.cons (Sat.cons (Sat.cons (Sat.cons (Sat.cons (Sat.cons (Sat.cons (Sat.cons (Sat.cons (Sat.cons (Sat.cons (Sat.cons (sat_nil ab) ((kp 68 rfl).trans (hs 68 _ rfl))) ((kp 54 rfl).trans (hs 54 _ rfl))) ((kp 21 rfl).trans (hs 21 _ rfl))) ((kp 13 rfl).trans (hs 13 _ rfl))) ((kp 10 rfl).trans (hs 10 _ rfl))) ((kp 9 rfl).trans (hs 9 _ rfl))) ((kp 8 rfl).trans (hs 8 _ rfl))) ((kp 7 rfl).trans (hs 7 _ rfl))) ((kp 5 rfl).trans (hs 5 _ rfl))) ((kp 4 rfl).trans (hs 4 _ rfl))) ((kp 3 rfl).trans (hs 3 _ rfl))) ((kp 2 rfl).trans (hs 2 _ rfl))) ((kp 1 rfl).trans (hs 1 _ rfl))) ((kp 0 rfl).trans (hs 0 _ rfl))) o6) H2 ?_
         clear hs H kp H2 dd dd2 nn nn2 o6
         refine tN (wKK hK39 ?_)
         refine wRet ?_
         exact wRcct tyhoistwayref09_Book tyapi_Change rfl rfl rfl rfl 3 2 rfl rfl rfl rfl (fun ww H => (by have hla := hp_from H (List.mem_of_getElem? (i := 1) rfl) [rS la lc 8 (u.live.map callRow), rS da dc 8 (u.done.map callRow)]; have hlb := hp_from H (List.mem_of_getElem? (i := 0) rfl) [rS la lc 8 (u.live.map callRow), rS da dc 8 (u.done.map callRow)]; simp only [nextR, z1, z2, z5, z7, z7n, cond_true, cond_false, Bool.not_true, Bool.not_false, Bool.true_and, Bool.and_true, Bool.false_and, Bool.and_false, Bool.true_or, Bool.or_true, Bool.false_or, Bool.or_false, ← hyk, ← hwk]; exact ⟨a, c, a51, c51, rfl, hla.1, hlb.1, hla.2, hlb.2, H.out.off⟩))
end Go.Proofs.Ytnanihffljpdbaa.Bk
