/- Layer 8: calls, and how they go on. -/
import Derived.Test.YtnanihffljpdbaaProg
import Derived.Below
import Derived.WalkKit
import Derived.KernelRfl
import Derived.RowKit3
import Derived.Deep.LoopGhost
import Derived.Deep.QuietTactic
import Derived.BigQuiet
import Derived.WideLaws
import Derived.Deep.DeepCutAuto
import Derived.Deep.CutBlock
import Derived.Lib.Hide
import Derived.Laws.BitsLemmas
import Derived.Laws.Bits64
import Derived.Laws.BitsAllLaws
import Derived.IntWalk
import Derived.Outline
import Derived.WalkSpells
import Derived.Test.YtnanihffljpdbaaGA
import Derived.Test.YtnanihffljpdbaaArr
import Derived.Test.YtnanihffljpdbaaCall2
import Derived.Test.YtnanihffljpdbaaGT
import Derived.WalkLawsBesides
namespace Go.Proofs.Ytnanihffljpdbaa.Bk
open Go.RowKit Go.Proofs.Ytnanihffljpdbaa.Mem Go.Proofs.Ytnanihffljpdbaa.Reg Go.Proofs.Ytnanihffljpdbaa.Wk Go.Proofs.Ytnanihffljpdbaa.Si Go.Proofs.Ytnanihffljpdbaa.Ca Go.Proofs.Ytnanihffljpdbaa.Sc6
set_option linter.unusedVariables false
set_option linter.unusedSimpArgs false

/-- a change -/
structure ChgV where
  index : Int
  call : CallV
  car : Int
  mode : Int
def zeroC : CallV := ⟨0, 0, 0, 0, 0, 0, 0, 0⟩
def zeroF : Cfg := ⟨0, 0, 0, 0, 0, 0, 0, 0, 0, 0, 0, 0, 0, 0, 0, 0, 0, 0⟩
def zeroCh : ChgV := ⟨0, ⟨0, 0, 0, 0, 0, 0, 0, 0⟩, 0, 0⟩
def xL (x : CallV) : List Value := [.int .i64 x.id, .int .i64 x.kind, .int .i64 x.src, .int .i64 x.dst, .int .i64 x.car, .int .i64 x.state, .int .i64 x.owner, .int .i64 x.born]
def xA (x : CallV) : Array Value := #[.int .i64 x.id, .int .i64 x.kind, .int .i64 x.src, .int .i64 x.dst, .int .i64 x.car, .int .i64 x.state, .int .i64 x.owner, .int .i64 x.born]
def cL (x : Cfg) : List Value := [.int .i64 x.floors, .int .i64 x.cars, .int .i64 x.seats, .int .i64 x.calls, .int .i64 x.lines, .int .i64 x.keys, .int .i64 x.window, .int .i64 x.burst, .int .i64 x.rate, .int .i64 x.idle, .int .i64 x.inn, .int .i64 x.out, .int .i64 x.feed, .int .i64 x.retries, .int .i64 x.life, .int .i64 x.door, .int .i64 x.holds, .int .u32 x.secret]
def cA (x : Cfg) : Array Value := #[.int .i64 x.floors, .int .i64 x.cars, .int .i64 x.seats, .int .i64 x.calls, .int .i64 x.lines, .int .i64 x.keys, .int .i64 x.window, .int .i64 x.burst, .int .i64 x.rate, .int .i64 x.idle, .int .i64 x.inn, .int .i64 x.out, .int .i64 x.feed, .int .i64 x.retries, .int .i64 x.life, .int .i64 x.door, .int .i64 x.holds, .int .u32 x.secret]
def chL (x : ChgV) : List Value := [.int .i64 x.index, .int .i64 x.call.id, .int .i64 x.call.kind, .int .i64 x.call.src, .int .i64 x.call.dst, .int .i64 x.call.car, .int .i64 x.call.state, .int .i64 x.call.owner, .int .i64 x.call.born, .int .i64 x.car, .int .i64 x.mode]
def chA (x : ChgV) : Array Value := #[.int .i64 x.index, .int .i64 x.call.id, .int .i64 x.call.kind, .int .i64 x.call.src, .int .i64 x.call.dst, .int .i64 x.call.car, .int .i64 x.call.state, .int .i64 x.call.owner, .int .i64 x.call.born, .int .i64 x.car, .int .i64 x.mode]
def bkL (c : Cfg) (ix rm : Int) (lv dn : Value) (ms : List Int) : List Value := [.int .i64 c.floors, .int .i64 c.cars, .int .i64 c.seats, .int .i64 c.calls, .int .i64 c.lines, .int .i64 c.keys, .int .i64 c.window, .int .i64 c.burst, .int .i64 c.rate, .int .i64 c.idle, .int .i64 c.inn, .int .i64 c.out, .int .i64 c.feed, .int .i64 c.retries, .int .i64 c.life, .int .i64 c.door, .int .i64 c.holds, .int .u32 c.secret, .int .i64 ix, .int .i64 rm, lv, dn, .int .i64 (ms.getD 0 0), .int .i64 (ms.getD 1 0), .int .i64 (ms.getD 2 0), .int .i64 (ms.getD 3 0)]
def bkA (c : Cfg) (ix rm : Int) (lv dn : Value) (ms : List Int) : Array Value := #[.int .i64 c.floors, .int .i64 c.cars, .int .i64 c.seats, .int .i64 c.calls, .int .i64 c.lines, .int .i64 c.keys, .int .i64 c.window, .int .i64 c.burst, .int .i64 c.rate, .int .i64 c.idle, .int .i64 c.inn, .int .i64 c.out, .int .i64 c.feed, .int .i64 c.retries, .int .i64 c.life, .int .i64 c.door, .int .i64 c.holds, .int .u32 c.secret, .int .i64 ix, .int .i64 rm, lv, dn, .int .i64 (ms.getD 0 0), .int .i64 (ms.getD 1 0), .int .i64 (ms.getD 2 0), .int .i64 (ms.getD 3 0)]
instance : DecidableEq CallV := fun a b => decidable_of_iff (a.id = b.id ∧ a.kind = b.kind ∧ a.src = b.src ∧ a.dst = b.dst ∧ a.car = b.car ∧ a.state = b.state ∧ a.owner = b.owner ∧ a.born = b.born) (by cases a; cases b; simp)
instance : DecidableEq ChgV := fun x y => if h : x.index = y.index ∧ x.call = y.call ∧ x.car = y.car ∧ x.mode = y.mode then isTrue (by cases x; cases y; simp_all) else isFalse (fun e => h (by subst e; simp))
theorem tyapi_Config : TyI Try.prog 24 18 true [.int .i64 0, .int .i64 0, .int .i64 0, .int .i64 0, .int .i64 0, .int .i64 0, .int .i64 0, .int .i64 0, .int .i64 0, .int .i64 0, .int .i64 0, .int .i64 0, .int .i64 0, .int .i64 0, .int .i64 0, .int .i64 0, .int .i64 0, .int .u32 0] := ⟨by kernel_rfl, by kernel_rfl, by kernel_rfl⟩
theorem tyapi_Call : TyI Try.prog 38 8 true [.int .i64 0, .int .i64 0, .int .i64 0, .int .i64 0, .int .i64 0, .int .i64 0, .int .i64 0, .int .i64 0] := ⟨by kernel_rfl, by kernel_rfl, by kernel_rfl⟩
theorem tyint : TyI Try.prog 3 1 false [.int .i64 0] := ⟨by kernel_rfl, by kernel_rfl, by kernel_rfl⟩
theorem tyfunc_api_Call___api_Call__api_Errno_ : TyI Try.prog 101 1 false [.nilFunc] := ⟨by kernel_rfl, by kernel_rfl, by kernel_rfl⟩
set_option maxRecDepth 20000 in
set_option maxHeartbeats 16000000 in
theorem run_eq_call (X Y : CallV) (w : World) : (Op.equalIn 10000 38 (.agg #[.int .i64 X.id, .int .i64 X.kind, .int .i64 X.src, .int .i64 X.dst, .int .i64 X.car, .int .i64 X.state, .int .i64 X.owner, .int .i64 X.born]) (.agg #[.int .i64 Y.id, .int .i64 Y.kind, .int .i64 Y.src, .int .i64 Y.dst, .int .i64 Y.car, .int .i64 Y.state, .int .i64 Y.owner, .int .i64 Y.born])).run Try.prog w = .ok (decide (X = Y)) w := by
  have u_i64 := Try.underlying3
  rw [show (10000 : Nat) = 9999 + 1 from rfl]
  go_simp
  clear u_i64
  by_cases he : X = Y
  · subst he
    simp
  · have hf : decide (X = Y) = false := by simpa using he
    rw [hf]
    iterate 8 (refine if_chainR fun _ => ?_)
    exfalso
    refine he ?_
    obtain ⟨x1, x2, x3, x4, x5, x6, x7, x8⟩ := X
    obtain ⟨y1, y2, y3, y4, y5, y6, y7, y8⟩ := Y
    simp_all
theorem run_eq_call_same (X : CallV) (w : World) : (Op.equalIn 10000 38 (.agg #[.int .i64 X.id, .int .i64 X.kind, .int .i64 X.src, .int .i64 X.dst, .int .i64 X.car, .int .i64 X.state, .int .i64 X.owner, .int .i64 X.born]) (.agg #[.int .i64 X.id, .int .i64 X.kind, .int .i64 X.src, .int .i64 X.dst, .int .i64 X.car, .int .i64 X.state, .int .i64 X.owner, .int .i64 X.born])).run Try.prog w = .ok true w := by
  have h := run_eq_call X X w
  rwa [decide_eq_true rfl] at h
set_option maxRecDepth 20000 in
set_option maxHeartbeats 16000000 in
theorem run_eq_chg (X Y : ChgV) (w : World) : (Op.equalIn 10000 40 (.agg #[.int .i64 X.index, .int .i64 X.call.id, .int .i64 X.call.kind, .int .i64 X.call.src, .int .i64 X.call.dst, .int .i64 X.call.car, .int .i64 X.call.state, .int .i64 X.call.owner, .int .i64 X.call.born, .int .i64 X.car, .int .i64 X.mode]) (.agg #[.int .i64 Y.index, .int .i64 Y.call.id, .int .i64 Y.call.kind, .int .i64 Y.call.src, .int .i64 Y.call.dst, .int .i64 Y.call.car, .int .i64 Y.call.state, .int .i64 Y.call.owner, .int .i64 Y.call.born, .int .i64 Y.car, .int .i64 Y.mode])).run Try.prog w = .ok (decide (X = Y)) w := by
  have u_i64 := Try.underlying3
  have us0 := Try.underlying38
  rw [show (10000 : Nat) = 9999 + 1 from rfl]
  go_simp
  clear u_i64 us0
  by_cases he : X = Y
  · subst he
    simp
  · have hf : decide (X = Y) = false := by simpa using he
    rw [hf]
    iterate 11 (refine if_chainR fun _ => ?_)
    exfalso
    refine he ?_
    obtain ⟨x1, ⟨x2, x3, x4, x5, x6, x7, x8, x9⟩, x10, x11⟩ := X
    obtain ⟨y1, ⟨y2, y3, y4, y5, y6, y7, y8, y9⟩, y10, y11⟩ := Y
    simp_all
theorem run_eq_chg_same (X : ChgV) (w : World) : (Op.equalIn 10000 40 (.agg #[.int .i64 X.index, .int .i64 X.call.id, .int .i64 X.call.kind, .int .i64 X.call.src, .int .i64 X.call.dst, .int .i64 X.call.car, .int .i64 X.call.state, .int .i64 X.call.owner, .int .i64 X.call.born, .int .i64 X.car, .int .i64 X.mode]) (.agg #[.int .i64 X.index, .int .i64 X.call.id, .int .i64 X.call.kind, .int .i64 X.call.src, .int .i64 X.call.dst, .int .i64 X.call.car, .int .i64 X.call.state, .int .i64 X.call.owner, .int .i64 X.call.born, .int .i64 X.car, .int .i64 X.mode])).run Try.prog w = .ok true w := by
  have h := run_eq_chg X X w
  rwa [decide_eq_true rfl] at h
def newCV (c : Cfg) (x : CallV) (id owner born : Int) : CallV × Int :=
  bif checkCallV c x != 0 then (⟨0, 0, 0, 0, 0, 0, 0, 0⟩, checkCallV c x)
  else bif (decide (min id owner < 1) || decide (born < 0)) || decide (1073741824 < max (max id owner) born) then (⟨0, 0, 0, 0, 0, 0, 0, 0⟩, 1)
  else (⟨id, x.kind, x.src, x.dst, x.car, 1, owner, born⟩, 0)
def livesV (x : CallV) : Bool := decide (1 ≤ x.state) && decide (x.state ≤ 3)
def freeV (x : CallV) (s : Int) : CallV := bif x.kind != 3 then ⟨x.id, x.kind, x.src, x.dst, 0, s, x.owner, x.born⟩ else ⟨x.id, x.kind, x.src, x.dst, x.car, s, x.owner, x.born⟩
def toV (x : CallV) (s : Int) (b : Bool) : CallV × Int := bif b then (⟨x.id, x.kind, x.src, x.dst, x.car, s, x.owner, x.born⟩, 0) else (⟨0, 0, 0, 0, 0, 0, 0, 0⟩, 7)
def assignV (c : Cfg) (x : CallV) (n : Int) : CallV × Int :=
  bif x.state != 1 then (⟨0, 0, 0, 0, 0, 0, 0, 0⟩, 7)
  else bif (!(carV c n)) || ((x.kind == 3) && (x.car != n)) then (⟨0, 0, 0, 0, 0, 0, 0, 0⟩, 1)
  else (⟨x.id, x.kind, x.src, x.dst, n, 2, x.owner, x.born⟩, 0)
def boardV (x : CallV) : CallV × Int := toV x 3 ((x.state == 2) && (x.kind == 4))
def serveV (x : CallV) : CallV × Int := toV x 4 ((x.state == 3) || ((x.state == 2) && (x.kind != 4)))
def cancelV (x : CallV) : CallV × Int := toV x 5 ((x.state == 1) || (x.state == 2))
def expireV (x : CallV) : CallV × Int := bif x.state != 1 then (⟨0, 0, 0, 0, 0, 0, 0, 0⟩, 7) else (freeV x 6, 0)
def leaveV (c : Cfg) (x : CallV) (n : Int) : CallV × Int :=
  bif (x.state != 2) && (x.state != 3) then (⟨0, 0, 0, 0, 0, 0, 0, 0⟩, 7)
  else bif !(floorV c n) then (⟨0, 0, 0, 0, 0, 0, 0, 0⟩, 1)
  else bif x.state == 2 then (freeV x 1, 0)
  else bif x.dst == n then (⟨x.id, x.kind, x.src, x.dst, x.car, 4, x.owner, x.born⟩, 0)
  else (freeV ⟨x.id, x.kind, n, x.dst, x.car, x.state, x.owner, x.born⟩ 1, 0)
def goneB (y : CallV × Int) (b : CallV) : Bool := (y.2 == 0) && decide (y.1 = b)
def leftV (c : Cfg) (a b : CallV) : Bool := bif a.state == 3 then goneB (leaveV c a b.src) b else goneB (leaveV c a 1) b
def mayV (c : Cfg) (a b : CallV) : Bool :=
  bif checkV c != 0 then false else bif goneB (assignV c a b.car) b then true else bif goneB (boardV a) b then true else bif goneB (serveV a) b then true else bif goneB (cancelV a) b then true else bif goneB (expireV a) b then true else leftV c a b
def tab_newCallC : Wk.Tab := [(38, 0, 0), (38, 5, 5), (38, 6, 6), (38, 7, 7)]
theorem p_newCallC {ops : Array Oper} {rest : List Oper} {o : Oper} {w0 : World} {Q : Exit → Act → World → Prop} {S : List Nat} {R : List Res} {K K' : Wk.Env} {N : Nat} (h : Wk.stp tab_newCallC N ops K o = some K') (n : Wk.Wk N S w0 K' R (wpList Try.prog ops Q rest)) : Wk.Wk N S w0 K R (wpList Try.prog ops Q (o :: rest)) := Wk.wP (T := tab_newCallC) (by kernel_rfl) h n
set_option maxHeartbeats 16000000 in
set_option maxRecDepth 20000 in
theorem newCallC (c : Cfg) (x : CallV) (id : Int) (owner : Int) (born : Int) (w : World) : Calls Try.prog 44 #[.agg (cA c), .agg (xA x), .int .i64 id, .int .i64 owner, .int .i64 born] w fun e w' => e = .returned (.tuple #[.agg #[.int .i64 (((newCV c x id owner born).1).id), .int .i64 (((newCV c x id owner born).1).kind), .int .i64 (((newCV c x id owner born).1).src), .int .i64 (((newCV c x id owner born).1).dst), .int .i64 (((newCV c x id owner born).1).car), .int .i64 (((newCV c x id owner born).1).state), .int .i64 (((newCV c x id owner born).1).owner), .int .i64 (((newCV c x id owner born).1).born)], .int .i64 (newCV c x id owner born).2]) ∧ Off [] w w' := by
 have H := Lib.hid (Hp.start [] w)
 refine wStart (args := [.agg (cA c), .agg (xA x), .int .i64 id, .int .i64 owner, .int .i64 born]) Try.func44 rfl rfl rfl H ?_
 clear H
 show Wk 44 _ _ [(0, .agg (cA c)), (1, .agg (xA x)), (2, .int .i64 id), (3, .int .i64 owner), (4, .int .i64 born)] _ _
 refine wSeqK fun KK1 hK1 => ?_
 refine wReg ?_
 refine wBx rfl rfl rfl fun b5 => ?_
 refine wBx rfl rfl rfl fun b6 => ?_
 refine wAl rfl rfl tyapi_Call fun b10 => ?_
 refine p_newCallC rfl ?_
 refine wN ?_
 refine tN (wKK hK1 ?_)
 refine wSeqK fun KK2 hK2 => ?_
 refine wSeqK fun KK3 hK3 => ?_
 refine wReg ?_
 refine wLr rfl tyapi_Config 2 rfl (cL c) rfl rfl ?_
 refine wLr rfl tyapi_Call 1 rfl (xL x) rfl rfl ?_
 refine wQ (l := [.agg (cA c), .agg (xA x)]) Try.func67 rfl (by kernel_rfl) (.int .i64 (checkCallV c x)) (fun wc H => checkCall c x wc) rfl rfl rfl rfl ?_
 refine p_newCallC rfl ?_
 refine wN ?_
 refine tN (wKK hK3 ?_)
 refine wSeqK fun KK4 hK4 => ?_
 refine wReg ?_
 iterate 2 refine p_newCallC rfl ?_
 refine wN ?_
 refine tN (wKK hK4 ?_)
 refine wCond (E := (checkCallV c x) != 0) rfl (fun z1 => ?_) (fun z1 => ?_)
 · skip
   have z1o : ((checkCallV c x) == 0) = false := neq_t z1
   refine wSeqK fun KK5 hK5 => ?_
   refine wReg ?_
   refine wE (.agg (xA zeroC)) rfl rfl rfl (fun aa ww hs _ => by simp only [execOp]; go_simp <;> first | rfl | omega) ?_
   refine p_newCallC rfl ?_
   refine wSr rfl tyapi_Call 0 rfl rfl rfl rfl (xL zeroC) (by first | rfl | (simp only [spl]; rfl)) ?_
   refine p_newCallC rfl ?_
   refine wN ?_
   refine tN (wKK hK5 ?_)
   refine wRet ?_
   refine tR ?_
   exact wRct tyapi_Call rfl rfl rfl 0 rfl rfl (fun ww H => ⟨by simp only [newCV, z1, z1o, cond_true, cond_false, Bool.not_true, Bool.not_false, Bool.true_and, Bool.and_true, Bool.false_and, Bool.and_false, Bool.true_or, Bool.or_true, Bool.false_or, Bool.or_false] <;> rfl, H.out.off⟩)
 · skip
   have z1o : ((checkCallV c x) == 0) = true := neq_f z1
   refine wSk ?_
   refine tN (wKK hK2 ?_)
   refine wSeqK fun KK6 hK6 => ?_
   refine wSeqK fun KK7 hK7 => ?_
   refine wReg ?_
   iterate 2 refine p_newCallC rfl ?_
   refine wE (.int .i64 (min id owner)) rfl rfl rfl (fun aa ww hs _ => by have e20 := hs 20 _ rfl; have g20 := gt_of e20; have e21 := hs 21 _ rfl; have g21 := gt_of e21; simp only [execOp]; go_simp <;> first | rfl | omega) ?_
   iterate 2 refine p_newCallC rfl ?_
   refine wCut 3 [(27, .bool ((decide ((min id owner) < 1)) || (decide (born < 0)))), (0, .agg (cA c)), (1, .agg (xA x)), (2, .int .i64 id), (3, .int .i64 owner), (4, .int .i64 born), (5, .pointer (some ⟨b5, 0, none⟩)), (6, .pointer (some ⟨b6, 0, none⟩)), (10, .pointer (some ⟨b10, 0, none⟩)), (11, .int .i64 0), (12, .int .i64 (checkCallV c x)), (17, .bool ((checkCallV c x) != 0))] ?_ ?_
   · intro KK hKK
     rcases Bool.eq_false_or_eq_true (decide ((min id owner) < 1)) with u2 | u2
     · skip
       refine wB (c := true) 24 rfl u2 ?_
       iterate 2 refine p_newCallC rfl ?_
       refine p_newCallC rfl ?_
       refine wB (c := (decide ((min id owner) < 1)) || (decide (born < 0))) 27 rfl (by rw [u2]; rfl) ?_
       refine wN (tN ?_)
       exact fun aa ww nn dd hs H => hKK aa ww nn dd (sat_sub ⟨rfl, rfl, rfl, rfl, rfl, rfl, rfl, rfl, rfl, rfl, rfl, rfl, trivial⟩ hs) H
     · skip
       refine wB (c := false) 24 rfl u2 ?_
       iterate 2 refine p_newCallC rfl ?_
       refine p_newCallC rfl ?_
       refine wB (c := (decide ((min id owner) < 1)) || (decide (born < 0))) 27 rfl (by rw [u2]; rfl) ?_
       refine wN (tN ?_)
       exact fun aa ww nn dd hs H => hKK aa ww nn dd (sat_sub ⟨rfl, rfl, rfl, rfl, rfl, rfl, rfl, rfl, rfl, rfl, rfl, rfl, trivial⟩ hs) H
   refine p_newCallC rfl ?_
   refine wCut 6 [(34, .bool (((decide ((min id owner) < 1)) || (decide (born < 0))) || (decide (1073741824 < (max (max id owner) born))))), (0, .agg (cA c)), (1, .agg (xA x)), (2, .int .i64 id), (3, .int .i64 owner), (4, .int .i64 born), (5, .pointer (some ⟨b5, 0, none⟩)), (6, .pointer (some ⟨b6, 0, none⟩)), (10, .pointer (some ⟨b10, 0, none⟩)), (11, .int .i64 0), (12, .int .i64 (checkCallV c x)), (17, .bool ((checkCallV c x) != 0))] ?_ ?_
   · intro KK hKK
     rcases Bool.eq_false_or_eq_true ((decide ((min id owner) < 1)) || (decide (born < 0))) with u3 | u3
     · skip
       refine wB (c := true) 28 rfl u3 ?_
       iterate 5 refine p_newCallC rfl ?_
       refine p_newCallC rfl ?_
       refine wB (c := ((decide ((min id owner) < 1)) || (decide (born < 0))) || (decide (1073741824 < (max (max id owner) born)))) 34 rfl (by rw [u3]; rfl) ?_
       refine wN (tN ?_)
       exact fun aa ww nn dd hs H => hKK aa ww nn dd (sat_sub ⟨rfl, rfl, rfl, rfl, rfl, rfl, rfl, rfl, rfl, rfl, rfl, rfl, trivial⟩ hs) H
     · skip
       refine wB (c := false) 28 rfl u3 ?_
       iterate 3 refine p_newCallC rfl ?_
       refine wE (.int .i64 (max (max id owner) born)) rfl rfl rfl (fun aa ww hs _ => by have e29 := hs 29 _ rfl; have g29 := gt_of e29; have e30 := hs 30 _ rfl; have g30 := gt_of e30; have e31 := hs 31 _ rfl; have g31 := gt_of e31; simp only [execOp]; go_simp <;> first | rfl | omega) ?_
       refine p_newCallC rfl ?_
       refine p_newCallC rfl ?_
       refine wB (c := ((decide ((min id owner) < 1)) || (decide (born < 0))) || (decide (1073741824 < (max (max id owner) born)))) 34 rfl (by rw [u3]; rfl) ?_
       refine wN (tN ?_)
       exact fun aa ww nn dd hs H => hKK aa ww nn dd (sat_sub ⟨rfl, rfl, rfl, rfl, rfl, rfl, rfl, rfl, rfl, rfl, rfl, rfl, trivial⟩ hs) H
   refine wN ?_
   refine tN (wKK hK7 ?_)
   refine wCond (E := ((decide ((min id owner) < 1)) || (decide (born < 0))) || (decide (1073741824 < (max (max id owner) born)))) rfl (fun z4 => ?_) (fun z4 => ?_)
   · skip
     refine wSeqK fun KK8 hK8 => ?_
     refine wReg ?_
     refine wE (.agg (xA zeroC)) rfl rfl rfl (fun aa ww hs _ => by simp only [execOp]; go_simp <;> first | rfl | omega) ?_
     refine wSr rfl tyapi_Call 0 rfl rfl rfl rfl (xL zeroC) (by first | rfl | (simp only [spl]; rfl)) ?_
     refine p_newCallC rfl ?_
     refine wN ?_
     refine tN (wKK hK8 ?_)
     refine wRet ?_
     refine tR ?_
     exact wRct tyapi_Call rfl rfl rfl 0 rfl rfl (fun ww H => ⟨by simp only [newCV, z1, z1o, z4, cond_true, cond_false, Bool.not_true, Bool.not_false, Bool.true_and, Bool.and_true, Bool.false_and, Bool.and_false, Bool.true_or, Bool.or_true, Bool.false_or, Bool.or_false] <;> rfl, H.out.off⟩)
   · skip
     have z4l : ((decide ((min id owner) < 1)) || (decide (born < 0))) = false := Reg.ol z4
     have z4ll : (decide ((min id owner) < 1)) = false := Reg.ol z4l
     have z4lld : ¬ ((min id owner) < 1) := of_decide_eq_false z4ll
     have z4lr : (decide (born < 0)) = false := Reg.orr z4l
     have z4lrd : ¬ (born < 0) := of_decide_eq_false z4lr
     have z4r : (decide (1073741824 < (max (max id owner) born))) = false := Reg.orr z4
     have z4rd : ¬ (1073741824 < (max (max id owner) born)) := of_decide_eq_false z4r
     refine wSk ?_
     refine tN (wKK hK6 ?_)
     refine wSeqK fun KK9 hK9 => ?_
     refine wReg ?_
     iterate 4 refine p_newCallC rfl ?_
     refine wSt rfl tyint 1 rfl rfl rfl rfl ?_
     refine p_newCallC rfl ?_
     refine wSt rfl tyint 1 rfl rfl rfl rfl ?_
     refine p_newCallC rfl ?_
     refine wSt rfl tyint 1 rfl rfl rfl rfl ?_
     refine p_newCallC rfl ?_
     refine wSt rfl tyint 1 rfl rfl rfl rfl ?_
     refine wN ?_
     refine tN (wKK hK9 ?_)
     refine wSeqK fun KK10 hK10 => ?_
     refine wReg ?_
     refine wLr rfl tyapi_Call 1 rfl [.int .i64 id, .int .i64 x.kind, .int .i64 x.src, .int .i64 x.dst, .int .i64 x.car, .int .i64 1, .int .i64 owner, .int .i64 born] rfl rfl ?_
     refine wSr rfl tyapi_Call 0 rfl rfl rfl rfl [.int .i64 id, .int .i64 x.kind, .int .i64 x.src, .int .i64 x.dst, .int .i64 x.car, .int .i64 1, .int .i64 owner, .int .i64 born] (by first | rfl | (simp only [spl]; rfl)) ?_
     refine p_newCallC rfl ?_
     refine wN ?_
     refine tN (wKK hK10 ?_)
     refine wRet ?_
     exact wRct tyapi_Call rfl rfl rfl 0 rfl rfl (fun ww H => ⟨by simp only [newCV, z1, z1o, z4, z4l, z4ll, z4lr, z4r, cond_true, cond_false, Bool.not_true, Bool.not_false, Bool.true_and, Bool.and_true, Bool.false_and, Bool.and_false, Bool.true_or, Bool.or_true, Bool.false_or, Bool.or_false] <;> rfl, H.out.off⟩)
def tab_livesC : Wk.Tab := [(38, 5, 5)]
theorem p_livesC {ops : Array Oper} {rest : List Oper} {o : Oper} {w0 : World} {Q : Exit → Act → World → Prop} {S : List Nat} {R : List Res} {K K' : Wk.Env} {N : Nat} (h : Wk.stp tab_livesC N ops K o = some K') (n : Wk.Wk N S w0 K' R (wpList Try.prog ops Q rest)) : Wk.Wk N S w0 K R (wpList Try.prog ops Q (o :: rest)) := Wk.wP (T := tab_livesC) (by kernel_rfl) h n
set_option maxHeartbeats 16000000 in
set_option maxRecDepth 20000 in
theorem livesC (x : CallV) (w : World) : Calls Try.prog 18 #[.agg (xA x)] w fun e w' => e = .returned (.bool (livesV x)) ∧ Off [] w w' := by
 have H := Lib.hid (Hp.start [] w)
 refine wStart (args := [.agg (xA x)]) Try.func18 rfl rfl rfl H ?_
 clear H
 show Wk 11 _ _ [(0, .agg (xA x))] _ _
 refine wSeqK fun KK1 hK1 => ?_
 refine wReg ?_
 refine wBx rfl rfl rfl fun b1 => ?_
 refine p_livesC rfl ?_
 refine wN ?_
 refine tN (wKK hK1 ?_)
 refine wSeqK fun KK2 hK2 => ?_
 refine wReg ?_
 refine p_livesC rfl ?_
 refine wLd rfl tyint 0 rfl rfl ?_
 iterate 2 refine p_livesC rfl ?_
 refine wCut 4 [(10, .bool ((decide (1 ≤ x.state)) && (decide (x.state ≤ 3)))), (0, .agg (xA x)), (1, .pointer (some ⟨b1, 0, none⟩)), (2, .bool false)] ?_ ?_
 · intro KK hKK
   rcases Bool.eq_false_or_eq_true (decide (1 ≤ x.state)) with u1 | u1
   · skip
     refine wB (c := true) 6 rfl u1 ?_
     refine p_livesC rfl ?_
     refine wLd rfl tyint 0 rfl rfl ?_
     refine p_livesC rfl ?_
     refine p_livesC rfl ?_
     refine wB (c := (decide (1 ≤ x.state)) && (decide (x.state ≤ 3))) 10 rfl (by rw [u1]; rfl) ?_
     refine wN (tN ?_)
     exact fun aa ww nn dd hs H => hKK aa ww nn dd (sat_sub ⟨rfl, rfl, rfl, rfl, trivial⟩ hs) H
   · skip
     refine wB (c := false) 6 rfl u1 ?_
     iterate 3 refine p_livesC rfl ?_
     refine p_livesC rfl ?_
     refine wB (c := (decide (1 ≤ x.state)) && (decide (x.state ≤ 3))) 10 rfl (by rw [u1]; rfl) ?_
     refine wN (tN ?_)
     exact fun aa ww nn dd hs H => hKK aa ww nn dd (sat_sub ⟨rfl, rfl, rfl, rfl, trivial⟩ hs) H
 refine p_livesC rfl ?_
 refine wN ?_
 refine tN (wKK hK2 ?_)
 refine wRet ?_
 exact wR1 rfl rfl (fun ww H => ⟨rfl, H.out.off⟩)
def tab_freeC : Wk.Tab := [(38, 1, 1), (38, 4, 4), (38, 5, 5)]
theorem p_freeC {ops : Array Oper} {rest : List Oper} {o : Oper} {w0 : World} {Q : Exit → Act → World → Prop} {S : List Nat} {R : List Res} {K K' : Wk.Env} {N : Nat} (h : Wk.stp tab_freeC N ops K o = some K') (n : Wk.Wk N S w0 K' R (wpList Try.prog ops Q rest)) : Wk.Wk N S w0 K R (wpList Try.prog ops Q (o :: rest)) := Wk.wP (T := tab_freeC) (by kernel_rfl) h n
set_option maxHeartbeats 16000000 in
set_option maxRecDepth 20000 in
theorem freeC (x : CallV) (s : Int) (w : World) : Calls Try.prog 115 #[.agg (xA x), .int .i64 s] w fun e w' => e = .returned (.agg #[.int .i64 ((freeV x s).id), .int .i64 ((freeV x s).kind), .int .i64 ((freeV x s).src), .int .i64 ((freeV x s).dst), .int .i64 ((freeV x s).car), .int .i64 ((freeV x s).state), .int .i64 ((freeV x s).owner), .int .i64 ((freeV x s).born)]) ∧ Off [] w w' := by
 have H := Lib.hid (Hp.start [] w)
 refine wStart (args := [.agg (xA x), .int .i64 s]) Try.func115 rfl rfl rfl H ?_
 clear H
 show Wk 12 _ _ [(0, .agg (xA x)), (1, .int .i64 s)] _ _
 refine wSeqK fun KK1 hK1 => ?_
 refine wReg ?_
 refine wBx rfl rfl rfl fun b2 => ?_
 refine wAl rfl rfl tyapi_Call fun b4 => ?_
 refine wN ?_
 refine tN (wKK hK1 ?_)
 refine wSeqK fun KK2 hK2 => ?_
 refine wReg ?_
 iterate 2 refine p_freeC rfl ?_
 refine wSt rfl tyint 1 rfl rfl rfl rfl ?_
 refine wN ?_
 refine tN (wKK hK2 ?_)
 refine wSeqK fun KK3 hK3 => ?_
 refine wSeqK fun KK4 hK4 => ?_
 refine wReg ?_
 refine p_freeC rfl ?_
 refine wLd rfl tyint 1 rfl rfl ?_
 refine p_freeC rfl ?_
 refine wN ?_
 refine tN (wKK hK4 ?_)
 refine wCond (E := x.kind != 3) rfl (fun z1 => ?_) (fun z1 => ?_)
 · skip
   have z1o : (x.kind == 3) = false := neq_t z1
   refine wReg ?_
   refine p_freeC rfl ?_
   refine wSt rfl tyint 1 rfl rfl rfl rfl ?_
   refine wN ?_
   refine tN (wKK hK3 ?_)
   refine wSeqK fun KK5 hK5 => ?_
   refine wReg ?_
   refine wLr rfl tyapi_Call 1 rfl [.int .i64 x.id, .int .i64 x.kind, .int .i64 x.src, .int .i64 x.dst, .int .i64 0, .int .i64 s, .int .i64 x.owner, .int .i64 x.born] rfl rfl ?_
   refine wSr rfl tyapi_Call 0 rfl rfl rfl rfl [.int .i64 x.id, .int .i64 x.kind, .int .i64 x.src, .int .i64 x.dst, .int .i64 0, .int .i64 s, .int .i64 x.owner, .int .i64 x.born] (by first | rfl | (simp only [spl]; rfl)) ?_
   refine wN ?_
   refine tN (wKK hK5 ?_)
   refine wRet ?_
   exact wRc tyapi_Call rfl rfl 0 rfl rfl (fun ww H => ⟨by simp only [freeV, z1, z1o, cond_true, cond_false, Bool.not_true, Bool.not_false, Bool.true_and, Bool.and_true, Bool.false_and, Bool.and_false, Bool.true_or, Bool.or_true, Bool.false_or, Bool.or_false] <;> rfl, H.out.off⟩)
 · skip
   have z1o : (x.kind == 3) = true := neq_f z1
   refine wSk ?_
   refine tN (wKK hK3 ?_)
   refine wSeqK fun KK6 hK6 => ?_
   refine wReg ?_
   refine wLr rfl tyapi_Call 1 rfl [.int .i64 x.id, .int .i64 x.kind, .int .i64 x.src, .int .i64 x.dst, .int .i64 x.car, .int .i64 s, .int .i64 x.owner, .int .i64 x.born] rfl rfl ?_
   refine wSr rfl tyapi_Call 0 rfl rfl rfl rfl [.int .i64 x.id, .int .i64 x.kind, .int .i64 x.src, .int .i64 x.dst, .int .i64 x.car, .int .i64 s, .int .i64 x.owner, .int .i64 x.born] (by first | rfl | (simp only [spl]; rfl)) ?_
   refine wN ?_
   refine tN (wKK hK6 ?_)
   refine wRet ?_
   exact wRc tyapi_Call rfl rfl 0 rfl rfl (fun ww H => ⟨by simp only [freeV, z1, z1o, cond_true, cond_false, Bool.not_true, Bool.not_false, Bool.true_and, Bool.and_true, Bool.false_and, Bool.and_false, Bool.true_or, Bool.or_true, Bool.false_or, Bool.or_false] <;> rfl, H.out.off⟩)
def tab_toC : Wk.Tab := [(38, 5, 5)]
theorem p_toC {ops : Array Oper} {rest : List Oper} {o : Oper} {w0 : World} {Q : Exit → Act → World → Prop} {S : List Nat} {R : List Res} {K K' : Wk.Env} {N : Nat} (h : Wk.stp tab_toC N ops K o = some K') (n : Wk.Wk N S w0 K' R (wpList Try.prog ops Q rest)) : Wk.Wk N S w0 K R (wpList Try.prog ops Q (o :: rest)) := Wk.wP (T := tab_toC) (by kernel_rfl) h n
set_option maxHeartbeats 16000000 in
set_option maxRecDepth 20000 in
theorem toC (x : CallV) (s : Int) (b : Bool) (w : World) : Calls Try.prog 71 #[.agg (xA x), .int .i64 s, .bool b] w fun e w' => e = .returned (.tuple #[.agg #[.int .i64 (((toV x s b).1).id), .int .i64 (((toV x s b).1).kind), .int .i64 (((toV x s b).1).src), .int .i64 (((toV x s b).1).dst), .int .i64 (((toV x s b).1).car), .int .i64 (((toV x s b).1).state), .int .i64 (((toV x s b).1).owner), .int .i64 (((toV x s b).1).born)], .int .i64 (toV x s b).2]) ∧ Off [] w w' := by
 have H := Lib.hid (Hp.start [] w)
 refine wStart (args := [.agg (xA x), .int .i64 s, .bool b]) Try.func71 rfl rfl rfl H ?_
 clear H
 show Wk 14 _ _ [(0, .agg (xA x)), (1, .int .i64 s), (2, .bool b)] _ _
 refine wSeqK fun KK1 hK1 => ?_
 refine wReg ?_
 refine wBx rfl rfl rfl fun b3 => ?_
 refine wAl rfl rfl tyapi_Call fun b6 => ?_
 refine p_toC rfl ?_
 refine wN ?_
 refine tN (wKK hK1 ?_)
 refine wSeqK fun KK2 hK2 => ?_
 refine wSeqK fun KK3 hK3 => ?_
 refine wReg ?_
 iterate 2 refine p_toC rfl ?_
 refine wN ?_
 refine tN (wKK hK3 ?_)
 refine wCond (E := !b) rfl (fun z1 => ?_) (fun z1 => ?_)
 · skip
   have z1n : b = false := Reg.bn z1
   refine wSeqK fun KK4 hK4 => ?_
   refine wReg ?_
   refine wE (.agg (xA zeroC)) rfl rfl rfl (fun aa ww hs _ => by simp only [execOp]; go_simp <;> first | rfl | omega) ?_
   refine wSr rfl tyapi_Call 0 rfl rfl rfl rfl (xL zeroC) (by first | rfl | (simp only [spl]; rfl)) ?_
   refine p_toC rfl ?_
   refine wN ?_
   refine tN (wKK hK4 ?_)
   refine wRet ?_
   refine tR ?_
   exact wRct tyapi_Call rfl rfl rfl 0 rfl rfl (fun ww H => ⟨by simp only [toV, z1, z1n, cond_true, cond_false, Bool.not_true, Bool.not_false, Bool.true_and, Bool.and_true, Bool.false_and, Bool.and_false, Bool.true_or, Bool.or_true, Bool.false_or, Bool.or_false] <;> rfl, H.out.off⟩)
 · skip
   have z1n : b = true := Reg.bt z1
   refine wSk ?_
   refine tN (wKK hK2 ?_)
   refine wSeqK fun KK5 hK5 => ?_
   refine wReg ?_
   iterate 2 refine p_toC rfl ?_
   refine wSt rfl tyint 1 rfl rfl rfl rfl ?_
   refine wN ?_
   refine tN (wKK hK5 ?_)
   refine wSeqK fun KK6 hK6 => ?_
   refine wReg ?_
   refine wLr rfl tyapi_Call 1 rfl [.int .i64 x.id, .int .i64 x.kind, .int .i64 x.src, .int .i64 x.dst, .int .i64 x.car, .int .i64 s, .int .i64 x.owner, .int .i64 x.born] rfl rfl ?_
   refine wSr rfl tyapi_Call 0 rfl rfl rfl rfl [.int .i64 x.id, .int .i64 x.kind, .int .i64 x.src, .int .i64 x.dst, .int .i64 x.car, .int .i64 s, .int .i64 x.owner, .int .i64 x.born] (by first | rfl | (simp only [spl]; rfl)) ?_
   refine p_toC rfl ?_
   refine wN ?_
   refine tN (wKK hK6 ?_)
   refine wRet ?_
   exact wRct tyapi_Call rfl rfl rfl 0 rfl rfl (fun ww H => ⟨by simp only [toV, z1, z1n, cond_true, cond_false, Bool.not_true, Bool.not_false, Bool.true_and, Bool.and_true, Bool.false_and, Bool.and_false, Bool.true_or, Bool.or_true, Bool.false_or, Bool.or_false] <;> rfl, H.out.off⟩)
def tab_assignC : Wk.Tab := [(38, 1, 1), (38, 4, 4), (38, 5, 5)]
theorem p_assignC {ops : Array Oper} {rest : List Oper} {o : Oper} {w0 : World} {Q : Exit → Act → World → Prop} {S : List Nat} {R : List Res} {K K' : Wk.Env} {N : Nat} (h : Wk.stp tab_assignC N ops K o = some K') (n : Wk.Wk N S w0 K' R (wpList Try.prog ops Q rest)) : Wk.Wk N S w0 K R (wpList Try.prog ops Q (o :: rest)) := Wk.wP (T := tab_assignC) (by kernel_rfl) h n
set_option maxHeartbeats 16000000 in
set_option maxRecDepth 20000 in
theorem assignC (c : Cfg) (x : CallV) (n : Int) (w : World) : Calls Try.prog 103 #[.agg (cA c), .agg (xA x), .int .i64 n] w fun e w' => e = .returned (.tuple #[.agg #[.int .i64 (((assignV c x n).1).id), .int .i64 (((assignV c x n).1).kind), .int .i64 (((assignV c x n).1).src), .int .i64 (((assignV c x n).1).dst), .int .i64 (((assignV c x n).1).car), .int .i64 (((assignV c x n).1).state), .int .i64 (((assignV c x n).1).owner), .int .i64 (((assignV c x n).1).born)], .int .i64 (assignV c x n).2]) ∧ Off [] w w' := by
 have H := Lib.hid (Hp.start [] w)
 refine wStart (args := [.agg (cA c), .agg (xA x), .int .i64 n]) Try.func103 rfl rfl rfl H ?_
 clear H
 show Wk 34 _ _ [(0, .agg (cA c)), (1, .agg (xA x)), (2, .int .i64 n)] _ _
 refine wSeqK fun KK1 hK1 => ?_
 refine wReg ?_
 refine wBx rfl rfl rfl fun b3 => ?_
 refine wBx rfl rfl rfl fun b4 => ?_
 refine wAl rfl rfl tyapi_Call fun b6 => ?_
 refine p_assignC rfl ?_
 refine wN ?_
 refine tN (wKK hK1 ?_)
 refine wSeqK fun KK2 hK2 => ?_
 refine wBlk ?_
 refine wSeqK fun KK3 hK3 => ?_
 refine wReg ?_
 refine p_assignC rfl ?_
 refine wLd rfl tyint 1 rfl rfl ?_
 iterate 2 refine p_assignC rfl ?_
 refine wN ?_
 refine tN (wKK hK3 ?_)
 refine wCond (E := x.state != 1) rfl (fun z1 => ?_) (fun z1 => ?_)
 · skip
   have z1o : (x.state == 1) = false := neq_t z1
   refine wSeqK fun KK4 hK4 => ?_
   refine wReg ?_
   refine wE (.agg (xA zeroC)) rfl rfl rfl (fun aa ww hs _ => by simp only [execOp]; go_simp <;> first | rfl | omega) ?_
   refine wSr rfl tyapi_Call 0 rfl rfl rfl rfl (xL zeroC) (by first | rfl | (simp only [spl]; rfl)) ?_
   refine p_assignC rfl ?_
   refine wN ?_
   refine tN (wKK hK4 ?_)
   refine wRet ?_
   refine bR (tR ?_)
   exact wRct tyapi_Call rfl rfl rfl 0 rfl rfl (fun ww H => ⟨by simp only [assignV, z1, z1o, cond_true, cond_false, Bool.not_true, Bool.not_false, Bool.true_and, Bool.and_true, Bool.false_and, Bool.and_false, Bool.true_or, Bool.or_true, Bool.false_or, Bool.or_false] <;> rfl, H.out.off⟩)
 · skip
   have z1o : (x.state == 1) = true := neq_f z1
   refine wSeqK fun KK5 hK5 => ?_
   refine wReg ?_
   refine wLr rfl tyapi_Config 2 rfl (cL c) rfl rfl ?_
   refine p_assignC rfl ?_
   refine wQ (l := [.agg (cA c), .int .i64 n]) Try.func48 rfl (by kernel_rfl) (.bool (carV c n)) (fun wc H => isCar c n wc) rfl rfl rfl rfl ?_
   iterate 2 refine p_assignC rfl ?_
   refine wCut 10 [(28, .bool ((!(carV c n)) || ((x.kind == 3) && (x.car != n)))), (0, .agg (cA c)), (1, .agg (xA x)), (2, .int .i64 n), (3, .pointer (some ⟨b3, 0, none⟩)), (4, .pointer (some ⟨b4, 0, none⟩)), (6, .pointer (some ⟨b6, 0, none⟩)), (7, .int .i64 0), (8, .bool (x.state != 1))] ?_ ?_
   · intro KK hKK
     rcases Bool.eq_false_or_eq_true (!(carV c n)) with u2 | u2
     · skip
       refine wB (c := true) 18 rfl u2 ?_
       iterate 9 refine p_assignC rfl ?_
       refine p_assignC rfl ?_
       refine wB (c := (!(carV c n)) || ((x.kind == 3) && (x.car != n))) 28 rfl (by rw [u2]; rfl) ?_
       refine wN (tN ?_)
       exact fun aa ww nn dd hs H => hKK aa ww nn dd (sat_sub ⟨rfl, rfl, rfl, rfl, rfl, rfl, rfl, rfl, rfl, trivial⟩ hs) H
     · skip
       refine wB (c := false) 18 rfl u2 ?_
       refine p_assignC rfl ?_
       refine wLd rfl tyint 1 rfl rfl ?_
       iterate 2 refine p_assignC rfl ?_
       refine wCut 5 [(27, .bool ((x.kind == 3) && (x.car != n))), (0, .agg (cA c)), (1, .agg (xA x)), (2, .int .i64 n), (3, .pointer (some ⟨b3, 0, none⟩)), (4, .pointer (some ⟨b4, 0, none⟩)), (6, .pointer (some ⟨b6, 0, none⟩)), (7, .int .i64 0), (8, .bool (x.state != 1)), (18, .bool false)] ?_ ?_
       · intro KK hKK
         rcases Bool.eq_false_or_eq_true (x.kind == 3) with u3 | u3
         · skip
           refine wB (c := true) 22 rfl u3 ?_
           refine p_assignC rfl ?_
           refine wLd rfl tyint 1 rfl rfl ?_
           iterate 2 refine p_assignC rfl ?_
           refine p_assignC rfl ?_
           refine wB (c := (x.kind == 3) && (x.car != n)) 27 rfl (by rw [u3]; rfl) ?_
           refine wN (tN ?_)
           exact fun aa ww nn dd hs H => hKK aa ww nn dd (sat_sub ⟨rfl, rfl, rfl, rfl, rfl, rfl, rfl, rfl, rfl, rfl, trivial⟩ hs) H
         · skip
           refine wB (c := false) 22 rfl u3 ?_
           iterate 4 refine p_assignC rfl ?_
           refine p_assignC rfl ?_
           refine wB (c := (x.kind == 3) && (x.car != n)) 27 rfl (by rw [u3]; rfl) ?_
           refine wN (tN ?_)
           exact fun aa ww nn dd hs H => hKK aa ww nn dd (sat_sub ⟨rfl, rfl, rfl, rfl, rfl, rfl, rfl, rfl, rfl, rfl, trivial⟩ hs) H
       refine p_assignC rfl ?_
       refine wB (c := (!(carV c n)) || ((x.kind == 3) && (x.car != n))) 28 rfl (by rw [u2]; rfl) ?_
       refine wN (tN ?_)
       exact fun aa ww nn dd hs H => hKK aa ww nn dd (sat_sub ⟨rfl, rfl, rfl, rfl, rfl, rfl, rfl, rfl, rfl, trivial⟩ hs) H
   refine p_assignC rfl ?_
   refine wN ?_
   refine tN (wKK hK5 ?_)
   refine wCond (E := (!(carV c n)) || ((x.kind == 3) && (x.car != n))) rfl (fun z4 => ?_) (fun z4 => ?_)
   · skip
     refine wSeqK fun KK6 hK6 => ?_
     refine wReg ?_
     refine wE (.agg (xA zeroC)) rfl rfl rfl (fun aa ww hs _ => by simp only [execOp]; go_simp <;> first | rfl | omega) ?_
     refine wSr rfl tyapi_Call 0 rfl rfl rfl rfl (xL zeroC) (by first | rfl | (simp only [spl]; rfl)) ?_
     refine p_assignC rfl ?_
     refine wN ?_
     refine tN (wKK hK6 ?_)
     refine wRet ?_
     refine bR (tR ?_)
     exact wRct tyapi_Call rfl rfl rfl 0 rfl rfl (fun ww H => ⟨by simp only [assignV, z1, z1o, z4, cond_true, cond_false, Bool.not_true, Bool.not_false, Bool.true_and, Bool.and_true, Bool.false_and, Bool.and_false, Bool.true_or, Bool.or_true, Bool.false_or, Bool.or_false] <;> rfl, H.out.off⟩)
   · skip
     have z4l : (!(carV c n)) = false := Reg.ol z4
     have z4ln : (carV c n) = true := Reg.bt z4l
     have z4r : ((x.kind == 3) && (x.car != n)) = false := Reg.orr z4
     refine wSk ?_
     refine bN (tN (wKK hK2 ?_))
     refine wSeqK fun KK7 hK7 => ?_
     refine wReg ?_
     iterate 2 refine p_assignC rfl ?_
     refine wSt rfl tyint 1 rfl rfl rfl rfl ?_
     refine p_assignC rfl ?_
     refine wSt rfl tyint 1 rfl rfl rfl rfl ?_
     refine wN ?_
     refine tN (wKK hK7 ?_)
     refine wSeqK fun KK8 hK8 => ?_
     refine wReg ?_
     refine wLr rfl tyapi_Call 1 rfl [.int .i64 x.id, .int .i64 x.kind, .int .i64 x.src, .int .i64 x.dst, .int .i64 n, .int .i64 2, .int .i64 x.owner, .int .i64 x.born] rfl rfl ?_
     refine wSr rfl tyapi_Call 0 rfl rfl rfl rfl [.int .i64 x.id, .int .i64 x.kind, .int .i64 x.src, .int .i64 x.dst, .int .i64 n, .int .i64 2, .int .i64 x.owner, .int .i64 x.born] (by first | rfl | (simp only [spl]; rfl)) ?_
     refine p_assignC rfl ?_
     refine wN ?_
     refine tN (wKK hK8 ?_)
     refine wRet ?_
     exact wRct tyapi_Call rfl rfl rfl 0 rfl rfl (fun ww H => ⟨by simp only [assignV, z1, z1o, z4, z4l, z4ln, z4r, cond_true, cond_false, Bool.not_true, Bool.not_false, Bool.true_and, Bool.and_true, Bool.false_and, Bool.and_false, Bool.true_or, Bool.or_true, Bool.false_or, Bool.or_false] <;> rfl, H.out.off⟩)
def tab_boardC : Wk.Tab := [(38, 1, 1), (38, 5, 5)]
theorem p_boardC {ops : Array Oper} {rest : List Oper} {o : Oper} {w0 : World} {Q : Exit → Act → World → Prop} {S : List Nat} {R : List Res} {K K' : Wk.Env} {N : Nat} (h : Wk.stp tab_boardC N ops K o = some K') (n : Wk.Wk N S w0 K' R (wpList Try.prog ops Q rest)) : Wk.Wk N S w0 K R (wpList Try.prog ops Q (o :: rest)) := Wk.wP (T := tab_boardC) (by kernel_rfl) h n
set_option maxHeartbeats 16000000 in
set_option maxRecDepth 20000 in
theorem boardC (x : CallV) (w : World) : Calls Try.prog 104 #[.agg (xA x)] w fun e w' => e = .returned (.tuple #[.agg #[.int .i64 (((boardV x).1).id), .int .i64 (((boardV x).1).kind), .int .i64 (((boardV x).1).src), .int .i64 (((boardV x).1).dst), .int .i64 (((boardV x).1).car), .int .i64 (((boardV x).1).state), .int .i64 (((boardV x).1).owner), .int .i64 (((boardV x).1).born)], .int .i64 (boardV x).2]) ∧ Off [] w w' := by
 have H := Lib.hid (Hp.start [] w)
 refine wStart (args := [.agg (xA x)]) Try.func104 rfl rfl rfl H ?_
 clear H
 show Wk 16 _ _ [(0, .agg (xA x))] _ _
 refine wSeqK fun KK1 hK1 => ?_
 refine wReg ?_
 refine wBx rfl rfl rfl fun b1 => ?_
 refine wAl rfl rfl tyapi_Call fun b2 => ?_
 refine p_boardC rfl ?_
 refine wN ?_
 refine tN (wKK hK1 ?_)
 refine wSeqK fun KK2 hK2 => ?_
 refine wReg ?_
 refine wLr rfl tyapi_Call 1 rfl (xL x) rfl rfl ?_
 refine p_boardC rfl ?_
 refine wLd rfl tyint 1 rfl rfl ?_
 iterate 2 refine p_boardC rfl ?_
 refine wCut 4 [(12, .bool ((x.state == 2) && (x.kind == 4))), (0, .agg (xA x)), (1, .pointer (some ⟨b1, 0, none⟩)), (2, .pointer (some ⟨b2, 0, none⟩)), (3, .int .i64 0), (4, .agg (xA x))] ?_ ?_
 · intro KK hKK
   rcases Bool.eq_false_or_eq_true (x.state == 2) with u1 | u1
   · skip
     refine wB (c := true) 8 rfl u1 ?_
     refine p_boardC rfl ?_
     refine wLd rfl tyint 1 rfl rfl ?_
     refine p_boardC rfl ?_
     refine p_boardC rfl ?_
     refine wB (c := (x.state == 2) && (x.kind == 4)) 12 rfl (by rw [u1]; rfl) ?_
     refine wN (tN ?_)
     exact fun aa ww nn dd hs H => hKK aa ww nn dd (sat_sub ⟨rfl, rfl, rfl, rfl, rfl, rfl, trivial⟩ hs) H
   · skip
     refine wB (c := false) 8 rfl u1 ?_
     iterate 3 refine p_boardC rfl ?_
     refine p_boardC rfl ?_
     refine wB (c := (x.state == 2) && (x.kind == 4)) 12 rfl (by rw [u1]; rfl) ?_
     refine wN (tN ?_)
     exact fun aa ww nn dd hs H => hKK aa ww nn dd (sat_sub ⟨rfl, rfl, rfl, rfl, rfl, rfl, trivial⟩ hs) H
 refine wQ (l := [.agg (xA x), .int .i64 3, .bool ((x.state == 2) && (x.kind == 4))]) Try.func71 rfl (by kernel_rfl) (.tuple #[.agg (xA ((toV x 3 ((x.state == 2) && (x.kind == 4))).1)), .int .i64 ((toV x 3 ((x.state == 2) && (x.kind == 4))).2)]) (fun wc H => toC x 3 ((x.state == 2) && (x.kind == 4)) wc) rfl rfl rfl rfl ?_
 iterate 2 refine p_boardC rfl ?_
 refine wSr rfl tyapi_Call 0 rfl rfl rfl rfl (xL ((toV x 3 ((x.state == 2) && (x.kind == 4))).1)) (by first | rfl | (simp only [spl]; rfl)) ?_
 refine p_boardC rfl ?_
 refine wN ?_
 refine tN (wKK hK2 ?_)
 refine wRet ?_
 exact wRct tyapi_Call rfl rfl rfl 0 rfl rfl (fun ww H => ⟨rfl, H.out.off⟩)
def tab_serveC : Wk.Tab := [(38, 1, 1), (38, 5, 5)]
theorem p_serveC {ops : Array Oper} {rest : List Oper} {o : Oper} {w0 : World} {Q : Exit → Act → World → Prop} {S : List Nat} {R : List Res} {K K' : Wk.Env} {N : Nat} (h : Wk.stp tab_serveC N ops K o = some K') (n : Wk.Wk N S w0 K' R (wpList Try.prog ops Q rest)) : Wk.Wk N S w0 K R (wpList Try.prog ops Q (o :: rest)) := Wk.wP (T := tab_serveC) (by kernel_rfl) h n
set_option maxHeartbeats 16000000 in
set_option maxRecDepth 20000 in
theorem serveC (x : CallV) (w : World) : Calls Try.prog 105 #[.agg (xA x)] w fun e w' => e = .returned (.tuple #[.agg #[.int .i64 (((serveV x).1).id), .int .i64 (((serveV x).1).kind), .int .i64 (((serveV x).1).src), .int .i64 (((serveV x).1).dst), .int .i64 (((serveV x).1).car), .int .i64 (((serveV x).1).state), .int .i64 (((serveV x).1).owner), .int .i64 (((serveV x).1).born)], .int .i64 (serveV x).2]) ∧ Off [] w w' := by
 have H := Lib.hid (Hp.start [] w)
 refine wStart (args := [.agg (xA x)]) Try.func105 rfl rfl rfl H ?_
 clear H
 show Wk 21 _ _ [(0, .agg (xA x))] _ _
 refine wSeqK fun KK1 hK1 => ?_
 refine wReg ?_
 refine wBx rfl rfl rfl fun b1 => ?_
 refine wAl rfl rfl tyapi_Call fun b2 => ?_
 refine p_serveC rfl ?_
 refine wN ?_
 refine tN (wKK hK1 ?_)
 refine wSeqK fun KK2 hK2 => ?_
 refine wReg ?_
 refine wLr rfl tyapi_Call 1 rfl (xL x) rfl rfl ?_
 refine p_serveC rfl ?_
 refine wLd rfl tyint 1 rfl rfl ?_
 iterate 2 refine p_serveC rfl ?_
 refine wCut 9 [(17, .bool ((x.state == 3) || ((x.state == 2) && (x.kind != 4)))), (0, .agg (xA x)), (1, .pointer (some ⟨b1, 0, none⟩)), (2, .pointer (some ⟨b2, 0, none⟩)), (3, .int .i64 0), (4, .agg (xA x))] ?_ ?_
 · intro KK hKK
   rcases Bool.eq_false_or_eq_true (x.state == 3) with u1 | u1
   · skip
     refine wB (c := true) 8 rfl u1 ?_
     iterate 8 refine p_serveC rfl ?_
     refine p_serveC rfl ?_
     refine wB (c := (x.state == 3) || ((x.state == 2) && (x.kind != 4))) 17 rfl (by rw [u1]; rfl) ?_
     refine wN (tN ?_)
     exact fun aa ww nn dd hs H => hKK aa ww nn dd (sat_sub ⟨rfl, rfl, rfl, rfl, rfl, rfl, trivial⟩ hs) H
   · skip
     refine wB (c := false) 8 rfl u1 ?_
     refine p_serveC rfl ?_
     refine wLd rfl tyint 1 rfl rfl ?_
     iterate 2 refine p_serveC rfl ?_
     refine wCut 4 [(16, .bool ((x.state == 2) && (x.kind != 4))), (0, .agg (xA x)), (1, .pointer (some ⟨b1, 0, none⟩)), (2, .pointer (some ⟨b2, 0, none⟩)), (3, .int .i64 0), (4, .agg (xA x)), (8, .bool false)] ?_ ?_
     · intro KK hKK
       rcases Bool.eq_false_or_eq_true (x.state == 2) with u2 | u2
       · skip
         refine wB (c := true) 12 rfl u2 ?_
         refine p_serveC rfl ?_
         refine wLd rfl tyint 1 rfl rfl ?_
         refine p_serveC rfl ?_
         refine p_serveC rfl ?_
         refine wB (c := (x.state == 2) && (x.kind != 4)) 16 rfl (by rw [u2]; rfl) ?_
         refine wN (tN ?_)
         exact fun aa ww nn dd hs H => hKK aa ww nn dd (sat_sub ⟨rfl, rfl, rfl, rfl, rfl, rfl, rfl, trivial⟩ hs) H
       · skip
         refine wB (c := false) 12 rfl u2 ?_
         iterate 3 refine p_serveC rfl ?_
         refine p_serveC rfl ?_
         refine wB (c := (x.state == 2) && (x.kind != 4)) 16 rfl (by rw [u2]; rfl) ?_
         refine wN (tN ?_)
         exact fun aa ww nn dd hs H => hKK aa ww nn dd (sat_sub ⟨rfl, rfl, rfl, rfl, rfl, rfl, rfl, trivial⟩ hs) H
     refine p_serveC rfl ?_
     refine wB (c := (x.state == 3) || ((x.state == 2) && (x.kind != 4))) 17 rfl (by rw [u1]; rfl) ?_
     refine wN (tN ?_)
     exact fun aa ww nn dd hs H => hKK aa ww nn dd (sat_sub ⟨rfl, rfl, rfl, rfl, rfl, rfl, trivial⟩ hs) H
 refine wQ (l := [.agg (xA x), .int .i64 4, .bool ((x.state == 3) || ((x.state == 2) && (x.kind != 4)))]) Try.func71 rfl (by kernel_rfl) (.tuple #[.agg (xA ((toV x 4 ((x.state == 3) || ((x.state == 2) && (x.kind != 4)))).1)), .int .i64 ((toV x 4 ((x.state == 3) || ((x.state == 2) && (x.kind != 4)))).2)]) (fun wc H => toC x 4 ((x.state == 3) || ((x.state == 2) && (x.kind != 4))) wc) rfl rfl rfl rfl ?_
 iterate 2 refine p_serveC rfl ?_
 refine wSr rfl tyapi_Call 0 rfl rfl rfl rfl (xL ((toV x 4 ((x.state == 3) || ((x.state == 2) && (x.kind != 4)))).1)) (by first | rfl | (simp only [spl]; rfl)) ?_
 refine p_serveC rfl ?_
 refine wN ?_
 refine tN (wKK hK2 ?_)
 refine wRet ?_
 exact wRct tyapi_Call rfl rfl rfl 0 rfl rfl (fun ww H => ⟨rfl, H.out.off⟩)
def tab_cancelC : Wk.Tab := [(38, 5, 5)]
theorem p_cancelC {ops : Array Oper} {rest : List Oper} {o : Oper} {w0 : World} {Q : Exit → Act → World → Prop} {S : List Nat} {R : List Res} {K K' : Wk.Env} {N : Nat} (h : Wk.stp tab_cancelC N ops K o = some K') (n : Wk.Wk N S w0 K' R (wpList Try.prog ops Q rest)) : Wk.Wk N S w0 K R (wpList Try.prog ops Q (o :: rest)) := Wk.wP (T := tab_cancelC) (by kernel_rfl) h n
set_option maxHeartbeats 16000000 in
set_option maxRecDepth 20000 in
theorem cancelC (x : CallV) (w : World) : Calls Try.prog 47 #[.agg (xA x)] w fun e w' => e = .returned (.tuple #[.agg #[.int .i64 (((cancelV x).1).id), .int .i64 (((cancelV x).1).kind), .int .i64 (((cancelV x).1).src), .int .i64 (((cancelV x).1).dst), .int .i64 (((cancelV x).1).car), .int .i64 (((cancelV x).1).state), .int .i64 (((cancelV x).1).owner), .int .i64 (((cancelV x).1).born)], .int .i64 (cancelV x).2]) ∧ Off [] w w' := by
 have H := Lib.hid (Hp.start [] w)
 refine wStart (args := [.agg (xA x)]) Try.func47 rfl rfl rfl H ?_
 clear H
 show Wk 16 _ _ [(0, .agg (xA x))] _ _
 refine wSeqK fun KK1 hK1 => ?_
 refine wReg ?_
 refine wBx rfl rfl rfl fun b1 => ?_
 refine wAl rfl rfl tyapi_Call fun b2 => ?_
 refine p_cancelC rfl ?_
 refine wN ?_
 refine tN (wKK hK1 ?_)
 refine wSeqK fun KK2 hK2 => ?_
 refine wReg ?_
 refine wLr rfl tyapi_Call 1 rfl (xL x) rfl rfl ?_
 refine p_cancelC rfl ?_
 refine wLd rfl tyint 1 rfl rfl ?_
 iterate 2 refine p_cancelC rfl ?_
 refine wCut 4 [(12, .bool ((x.state == 1) || (x.state == 2))), (0, .agg (xA x)), (1, .pointer (some ⟨b1, 0, none⟩)), (2, .pointer (some ⟨b2, 0, none⟩)), (3, .int .i64 0), (4, .agg (xA x))] ?_ ?_
 · intro KK hKK
   rcases Bool.eq_false_or_eq_true (x.state == 1) with u1 | u1
   · skip
     refine wB (c := true) 8 rfl u1 ?_
     iterate 3 refine p_cancelC rfl ?_
     refine p_cancelC rfl ?_
     refine wB (c := (x.state == 1) || (x.state == 2)) 12 rfl (by rw [u1]; rfl) ?_
     refine wN (tN ?_)
     exact fun aa ww nn dd hs H => hKK aa ww nn dd (sat_sub ⟨rfl, rfl, rfl, rfl, rfl, rfl, trivial⟩ hs) H
   · skip
     refine wB (c := false) 8 rfl u1 ?_
     refine p_cancelC rfl ?_
     refine wLd rfl tyint 1 rfl rfl ?_
     refine p_cancelC rfl ?_
     refine p_cancelC rfl ?_
     refine wB (c := (x.state == 1) || (x.state == 2)) 12 rfl (by rw [u1]; rfl) ?_
     refine wN (tN ?_)
     exact fun aa ww nn dd hs H => hKK aa ww nn dd (sat_sub ⟨rfl, rfl, rfl, rfl, rfl, rfl, trivial⟩ hs) H
 refine wQ (l := [.agg (xA x), .int .i64 5, .bool ((x.state == 1) || (x.state == 2))]) Try.func71 rfl (by kernel_rfl) (.tuple #[.agg (xA ((toV x 5 ((x.state == 1) || (x.state == 2))).1)), .int .i64 ((toV x 5 ((x.state == 1) || (x.state == 2))).2)]) (fun wc H => toC x 5 ((x.state == 1) || (x.state == 2)) wc) rfl rfl rfl rfl ?_
 iterate 2 refine p_cancelC rfl ?_
 refine wSr rfl tyapi_Call 0 rfl rfl rfl rfl (xL ((toV x 5 ((x.state == 1) || (x.state == 2))).1)) (by first | rfl | (simp only [spl]; rfl)) ?_
 refine p_cancelC rfl ?_
 refine wN ?_
 refine tN (wKK hK2 ?_)
 refine wRet ?_
 exact wRct tyapi_Call rfl rfl rfl 0 rfl rfl (fun ww H => ⟨rfl, H.out.off⟩)
def tab_expireC : Wk.Tab := [(38, 5, 5)]
theorem p_expireC {ops : Array Oper} {rest : List Oper} {o : Oper} {w0 : World} {Q : Exit → Act → World → Prop} {S : List Nat} {R : List Res} {K K' : Wk.Env} {N : Nat} (h : Wk.stp tab_expireC N ops K o = some K') (n : Wk.Wk N S w0 K' R (wpList Try.prog ops Q rest)) : Wk.Wk N S w0 K R (wpList Try.prog ops Q (o :: rest)) := Wk.wP (T := tab_expireC) (by kernel_rfl) h n
set_option maxHeartbeats 16000000 in
set_option maxRecDepth 20000 in
theorem expireC (x : CallV) (w : World) : Calls Try.prog 106 #[.agg (xA x)] w fun e w' => e = .returned (.tuple #[.agg #[.int .i64 (((expireV x).1).id), .int .i64 (((expireV x).1).kind), .int .i64 (((expireV x).1).src), .int .i64 (((expireV x).1).dst), .int .i64 (((expireV x).1).car), .int .i64 (((expireV x).1).state), .int .i64 (((expireV x).1).owner), .int .i64 (((expireV x).1).born)], .int .i64 (expireV x).2]) ∧ Off [] w w' := by
 have H := Lib.hid (Hp.start [] w)
 refine wStart (args := [.agg (xA x)]) Try.func106 rfl rfl rfl H ?_
 clear H
 show Wk 10 _ _ [(0, .agg (xA x))] _ _
 refine wSeqK fun KK1 hK1 => ?_
 refine wReg ?_
 refine wBx rfl rfl rfl fun b1 => ?_
 refine wAl rfl rfl tyapi_Call fun b2 => ?_
 refine p_expireC rfl ?_
 refine wN ?_
 refine tN (wKK hK1 ?_)
 refine wSeqK fun KK2 hK2 => ?_
 refine wSeqK fun KK3 hK3 => ?_
 refine wReg ?_
 refine p_expireC rfl ?_
 refine wLd rfl tyint 1 rfl rfl ?_
 refine p_expireC rfl ?_
 refine wN ?_
 refine tN (wKK hK3 ?_)
 refine wCond (E := x.state != 1) rfl (fun z1 => ?_) (fun z1 => ?_)
 · skip
   have z1o : (x.state == 1) = false := neq_t z1
   refine wSeqK fun KK4 hK4 => ?_
   refine wReg ?_
   refine wE (.agg (xA zeroC)) rfl rfl rfl (fun aa ww hs _ => by simp only [execOp]; go_simp <;> first | rfl | omega) ?_
   refine wSr rfl tyapi_Call 0 rfl rfl rfl rfl (xL zeroC) (by first | rfl | (simp only [spl]; rfl)) ?_
   refine p_expireC rfl ?_
   refine wN ?_
   refine tN (wKK hK4 ?_)
   refine wRet ?_
   refine tR ?_
   exact wRct tyapi_Call rfl rfl rfl 0 rfl rfl (fun ww H => ⟨by simp only [expireV, z1, z1o, cond_true, cond_false, Bool.not_true, Bool.not_false, Bool.true_and, Bool.and_true, Bool.false_and, Bool.and_false, Bool.true_or, Bool.or_true, Bool.false_or, Bool.or_false] <;> rfl, H.out.off⟩)
 · skip
   have z1o : (x.state == 1) = true := neq_f z1
   refine wSk ?_
   refine tN (wKK hK2 ?_)
   refine wSeqK fun KK5 hK5 => ?_
   refine wReg ?_
   refine wLr rfl tyapi_Call 1 rfl (xL x) rfl rfl ?_
   refine wQ (l := [.agg (xA x), .int .i64 6]) Try.func115 rfl (by kernel_rfl) (.agg (xA (freeV x 6))) (fun wc H => freeC x 6 wc) rfl rfl rfl rfl ?_
   refine wSr rfl tyapi_Call 0 rfl rfl rfl rfl (xL (freeV x 6)) (by first | rfl | (simp only [spl]; rfl)) ?_
   refine p_expireC rfl ?_
   refine wN ?_
   refine tN (wKK hK5 ?_)
   refine wRet ?_
   exact wRct tyapi_Call rfl rfl rfl 0 rfl rfl (fun ww H => ⟨by simp only [expireV, z1, z1o, cond_true, cond_false, Bool.not_true, Bool.not_false, Bool.true_and, Bool.and_true, Bool.false_and, Bool.and_false, Bool.true_or, Bool.or_true, Bool.false_or, Bool.or_false] <;> rfl, H.out.off⟩)
def tab_leaveC : Wk.Tab := [(38, 2, 2), (38, 3, 3), (38, 5, 5)]
theorem p_leaveC {ops : Array Oper} {rest : List Oper} {o : Oper} {w0 : World} {Q : Exit → Act → World → Prop} {S : List Nat} {R : List Res} {K K' : Wk.Env} {N : Nat} (h : Wk.stp tab_leaveC N ops K o = some K') (n : Wk.Wk N S w0 K' R (wpList Try.prog ops Q rest)) : Wk.Wk N S w0 K R (wpList Try.prog ops Q (o :: rest)) := Wk.wP (T := tab_leaveC) (by kernel_rfl) h n
set_option maxHeartbeats 16000000 in
set_option maxRecDepth 20000 in
theorem leaveC (c : Cfg) (x : CallV) (n : Int) (w : World) : Calls Try.prog 116 #[.agg (cA c), .agg (xA x), .int .i64 n] w fun e w' => e = .returned (.tuple #[.agg #[.int .i64 (((leaveV c x n).1).id), .int .i64 (((leaveV c x n).1).kind), .int .i64 (((leaveV c x n).1).src), .int .i64 (((leaveV c x n).1).dst), .int .i64 (((leaveV c x n).1).car), .int .i64 (((leaveV c x n).1).state), .int .i64 (((leaveV c x n).1).owner), .int .i64 (((leaveV c x n).1).born)], .int .i64 (leaveV c x n).2]) ∧ Off [] w w' := by
 have H := Lib.hid (Hp.start [] w)
 refine wStart (args := [.agg (cA c), .agg (xA x), .int .i64 n]) Try.func116 rfl rfl rfl H ?_
 clear H
 show Wk 41 _ _ [(0, .agg (cA c)), (1, .agg (xA x)), (2, .int .i64 n)] _ _
 refine wSeqK fun KK1 hK1 => ?_
 refine wReg ?_
 refine wBx rfl rfl rfl fun b3 => ?_
 refine wBx rfl rfl rfl fun b4 => ?_
 refine wAl rfl rfl tyapi_Call fun b6 => ?_
 refine p_leaveC rfl ?_
 refine wN ?_
 refine tN (wKK hK1 ?_)
 refine wSeqK fun KK2 hK2 => ?_
 refine wBlk ?_
 refine wSeqK fun KK3 hK3 => ?_
 refine wReg ?_
 refine p_leaveC rfl ?_
 refine wLd rfl tyint 1 rfl rfl ?_
 iterate 2 refine p_leaveC rfl ?_
 refine wCut 4 [(16, .bool ((x.state != 2) && (x.state != 3))), (0, .agg (cA c)), (1, .agg (xA x)), (2, .int .i64 n), (3, .pointer (some ⟨b3, 0, none⟩)), (4, .pointer (some ⟨b4, 0, none⟩)), (6, .pointer (some ⟨b6, 0, none⟩)), (7, .int .i64 0)] ?_ ?_
 · intro KK hKK
   rcases Bool.eq_false_or_eq_true (x.state != 2) with u1 | u1
   · skip
     refine wB (c := true) 12 rfl u1 ?_
     refine p_leaveC rfl ?_
     refine wLd rfl tyint 1 rfl rfl ?_
     refine p_leaveC rfl ?_
     refine p_leaveC rfl ?_
     refine wB (c := (x.state != 2) && (x.state != 3)) 16 rfl (by rw [u1]; rfl) ?_
     refine wN (tN ?_)
     exact fun aa ww nn dd hs H => hKK aa ww nn dd (sat_sub ⟨rfl, rfl, rfl, rfl, rfl, rfl, rfl, rfl, trivial⟩ hs) H
   · skip
     refine wB (c := false) 12 rfl u1 ?_
     iterate 3 refine p_leaveC rfl ?_
     refine p_leaveC rfl ?_
     refine wB (c := (x.state != 2) && (x.state != 3)) 16 rfl (by rw [u1]; rfl) ?_
     refine wN (tN ?_)
     exact fun aa ww nn dd hs H => hKK aa ww nn dd (sat_sub ⟨rfl, rfl, rfl, rfl, rfl, rfl, rfl, rfl, trivial⟩ hs) H
 refine p_leaveC rfl ?_
 refine wN ?_
 refine tN (wKK hK3 ?_)
 refine wCond (E := (x.state != 2) && (x.state != 3)) rfl (fun z2 => ?_) (fun z2 => ?_)
 · skip
   have z2l : (x.state != 2) = true := Reg.bl z2
   have z2lo : (x.state == 2) = false := neq_t z2l
   have z2r : (x.state != 3) = true := Reg.br z2
   have z2ro : (x.state == 3) = false := neq_t z2r
   refine wSeqK fun KK4 hK4 => ?_
   refine wReg ?_
   refine wE (.agg (xA zeroC)) rfl rfl rfl (fun aa ww hs _ => by simp only [execOp]; go_simp <;> first | rfl | omega) ?_
   refine wSr rfl tyapi_Call 0 rfl rfl rfl rfl (xL zeroC) (by first | rfl | (simp only [spl]; rfl)) ?_
   refine p_leaveC rfl ?_
   refine wN ?_
   refine tN (wKK hK4 ?_)
   refine wRet ?_
   refine bR (tR ?_)
   exact wRct tyapi_Call rfl rfl rfl 0 rfl rfl (fun ww H => ⟨by simp only [leaveV, z2, z2l, z2lo, z2r, z2ro, cond_true, cond_false, Bool.not_true, Bool.not_false, Bool.true_and, Bool.and_true, Bool.false_and, Bool.and_false, Bool.true_or, Bool.or_true, Bool.false_or, Bool.or_false] <;> rfl, H.out.off⟩)
 · skip
   refine wSeqK fun KK5 hK5 => ?_
   refine wReg ?_
   refine wLr rfl tyapi_Config 2 rfl (cL c) rfl rfl ?_
   refine p_leaveC rfl ?_
   refine wQ (l := [.agg (cA c), .int .i64 n]) Try.func112 rfl (by kernel_rfl) (.bool (floorV c n)) (fun wc H => isFloor c n wc) rfl rfl rfl rfl ?_
   iterate 2 refine p_leaveC rfl ?_
   refine wN ?_
   refine tN (wKK hK5 ?_)
   refine wCond (E := !(floorV c n)) rfl (fun z3 => ?_) (fun z3 => ?_)
   · skip
     have z3n : (floorV c n) = false := Reg.bn z3
     refine wSeqK fun KK6 hK6 => ?_
     refine wReg ?_
     refine wE (.agg (xA zeroC)) rfl rfl rfl (fun aa ww hs _ => by simp only [execOp]; go_simp <;> first | rfl | omega) ?_
     refine wSr rfl tyapi_Call 0 rfl rfl rfl rfl (xL zeroC) (by first | rfl | (simp only [spl]; rfl)) ?_
     refine p_leaveC rfl ?_
     refine wN ?_
     refine tN (wKK hK6 ?_)
     refine wRet ?_
     refine bR (tR ?_)
     exact wRct tyapi_Call rfl rfl rfl 0 rfl rfl (fun ww H => ⟨by simp only [leaveV, z2, z3, z3n, cond_true, cond_false, Bool.not_true, Bool.not_false, Bool.true_and, Bool.and_true, Bool.false_and, Bool.and_false, Bool.true_or, Bool.or_true, Bool.false_or, Bool.or_false] <;> rfl, H.out.off⟩)
   · skip
     have z3n : (floorV c n) = true := Reg.bt z3
     refine wSeqK fun KK7 hK7 => ?_
     refine wReg ?_
     refine p_leaveC rfl ?_
     refine wLd rfl tyint 1 rfl rfl ?_
     iterate 2 refine p_leaveC rfl ?_
     refine wN ?_
     refine tN (wKK hK7 ?_)
     refine wCond (E := x.state == 2) rfl (fun z4 => ?_) (fun z4 => ?_)
     · skip
       have z4o : (x.state != 2) = false := eqq_t z4
       refine wSeqK fun KK8 hK8 => ?_
       refine wReg ?_
       refine wLr rfl tyapi_Call 1 rfl (xL x) rfl rfl ?_
       refine wQ (l := [.agg (xA x), .int .i64 1]) Try.func115 rfl (by kernel_rfl) (.agg (xA (freeV x 1))) (fun wc H => freeC x 1 wc) rfl rfl rfl rfl ?_
       refine wSr rfl tyapi_Call 0 rfl rfl rfl rfl (xL (freeV x 1)) (by first | rfl | (simp only [spl]; rfl)) ?_
       refine p_leaveC rfl ?_
       refine wN ?_
       refine tN (wKK hK8 ?_)
       refine wRet ?_
       refine bR (tR ?_)
       exact wRct tyapi_Call rfl rfl rfl 0 rfl rfl (fun ww H => ⟨by simp only [leaveV, z2, z3, z3n, z4, z4o, cond_true, cond_false, Bool.not_true, Bool.not_false, Bool.true_and, Bool.and_true, Bool.false_and, Bool.and_false, Bool.true_or, Bool.or_true, Bool.false_or, Bool.or_false] <;> rfl, H.out.off⟩)
     · skip
       have z4o : (x.state != 2) = true := eqq_f z4
       have z2c1 : (x.state != 3) = false := af1 z2 z4o
       have z2c1o : (x.state == 3) = true := neq_f z2c1
       refine wSeqK fun KK9 hK9 => ?_
       refine wReg ?_
       refine p_leaveC rfl ?_
       refine wLd rfl tyint 1 rfl rfl ?_
       iterate 3 refine p_leaveC rfl ?_
       refine wN ?_
       refine tN (wKK hK9 ?_)
       refine wCond (E := x.dst == n) rfl (fun z5 => ?_) (fun z5 => ?_)
       · skip
         have z5o : (x.dst != n) = false := eqq_t z5
         refine wSeqK fun KK10 hK10 => ?_
         refine wReg ?_
         refine p_leaveC rfl ?_
         refine wSt rfl tyint 1 rfl rfl rfl rfl ?_
         refine wN ?_
         refine tN (wKK hK10 ?_)
         refine wSeqK fun KK11 hK11 => ?_
         refine wReg ?_
         refine wLr rfl tyapi_Call 1 rfl [.int .i64 x.id, .int .i64 x.kind, .int .i64 x.src, .int .i64 x.dst, .int .i64 x.car, .int .i64 4, .int .i64 x.owner, .int .i64 x.born] rfl rfl ?_
         refine wSr rfl tyapi_Call 0 rfl rfl rfl rfl [.int .i64 x.id, .int .i64 x.kind, .int .i64 x.src, .int .i64 x.dst, .int .i64 x.car, .int .i64 4, .int .i64 x.owner, .int .i64 x.born] (by first | rfl | (simp only [spl]; rfl)) ?_
         refine p_leaveC rfl ?_
         refine wN ?_
         refine tN (wKK hK11 ?_)
         refine wRet ?_
         refine bR (tR ?_)
         exact wRct tyapi_Call rfl rfl rfl 0 rfl rfl (fun ww H => ⟨by simp only [leaveV, z2, z3, z3n, z4, z4o, z2c1, z2c1o, z5, z5o, cond_true, cond_false, Bool.not_true, Bool.not_false, Bool.true_and, Bool.and_true, Bool.false_and, Bool.and_false, Bool.true_or, Bool.or_true, Bool.false_or, Bool.or_false] <;> rfl, H.out.off⟩)
       · skip
         have z5o : (x.dst != n) = true := eqq_f z5
         refine wSk ?_
         refine bN (tN (wKK hK2 ?_))
         refine wSeqK fun KK12 hK12 => ?_
         refine wReg ?_
         iterate 2 refine p_leaveC rfl ?_
         refine wSt rfl tyint 1 rfl rfl rfl rfl ?_
         refine wN ?_
         refine tN (wKK hK12 ?_)
         refine wSeqK fun KK13 hK13 => ?_
         refine wReg ?_
         refine wLr rfl tyapi_Call 1 rfl [.int .i64 x.id, .int .i64 x.kind, .int .i64 n, .int .i64 x.dst, .int .i64 x.car, .int .i64 x.state, .int .i64 x.owner, .int .i64 x.born] rfl rfl ?_
         refine wQ (l := [.agg #[.int .i64 x.id, .int .i64 x.kind, .int .i64 n, .int .i64 x.dst, .int .i64 x.car, .int .i64 x.state, .int .i64 x.owner, .int .i64 x.born], .int .i64 1]) Try.func115 rfl (by kernel_rfl) (.agg (xA (freeV (⟨x.id, x.kind, n, x.dst, x.car, x.state, x.owner, x.born⟩ : CallV) 1))) (fun wc H => freeC (⟨x.id, x.kind, n, x.dst, x.car, x.state, x.owner, x.born⟩ : CallV) 1 wc) rfl rfl rfl rfl ?_
         refine wSr rfl tyapi_Call 0 rfl rfl rfl rfl (xL (freeV (⟨x.id, x.kind, n, x.dst, x.car, x.state, x.owner, x.born⟩ : CallV) 1)) (by first | rfl | (simp only [spl]; rfl)) ?_
         refine p_leaveC rfl ?_
         refine wN ?_
         refine tN (wKK hK13 ?_)
         refine wRet ?_
         exact wRct tyapi_Call rfl rfl rfl 0 rfl rfl (fun ww H => ⟨by simp only [leaveV, z2, z3, z3n, z4, z4o, z2c1, z2c1o, z5, z5o, cond_true, cond_false, Bool.not_true, Bool.not_false, Bool.true_and, Bool.and_true, Bool.false_and, Bool.and_false, Bool.true_or, Bool.or_true, Bool.false_or, Bool.or_false] <;> rfl, H.out.off⟩)
def tab_leftC : Wk.Tab := [(38, 2, 2), (38, 5, 5)]
theorem p_leftC {ops : Array Oper} {rest : List Oper} {o : Oper} {w0 : World} {Q : Exit → Act → World → Prop} {S : List Nat} {R : List Res} {K K' : Wk.Env} {N : Nat} (h : Wk.stp tab_leftC N ops K o = some K') (n : Wk.Wk N S w0 K' R (wpList Try.prog ops Q rest)) : Wk.Wk N S w0 K R (wpList Try.prog ops Q (o :: rest)) := Wk.wP (T := tab_leftC) (by kernel_rfl) h n
set_option maxHeartbeats 16000000 in
set_option maxRecDepth 20000 in
theorem leftC (c : Cfg) (a : CallV) (b : CallV) (w : World) : Calls Try.prog 107 #[.agg (cA c), .agg (xA a), .agg (xA b)] w fun e w' => e = .returned (.bool (leftV c a b)) ∧ Off [] w w' := by
 have H := Lib.hid (Hp.start [] w)
 refine wStart (args := [.agg (cA c), .agg (xA a), .agg (xA b)]) Try.func107 rfl rfl rfl H ?_
 clear H
 show Wk 33 _ _ [(0, .agg (cA c)), (1, .agg (xA a)), (2, .agg (xA b))] _ _
 refine wSeqK fun KK1 hK1 => ?_
 refine wReg ?_
 refine wBx rfl rfl rfl fun b3 => ?_
 refine wBx rfl rfl rfl fun b4 => ?_
 refine wBx rfl rfl rfl fun b5 => ?_
 refine p_leftC rfl ?_
 refine wN ?_
 refine tN (wKK hK1 ?_)
 refine wSeqK fun KK2 hK2 => ?_
 refine wReg ?_
 refine wLr rfl tyapi_Config 2 rfl (cL c) rfl rfl ?_
 refine wLr rfl tyapi_Call 1 rfl (xL a) rfl rfl ?_
 refine wQ (l := [.agg (cA c), .agg (xA a), .int .i64 1]) Try.func116 rfl (by kernel_rfl) (.tuple #[.agg (xA ((leaveV c a 1).1)), .int .i64 ((leaveV c a 1).2)]) (fun wc H => leaveC c a 1 wc) rfl rfl rfl rfl ?_
 iterate 3 refine p_leftC rfl ?_
 refine wAl rfl rfl tyapi_Call fun b7 => ?_
 refine wSr rfl tyapi_Call 0 rfl rfl rfl rfl (xL ((leaveV c a 1).1)) (by first | rfl | (simp only [spl]; rfl)) ?_
 refine p_leftC rfl ?_
 refine wN ?_
 refine tN (wKK hK2 ?_)
 refine wSeqK fun KK3 hK3 => ?_
 refine wSeqK fun KK4 hK4 => ?_
 refine wReg ?_
 refine p_leftC rfl ?_
 refine wLd rfl tyint 2 rfl rfl ?_
 refine p_leftC rfl ?_
 refine wN ?_
 refine tN (wKK hK4 ?_)
 refine wCond (E := a.state == 3) rfl (fun z1 => ?_) (fun z1 => ?_)
 · skip
   have z1o : (a.state != 3) = false := eqq_t z1
   refine wReg ?_
   refine wLr rfl tyapi_Config 3 rfl (cL c) rfl rfl ?_
   refine wLr rfl tyapi_Call 2 rfl (xL a) rfl rfl ?_
   refine p_leftC rfl ?_
   refine wLd rfl tyint 1 rfl rfl ?_
   refine wQ (l := [.agg (cA c), .agg (xA a), .int .i64 b.src]) Try.func116 rfl (by kernel_rfl) (.tuple #[.agg (xA ((leaveV c a b.src).1)), .int .i64 ((leaveV c a b.src).2)]) (fun wc H => leaveC c a b.src wc) rfl rfl rfl rfl ?_
   iterate 3 refine p_leftC rfl ?_
   refine wSr rfl tyapi_Call 0 rfl rfl rfl rfl (xL ((leaveV c a b.src).1)) (by first | rfl | (simp only [spl]; rfl)) ?_
   refine p_leftC rfl ?_
   refine wN ?_
   refine tN (wKK hK3 ?_)
   refine wSeqK fun KK5 hK5 => ?_
   refine wReg ?_
   iterate 3 refine p_leftC rfl ?_
   refine wCut 4 [(32, .bool ((((leaveV c a b.src).2) == 0) && (decide (((leaveV c a b.src).1) = b)))), (0, .agg (cA c)), (1, .agg (xA a)), (2, .agg (xA b)), (3, .pointer (some ⟨b3, 0, none⟩)), (4, .pointer (some ⟨b4, 0, none⟩)), (5, .pointer (some ⟨b5, 0, none⟩)), (6, .bool false), (7, .pointer (some ⟨b7, 0, none⟩)), (8, .int .i64 ((leaveV c a b.src).2)), (17, .bool (a.state == 3))] ?_ ?_
   · intro KK hKK
     rcases Bool.eq_false_or_eq_true (((leaveV c a b.src).2) == 0) with u2 | u2
     · skip
       refine wB (c := true) 28 rfl u2 ?_
       refine wLr rfl tyapi_Call 0 rfl (xL ((leaveV c a b.src).1)) rfl rfl ?_
       refine wLr rfl tyapi_Call 1 rfl (xL b) rfl rfl ?_
       refine wE (.bool ((decide (((leaveV c a b.src).1) = b)))) rfl rfl rfl (fun aa wc hs H => exec_eql rfl (hs _ _ rfl) (hs _ _ rfl) (by kernel_rfl) (run_eq_call ((leaveV c a b.src).1) b wc)) ?_
       refine p_leftC rfl ?_
       refine wB (c := (((leaveV c a b.src).2) == 0) && (decide (((leaveV c a b.src).1) = b))) 32 rfl (by rw [u2]; rfl) ?_
       refine wN (tN ?_)
       exact fun aa ww nn dd hs H => hKK aa ww nn dd (sat_sub ⟨rfl, rfl, rfl, rfl, rfl, rfl, rfl, rfl, rfl, rfl, rfl, trivial⟩ hs) H
     · skip
       refine wB (c := false) 28 rfl u2 ?_
       iterate 3 refine p_leftC rfl ?_
       refine p_leftC rfl ?_
       refine wB (c := (((leaveV c a b.src).2) == 0) && (decide (((leaveV c a b.src).1) = b))) 32 rfl (by rw [u2]; rfl) ?_
       refine wN (tN ?_)
       exact fun aa ww nn dd hs H => hKK aa ww nn dd (sat_sub ⟨rfl, rfl, rfl, rfl, rfl, rfl, rfl, rfl, rfl, rfl, rfl, trivial⟩ hs) H
   refine p_leftC rfl ?_
   refine wN ?_
   refine tN (wKK hK5 ?_)
   refine wRet ?_
   exact wR1 rfl rfl (fun ww H => ⟨by simp only [leftV, goneB, z1, z1o, cond_true, cond_false, Bool.not_true, Bool.not_false, Bool.true_and, Bool.and_true, Bool.false_and, Bool.and_false, Bool.true_or, Bool.or_true, Bool.false_or, Bool.or_false] <;> rfl, H.out.off⟩)
 · skip
   have z1o : (a.state != 3) = true := eqq_f z1
   refine wSk ?_
   refine tN (wKK hK3 ?_)
   refine wSeqK fun KK6 hK6 => ?_
   refine wReg ?_
   iterate 3 refine p_leftC rfl ?_
   refine wCut 4 [(32, .bool ((((leaveV c a 1).2) == 0) && (decide (((leaveV c a 1).1) = b)))), (0, .agg (cA c)), (1, .agg (xA a)), (2, .agg (xA b)), (3, .pointer (some ⟨b3, 0, none⟩)), (4, .pointer (some ⟨b4, 0, none⟩)), (5, .pointer (some ⟨b5, 0, none⟩)), (6, .bool false), (7, .pointer (some ⟨b7, 0, none⟩)), (8, .int .i64 ((leaveV c a 1).2)), (17, .bool (a.state == 3))] ?_ ?_
   · intro KK hKK
     rcases Bool.eq_false_or_eq_true (((leaveV c a 1).2) == 0) with u3 | u3
     · skip
       refine wB (c := true) 28 rfl u3 ?_
       refine wLr rfl tyapi_Call 0 rfl (xL ((leaveV c a 1).1)) rfl rfl ?_
       refine wLr rfl tyapi_Call 1 rfl (xL b) rfl rfl ?_
       refine wE (.bool ((decide (((leaveV c a 1).1) = b)))) rfl rfl rfl (fun aa wc hs H => exec_eql rfl (hs _ _ rfl) (hs _ _ rfl) (by kernel_rfl) (run_eq_call ((leaveV c a 1).1) b wc)) ?_
       refine p_leftC rfl ?_
       refine wB (c := (((leaveV c a 1).2) == 0) && (decide (((leaveV c a 1).1) = b))) 32 rfl (by rw [u3]; rfl) ?_
       refine wN (tN ?_)
       exact fun aa ww nn dd hs H => hKK aa ww nn dd (sat_sub ⟨rfl, rfl, rfl, rfl, rfl, rfl, rfl, rfl, rfl, rfl, rfl, trivial⟩ hs) H
     · skip
       refine wB (c := false) 28 rfl u3 ?_
       iterate 3 refine p_leftC rfl ?_
       refine p_leftC rfl ?_
       refine wB (c := (((leaveV c a 1).2) == 0) && (decide (((leaveV c a 1).1) = b))) 32 rfl (by rw [u3]; rfl) ?_
       refine wN (tN ?_)
       exact fun aa ww nn dd hs H => hKK aa ww nn dd (sat_sub ⟨rfl, rfl, rfl, rfl, rfl, rfl, rfl, rfl, rfl, rfl, rfl, trivial⟩ hs) H
   refine p_leftC rfl ?_
   refine wN ?_
   refine tN (wKK hK6 ?_)
   refine wRet ?_
   exact wR1 rfl rfl (fun ww H => ⟨by simp only [leftV, goneB, z1, z1o, cond_true, cond_false, Bool.not_true, Bool.not_false, Bool.true_and, Bool.and_true, Bool.false_and, Bool.and_false, Bool.true_or, Bool.or_true, Bool.false_or, Bool.or_false] <;> rfl, H.out.off⟩)
def tab_mayC : Wk.Tab := [(38, 4, 4)]
theorem p_mayC {ops : Array Oper} {rest : List Oper} {o : Oper} {w0 : World} {Q : Exit → Act → World → Prop} {S : List Nat} {R : List Res} {K K' : Wk.Env} {N : Nat} (h : Wk.stp tab_mayC N ops K o = some K') (n : Wk.Wk N S w0 K' R (wpList Try.prog ops Q rest)) : Wk.Wk N S w0 K R (wpList Try.prog ops Q (o :: rest)) := Wk.wP (T := tab_mayC) (by kernel_rfl) h n
set_option maxHeartbeats 16000000 in
set_option maxRecDepth 20000 in
theorem mayC (c : Cfg) (a : CallV) (b : CallV) (w : World) : Calls Try.prog 72 #[.agg (cA c), .agg (xA a), .agg (xA b)] w fun e w' => e = .returned (.bool (mayV c a b)) ∧ Off [] w w' := by
 have H := Lib.hid (Hp.start [] w)
 refine wStart (args := [.agg (cA c), .agg (xA a), .agg (xA b)]) Try.func72 rfl rfl rfl H ?_
 clear H
 show Wk 55 _ _ [(0, .agg (cA c)), (1, .agg (xA a)), (2, .agg (xA b))] _ _
 refine wSeqK fun KK1 hK1 => ?_
 refine wReg ?_
 refine wBx rfl rfl rfl fun b3 => ?_
 refine wBx rfl rfl rfl fun b4 => ?_
 refine wBx rfl rfl rfl fun b5 => ?_
 refine p_mayC rfl ?_
 refine wN ?_
 refine tN (wKK hK1 ?_)
 refine wSeqK fun KK2 hK2 => ?_
 refine wSeqK fun KK3 hK3 => ?_
 refine wReg ?_
 refine wLr rfl tyapi_Config 2 rfl (cL c) rfl rfl ?_
 refine wQ (l := [.agg (cA c)]) Try.func41 rfl (by kernel_rfl) (.int .i64 (checkV c)) (fun wc H => check c wc) rfl rfl rfl rfl ?_
 refine p_mayC rfl ?_
 refine wN ?_
 refine tN (wKK hK3 ?_)
 refine wCond (E := (checkV c) != 0) rfl (fun z1 => ?_) (fun z1 => ?_)
 · skip
   have z1o : ((checkV c) == 0) = false := neq_t z1
   refine wSeqK fun KK4 hK4 => ?_
   refine wReg ?_
   refine p_mayC rfl ?_
   refine wN ?_
   refine tN (wKK hK4 ?_)
   refine wRet ?_
   refine tR ?_
   exact wR1 rfl rfl (fun ww H => ⟨by simp only [mayV, goneB, z1, z1o, cond_true, cond_false, Bool.not_true, Bool.not_false, Bool.true_and, Bool.and_true, Bool.false_and, Bool.and_false, Bool.true_or, Bool.or_true, Bool.false_or, Bool.or_false] <;> rfl, H.out.off⟩)
 · skip
   have z1o : ((checkV c) == 0) = true := neq_f z1
   refine wSk ?_
   refine tN (wKK hK2 ?_)
   refine wSeqK fun KK5 hK5 => ?_
   refine wSeqK fun KK6 hK6 => ?_
   refine wReg ?_
   refine wLr rfl tyapi_Config 2 rfl (cL c) rfl rfl ?_
   refine wLr rfl tyapi_Call 1 rfl (xL a) rfl rfl ?_
   refine p_mayC rfl ?_
   refine wLd rfl tyint 0 rfl rfl ?_
   refine wQ (l := [.agg (cA c), .agg (xA a), .int .i64 b.car]) Try.func103 rfl (by kernel_rfl) (.tuple #[.agg (xA ((assignV c a b.car).1)), .int .i64 ((assignV c a b.car).2)]) (fun wc H => assignC c a b.car wc) rfl rfl rfl rfl ?_
   iterate 3 refine p_mayC rfl ?_
   refine wAl rfl rfl tyapi_Call fun b7 => ?_
   refine wSr rfl tyapi_Call 0 rfl rfl rfl rfl (xL ((assignV c a b.car).1)) (by first | rfl | (simp only [spl]; rfl)) ?_
   refine p_mayC rfl ?_
   refine wN ?_
   refine tN (wKK hK6 ?_)
   refine wSeqK fun KK7 hK7 => ?_
   refine wReg ?_
   iterate 3 refine p_mayC rfl ?_
   refine wCut 4 [(30, .bool ((((assignV c a b.car).2) == 0) && (decide (((assignV c a b.car).1) = b)))), (0, .agg (cA c)), (1, .agg (xA a)), (2, .agg (xA b)), (3, .pointer (some ⟨b3, 0, none⟩)), (4, .pointer (some ⟨b4, 0, none⟩)), (5, .pointer (some ⟨b5, 0, none⟩)), (6, .bool false), (7, .pointer (some ⟨b7, 0, none⟩)), (8, .int .i64 ((assignV c a b.car).2)), (15, .bool ((checkV c) != 0))] ?_ ?_
   · intro KK hKK
     rcases Bool.eq_false_or_eq_true (((assignV c a b.car).2) == 0) with u2 | u2
     · skip
       refine wB (c := true) 26 rfl u2 ?_
       refine wLr rfl tyapi_Call 0 rfl (xL ((assignV c a b.car).1)) rfl rfl ?_
       refine wLr rfl tyapi_Call 1 rfl (xL b) rfl rfl ?_
       refine wE (.bool ((decide (((assignV c a b.car).1) = b)))) rfl rfl rfl (fun aa wc hs H => exec_eql rfl (hs _ _ rfl) (hs _ _ rfl) (by kernel_rfl) (run_eq_call ((assignV c a b.car).1) b wc)) ?_
       refine p_mayC rfl ?_
       refine wB (c := (((assignV c a b.car).2) == 0) && (decide (((assignV c a b.car).1) = b))) 30 rfl (by rw [u2]; rfl) ?_
       refine wN (tN ?_)
       exact fun aa ww nn dd hs H => hKK aa ww nn dd (sat_sub ⟨rfl, rfl, rfl, rfl, rfl, rfl, rfl, rfl, rfl, rfl, rfl, trivial⟩ hs) H
     · skip
       refine wB (c := false) 26 rfl u2 ?_
       iterate 3 refine p_mayC rfl ?_
       refine p_mayC rfl ?_
       refine wB (c := (((assignV c a b.car).2) == 0) && (decide (((assignV c a b.car).1) = b))) 30 rfl (by rw [u2]; rfl) ?_
       refine wN (tN ?_)
       exact fun aa ww nn dd hs H => hKK aa ww nn dd (sat_sub ⟨rfl, rfl, rfl, rfl, rfl, rfl, rfl, rfl, rfl, rfl, rfl, trivial⟩ hs) H
   refine wN ?_
   refine tN (wKK hK7 ?_)
   refine wCond (E := (((assignV c a b.car).2) == 0) && (decide (((assignV c a b.car).1) = b))) rfl (fun z3 => ?_) (fun z3 => ?_)
   · skip
     have z3l : (((assignV c a b.car).2) == 0) = true := Reg.bl z3
     have z3lo : (((assignV c a b.car).2) != 0) = false := eqq_t z3l
     have z3r : (decide (((assignV c a b.car).1) = b)) = true := Reg.br z3
     refine wSeqK fun KK8 hK8 => ?_
     refine wReg ?_
     refine p_mayC rfl ?_
     refine wN ?_
     refine tN (wKK hK8 ?_)
     refine wRet ?_
     refine tR ?_
     exact wR1 rfl rfl (fun ww H => ⟨by simp only [mayV, goneB, z1, z1o, z3, z3l, z3lo, z3r, cond_true, cond_false, Bool.not_true, Bool.not_false, Bool.true_and, Bool.and_true, Bool.false_and, Bool.and_false, Bool.true_or, Bool.or_true, Bool.false_or, Bool.or_false] <;> rfl, H.out.off⟩)
   · skip
     refine wSk ?_
     refine tN (wKK hK5 ?_)
     refine wSeqK fun KK9 hK9 => ?_
     refine wSeqK fun KK10 hK10 => ?_
     refine wReg ?_
     refine wBs (cs := [.func (.func 104) #[] #[], .func (.func 105) #[] #[], .func (.func 47) #[] #[], .func (.func 106) #[] #[]]) rfl rfl rfl rfl Try.underlying145 tyfunc_api_Call___api_Call__api_Errno_ rfl (by decide) (by decide) (by kernel_rfl) fun b31 => ?_
     refine wE (.int .i64 4) rfl rfl rfl (fun aa ww hs _ => by have e31 := hs 31 _ rfl; have g31 := gt_of e31; simp only [execOp]; go_simp <;> first | rfl | omega) ?_
     refine p_mayC rfl ?_
     refine wN ?_
     refine tN (wKK hK10 ?_)
     refine wBlk ?_
     refine wLoopN 5 ?_
     refine wRnd ?_
     refine wSeqK fun KK11 hK11 => ?_
     refine wReg ?_
     refine p_mayC rfl ?_
     refine wN ?_
     refine tN (wKK hK11 ?_)
     refine wSeqK fun KK12 hK12 => ?_
     refine wCt rfl ?_
     refine wSk ?_
     refine tN (wKK hK12 ?_)
     refine wSeqK fun KK13 hK13 => ?_
     refine wBlk ?_
     refine wSeqK fun KK14 hK14 => ?_
     refine wReg ?_
     refine wE (.pointer (some ⟨b31, 0, none⟩)) rfl rfl rfl (fun aa ww hs _ => by have e31 := hs 31 _ rfl; have g31 := gt_of e31; have e33 := hs 33 _ rfl; have g33 := gt_of e33; simp only [execOp]; go_simp <;> first | rfl | omega) ?_
     refine wLd rfl tyfunc_api_Call___api_Call__api_Errno_ 0 rfl rfl ?_
     refine p_mayC rfl ?_
     refine wN ?_
     refine tN (wKK hK14 ?_)
     refine wSeqK fun KK15 hK15 => ?_
     refine wReg ?_
     refine p_mayC rfl ?_
     refine wLr rfl tyapi_Call 3 rfl (xL a) rfl rfl ?_
     refine wQ (l := [.agg (xA a)]) Try.func104 rfl (by kernel_rfl) (.tuple #[.agg (xA ((boardV a).1)), .int .i64 ((boardV a).2)]) (fun wc H => boardC a wc) rfl rfl rfl rfl ?_
     iterate 3 refine p_mayC rfl ?_
     refine wAl rfl rfl tyapi_Call fun b11 => ?_
     refine wSr rfl tyapi_Call 0 rfl rfl rfl rfl (xL ((boardV a).1)) (by first | rfl | (simp only [spl]; rfl)) ?_
     refine p_mayC rfl ?_
     refine wN ?_
     refine tN (wKK hK15 ?_)
     refine wSeqK fun KK16 hK16 => ?_
     refine wReg ?_
     iterate 3 refine p_mayC rfl ?_
     refine wCut 4 [(49, .bool ((((boardV a).2) == 0) && (decide (((boardV a).1) = b)))), (0, .agg (cA c)), (1, .agg (xA a)), (2, .agg (xA b)), (3, .pointer (some ⟨b3, 0, none⟩)), (4, .pointer (some ⟨b4, 0, none⟩)), (5, .pointer (some ⟨b5, 0, none⟩)), (6, .bool false), (7, .pointer (some ⟨b7, 0, none⟩)), (8, .int .i64 ((assignV c a b.car).2)), (10, .func (.func 104) #[] #[]), (11, .pointer (some ⟨b11, 0, none⟩)), (12, .int .i64 ((boardV a).2)), (15, .bool ((checkV c) != 0)), (30, .bool ((((assignV c a b.car).2) == 0) && (decide (((assignV c a b.car).1) = b)))), (31, .slice (some ⟨b31, 0, none⟩) 4 4), (32, .int .i64 4), (33, .int .i64 0), (34, .bool true)] ?_ ?_
     · intro KK hKK
       rcases Bool.eq_false_or_eq_true (((boardV a).2) == 0) with u4 | u4
       · skip
         refine wB (c := true) 45 rfl u4 ?_
         refine wLr rfl tyapi_Call 0 rfl (xL ((boardV a).1)) rfl rfl ?_
         refine wLr rfl tyapi_Call 3 rfl (xL b) rfl rfl ?_
         refine wE (.bool ((decide (((boardV a).1) = b)))) rfl rfl rfl (fun aa wc hs H => exec_eql rfl (hs _ _ rfl) (hs _ _ rfl) (by kernel_rfl) (run_eq_call ((boardV a).1) b wc)) ?_
         refine p_mayC rfl ?_
         refine wB (c := (((boardV a).2) == 0) && (decide (((boardV a).1) = b))) 49 rfl (by rw [u4]; rfl) ?_
         refine wN (tN ?_)
         exact fun aa ww nn dd hs H => hKK aa ww nn dd (sat_sub ⟨rfl, rfl, rfl, rfl, rfl, rfl, rfl, rfl, rfl, rfl, rfl, rfl, rfl, rfl, rfl, rfl, rfl, rfl, rfl, trivial⟩ hs) H
       · skip
         refine wB (c := false) 45 rfl u4 ?_
         iterate 3 refine p_mayC rfl ?_
         refine p_mayC rfl ?_
         refine wB (c := (((boardV a).2) == 0) && (decide (((boardV a).1) = b))) 49 rfl (by rw [u4]; rfl) ?_
         refine wN (tN ?_)
         exact fun aa ww nn dd hs H => hKK aa ww nn dd (sat_sub ⟨rfl, rfl, rfl, rfl, rfl, rfl, rfl, rfl, rfl, rfl, rfl, rfl, rfl, rfl, rfl, rfl, rfl, rfl, rfl, trivial⟩ hs) H
     refine wN ?_
     refine tN (wKK hK16 ?_)
     refine wCond (E := (((boardV a).2) == 0) && (decide (((boardV a).1) = b))) rfl (fun z5 => ?_) (fun z5 => ?_)
     · skip
       have z5l : (((boardV a).2) == 0) = true := Reg.bl z5
       have z5lo : (((boardV a).2) != 0) = false := eqq_t z5l
       have z5r : (decide (((boardV a).1) = b)) = true := Reg.br z5
       refine wSeqK fun KK17 hK17 => ?_
       refine wReg ?_
       refine p_mayC rfl ?_
       refine wN ?_
       refine tN (wKK hK17 ?_)
       refine wRet ?_
       refine bR (tR (tR (bR (tR ?_))))
       exact wR1 rfl rfl (fun ww H => ⟨by simp only [mayV, goneB, z1, z1o, z3, z5, z5l, z5lo, z5r, cond_true, cond_false, Bool.not_true, Bool.not_false, Bool.true_and, Bool.and_true, Bool.false_and, Bool.and_false, Bool.true_or, Bool.or_true, Bool.false_or, Bool.or_false] <;> rfl, H.out.off⟩)
     · skip
       refine wSk ?_
       refine bN (tN (wKK hK13 ?_))
       refine wReg ?_
       refine p_mayC rfl ?_
       refine wI 50 rfl (IntWalk.i64_in _ (by omega)) ?_
       refine p_mayC rfl ?_
       refine wN ?_
       refine tN ?_
       refine wRnd ?_
       refine wSeqK fun KK18 hK18 => ?_
       refine wReg ?_
       refine p_mayC rfl ?_
       refine wN ?_
       refine tN (wKK hK18 ?_)
       refine wSeqK fun KK19 hK19 => ?_
       refine wCt rfl ?_
       refine wSk ?_
       refine tN (wKK hK19 ?_)
       refine wSeqK fun KK20 hK20 => ?_
       refine wBlk ?_
       refine wSeqK fun KK21 hK21 => ?_
       refine wReg ?_
       refine wE (.pointer (some ⟨b31, 1, none⟩)) rfl rfl rfl (fun aa ww hs _ => by have e31 := hs 31 _ rfl; have g31 := gt_of e31; have e33 := hs 33 _ rfl; have g33 := gt_of e33; simp only [execOp]; go_simp <;> first | rfl | omega) ?_
       refine wLd rfl tyfunc_api_Call___api_Call__api_Errno_ 1 rfl rfl ?_
       refine p_mayC rfl ?_
       refine wN ?_
       refine tN (wKK hK21 ?_)
       refine wSeqK fun KK22 hK22 => ?_
       refine wReg ?_
       refine p_mayC rfl ?_
       refine wLr rfl tyapi_Call 4 rfl (xL a) rfl rfl ?_
       refine wQ (l := [.agg (xA a)]) Try.func105 rfl (by kernel_rfl) (.tuple #[.agg (xA ((serveV a).1)), .int .i64 ((serveV a).2)]) (fun wc H => serveC a wc) rfl rfl rfl rfl ?_
       iterate 3 refine p_mayC rfl ?_
       refine wAl rfl rfl tyapi_Call fun b11_u1 => ?_
       refine wSr rfl tyapi_Call 0 rfl rfl rfl rfl (xL ((serveV a).1)) (by first | rfl | (simp only [spl]; rfl)) ?_
       refine p_mayC rfl ?_
       refine wN ?_
       refine tN (wKK hK22 ?_)
       refine wSeqK fun KK23 hK23 => ?_
       refine wReg ?_
       iterate 3 refine p_mayC rfl ?_
       refine wCut 4 [(49, .bool ((((serveV a).2) == 0) && (decide (((serveV a).1) = b)))), (0, .agg (cA c)), (1, .agg (xA a)), (2, .agg (xA b)), (3, .pointer (some ⟨b3, 0, none⟩)), (4, .pointer (some ⟨b4, 0, none⟩)), (5, .pointer (some ⟨b5, 0, none⟩)), (6, .bool false), (7, .pointer (some ⟨b7, 0, none⟩)), (8, .int .i64 ((assignV c a b.car).2)), (10, .func (.func 105) #[] #[]), (11, .pointer (some ⟨b11_u1, 0, none⟩)), (12, .int .i64 ((serveV a).2)), (15, .bool ((checkV c) != 0)), (30, .bool ((((assignV c a b.car).2) == 0) && (decide (((assignV c a b.car).1) = b)))), (31, .slice (some ⟨b31, 0, none⟩) 4 4), (32, .int .i64 4), (33, .int .i64 1), (34, .bool true)] ?_ ?_
       · intro KK hKK
         rcases Bool.eq_false_or_eq_true (((serveV a).2) == 0) with u6 | u6
         · skip
           refine wB (c := true) 45 rfl u6 ?_
           refine wLr rfl tyapi_Call 0 rfl (xL ((serveV a).1)) rfl rfl ?_
           refine wLr rfl tyapi_Call 4 rfl (xL b) rfl rfl ?_
           refine wE (.bool ((decide (((serveV a).1) = b)))) rfl rfl rfl (fun aa wc hs H => exec_eql rfl (hs _ _ rfl) (hs _ _ rfl) (by kernel_rfl) (run_eq_call ((serveV a).1) b wc)) ?_
           refine p_mayC rfl ?_
           refine wB (c := (((serveV a).2) == 0) && (decide (((serveV a).1) = b))) 49 rfl (by rw [u6]; rfl) ?_
           refine wN (tN ?_)
           exact fun aa ww nn dd hs H => hKK aa ww nn dd (sat_sub ⟨rfl, rfl, rfl, rfl, rfl, rfl, rfl, rfl, rfl, rfl, rfl, rfl, rfl, rfl, rfl, rfl, rfl, rfl, rfl, trivial⟩ hs) H
         · skip
           refine wB (c := false) 45 rfl u6 ?_
           iterate 3 refine p_mayC rfl ?_
           refine p_mayC rfl ?_
           refine wB (c := (((serveV a).2) == 0) && (decide (((serveV a).1) = b))) 49 rfl (by rw [u6]; rfl) ?_
           refine wN (tN ?_)
           exact fun aa ww nn dd hs H => hKK aa ww nn dd (sat_sub ⟨rfl, rfl, rfl, rfl, rfl, rfl, rfl, rfl, rfl, rfl, rfl, rfl, rfl, rfl, rfl, rfl, rfl, rfl, rfl, trivial⟩ hs) H
       refine wN ?_
       refine tN (wKK hK23 ?_)
       refine wCond (E := (((serveV a).2) == 0) && (decide (((serveV a).1) = b))) rfl (fun z7 => ?_) (fun z7 => ?_)
       · skip
         have z7l : (((serveV a).2) == 0) = true := Reg.bl z7
         have z7lo : (((serveV a).2) != 0) = false := eqq_t z7l
         have z7r : (decide (((serveV a).1) = b)) = true := Reg.br z7
         refine wSeqK fun KK24 hK24 => ?_
         refine wReg ?_
         refine p_mayC rfl ?_
         refine wN ?_
         refine tN (wKK hK24 ?_)
         refine wRet ?_
         refine bR (tR (tR (bR (tR ?_))))
         exact wR1 rfl rfl (fun ww H => ⟨by simp only [mayV, goneB, z1, z1o, z3, z5, z7, z7l, z7lo, z7r, cond_true, cond_false, Bool.not_true, Bool.not_false, Bool.true_and, Bool.and_true, Bool.false_and, Bool.and_false, Bool.true_or, Bool.or_true, Bool.false_or, Bool.or_false] <;> rfl, H.out.off⟩)
       · skip
         refine wSk ?_
         refine bN (tN (wKK hK20 ?_))
         refine wReg ?_
         refine p_mayC rfl ?_
         refine wI 50 rfl (IntWalk.i64_in _ (by omega)) ?_
         refine p_mayC rfl ?_
         refine wN ?_
         refine tN ?_
         refine wRnd ?_
         refine wSeqK fun KK25 hK25 => ?_
         refine wReg ?_
         refine p_mayC rfl ?_
         refine wN ?_
         refine tN (wKK hK25 ?_)
         refine wSeqK fun KK26 hK26 => ?_
         refine wCt rfl ?_
         refine wSk ?_
         refine tN (wKK hK26 ?_)
         refine wSeqK fun KK27 hK27 => ?_
         refine wBlk ?_
         refine wSeqK fun KK28 hK28 => ?_
         refine wReg ?_
         refine wE (.pointer (some ⟨b31, 2, none⟩)) rfl rfl rfl (fun aa ww hs _ => by have e31 := hs 31 _ rfl; have g31 := gt_of e31; have e33 := hs 33 _ rfl; have g33 := gt_of e33; simp only [execOp]; go_simp <;> first | rfl | omega) ?_
         refine wLd rfl tyfunc_api_Call___api_Call__api_Errno_ 2 rfl rfl ?_
         refine p_mayC rfl ?_
         refine wN ?_
         refine tN (wKK hK28 ?_)
         refine wSeqK fun KK29 hK29 => ?_
         refine wReg ?_
         refine p_mayC rfl ?_
         refine wLr rfl tyapi_Call 5 rfl (xL a) rfl rfl ?_
         refine wQ (l := [.agg (xA a)]) Try.func47 rfl (by kernel_rfl) (.tuple #[.agg (xA ((cancelV a).1)), .int .i64 ((cancelV a).2)]) (fun wc H => cancelC a wc) rfl rfl rfl rfl ?_
         iterate 3 refine p_mayC rfl ?_
         refine wAl rfl rfl tyapi_Call fun b11_u2 => ?_
         refine wSr rfl tyapi_Call 0 rfl rfl rfl rfl (xL ((cancelV a).1)) (by first | rfl | (simp only [spl]; rfl)) ?_
         refine p_mayC rfl ?_
         refine wN ?_
         refine tN (wKK hK29 ?_)
         refine wSeqK fun KK30 hK30 => ?_
         refine wReg ?_
         iterate 3 refine p_mayC rfl ?_
         refine wCut 4 [(49, .bool ((((cancelV a).2) == 0) && (decide (((cancelV a).1) = b)))), (0, .agg (cA c)), (1, .agg (xA a)), (2, .agg (xA b)), (3, .pointer (some ⟨b3, 0, none⟩)), (4, .pointer (some ⟨b4, 0, none⟩)), (5, .pointer (some ⟨b5, 0, none⟩)), (6, .bool false), (7, .pointer (some ⟨b7, 0, none⟩)), (8, .int .i64 ((assignV c a b.car).2)), (10, .func (.func 47) #[] #[]), (11, .pointer (some ⟨b11_u2, 0, none⟩)), (12, .int .i64 ((cancelV a).2)), (15, .bool ((checkV c) != 0)), (30, .bool ((((assignV c a b.car).2) == 0) && (decide (((assignV c a b.car).1) = b)))), (31, .slice (some ⟨b31, 0, none⟩) 4 4), (32, .int .i64 4), (33, .int .i64 2), (34, .bool true)] ?_ ?_
         · intro KK hKK
           rcases Bool.eq_false_or_eq_true (((cancelV a).2) == 0) with u8 | u8
           · skip
             refine wB (c := true) 45 rfl u8 ?_
             refine wLr rfl tyapi_Call 0 rfl (xL ((cancelV a).1)) rfl rfl ?_
             refine wLr rfl tyapi_Call 5 rfl (xL b) rfl rfl ?_
             refine wE (.bool ((decide (((cancelV a).1) = b)))) rfl rfl rfl (fun aa wc hs H => exec_eql rfl (hs _ _ rfl) (hs _ _ rfl) (by kernel_rfl) (run_eq_call ((cancelV a).1) b wc)) ?_
             refine p_mayC rfl ?_
             refine wB (c := (((cancelV a).2) == 0) && (decide (((cancelV a).1) = b))) 49 rfl (by rw [u8]; rfl) ?_
             refine wN (tN ?_)
             exact fun aa ww nn dd hs H => hKK aa ww nn dd (sat_sub ⟨rfl, rfl, rfl, rfl, rfl, rfl, rfl, rfl, rfl, rfl, rfl, rfl, rfl, rfl, rfl, rfl, rfl, rfl, rfl, trivial⟩ hs) H
           · skip
             refine wB (c := false) 45 rfl u8 ?_
             iterate 3 refine p_mayC rfl ?_
             refine p_mayC rfl ?_
             refine wB (c := (((cancelV a).2) == 0) && (decide (((cancelV a).1) = b))) 49 rfl (by rw [u8]; rfl) ?_
             refine wN (tN ?_)
             exact fun aa ww nn dd hs H => hKK aa ww nn dd (sat_sub ⟨rfl, rfl, rfl, rfl, rfl, rfl, rfl, rfl, rfl, rfl, rfl, rfl, rfl, rfl, rfl, rfl, rfl, rfl, rfl, trivial⟩ hs) H
         refine wN ?_
         refine tN (wKK hK30 ?_)
         refine wCond (E := (((cancelV a).2) == 0) && (decide (((cancelV a).1) = b))) rfl (fun z9 => ?_) (fun z9 => ?_)
         · skip
           have z9l : (((cancelV a).2) == 0) = true := Reg.bl z9
           have z9lo : (((cancelV a).2) != 0) = false := eqq_t z9l
           have z9r : (decide (((cancelV a).1) = b)) = true := Reg.br z9
           refine wSeqK fun KK31 hK31 => ?_
           refine wReg ?_
           refine p_mayC rfl ?_
           refine wN ?_
           refine tN (wKK hK31 ?_)
           refine wRet ?_
           refine bR (tR (tR (bR (tR ?_))))
           exact wR1 rfl rfl (fun ww H => ⟨by simp only [mayV, goneB, z1, z1o, z3, z5, z7, z9, z9l, z9lo, z9r, cond_true, cond_false, Bool.not_true, Bool.not_false, Bool.true_and, Bool.and_true, Bool.false_and, Bool.and_false, Bool.true_or, Bool.or_true, Bool.false_or, Bool.or_false] <;> rfl, H.out.off⟩)
         · skip
           refine wSk ?_
           refine bN (tN (wKK hK27 ?_))
           refine wReg ?_
           refine p_mayC rfl ?_
           refine wI 50 rfl (IntWalk.i64_in _ (by omega)) ?_
           refine p_mayC rfl ?_
           refine wN ?_
           refine tN ?_
           refine wRnd ?_
           refine wSeqK fun KK32 hK32 => ?_
           refine wReg ?_
           refine p_mayC rfl ?_
           refine wN ?_
           refine tN (wKK hK32 ?_)
           refine wSeqK fun KK33 hK33 => ?_
           refine wCt rfl ?_
           refine wSk ?_
           refine tN (wKK hK33 ?_)
           refine wSeqK fun KK34 hK34 => ?_
           refine wBlk ?_
           refine wSeqK fun KK35 hK35 => ?_
           refine wReg ?_
           refine wE (.pointer (some ⟨b31, 3, none⟩)) rfl rfl rfl (fun aa ww hs _ => by have e31 := hs 31 _ rfl; have g31 := gt_of e31; have e33 := hs 33 _ rfl; have g33 := gt_of e33; simp only [execOp]; go_simp <;> first | rfl | omega) ?_
           refine wLd rfl tyfunc_api_Call___api_Call__api_Errno_ 3 rfl rfl ?_
           refine p_mayC rfl ?_
           refine wN ?_
           refine tN (wKK hK35 ?_)
           refine wSeqK fun KK36 hK36 => ?_
           refine wReg ?_
           refine p_mayC rfl ?_
           refine wLr rfl tyapi_Call 6 rfl (xL a) rfl rfl ?_
           refine wQ (l := [.agg (xA a)]) Try.func106 rfl (by kernel_rfl) (.tuple #[.agg (xA ((expireV a).1)), .int .i64 ((expireV a).2)]) (fun wc H => expireC a wc) rfl rfl rfl rfl ?_
           iterate 3 refine p_mayC rfl ?_
           refine wAl rfl rfl tyapi_Call fun b11_u3 => ?_
           refine wSr rfl tyapi_Call 0 rfl rfl rfl rfl (xL ((expireV a).1)) (by first | rfl | (simp only [spl]; rfl)) ?_
           refine p_mayC rfl ?_
           refine wN ?_
           refine tN (wKK hK36 ?_)
           refine wSeqK fun KK37 hK37 => ?_
           refine wReg ?_
           iterate 3 refine p_mayC rfl ?_
           refine wCut 4 [(49, .bool ((((expireV a).2) == 0) && (decide (((expireV a).1) = b)))), (0, .agg (cA c)), (1, .agg (xA a)), (2, .agg (xA b)), (3, .pointer (some ⟨b3, 0, none⟩)), (4, .pointer (some ⟨b4, 0, none⟩)), (5, .pointer (some ⟨b5, 0, none⟩)), (6, .bool false), (7, .pointer (some ⟨b7, 0, none⟩)), (8, .int .i64 ((assignV c a b.car).2)), (10, .func (.func 106) #[] #[]), (11, .pointer (some ⟨b11_u3, 0, none⟩)), (12, .int .i64 ((expireV a).2)), (15, .bool ((checkV c) != 0)), (30, .bool ((((assignV c a b.car).2) == 0) && (decide (((assignV c a b.car).1) = b)))), (31, .slice (some ⟨b31, 0, none⟩) 4 4), (32, .int .i64 4), (33, .int .i64 3), (34, .bool true)] ?_ ?_
           · intro KK hKK
             rcases Bool.eq_false_or_eq_true (((expireV a).2) == 0) with u10 | u10
             · skip
               refine wB (c := true) 45 rfl u10 ?_
               refine wLr rfl tyapi_Call 0 rfl (xL ((expireV a).1)) rfl rfl ?_
               refine wLr rfl tyapi_Call 6 rfl (xL b) rfl rfl ?_
               refine wE (.bool ((decide (((expireV a).1) = b)))) rfl rfl rfl (fun aa wc hs H => exec_eql rfl (hs _ _ rfl) (hs _ _ rfl) (by kernel_rfl) (run_eq_call ((expireV a).1) b wc)) ?_
               refine p_mayC rfl ?_
               refine wB (c := (((expireV a).2) == 0) && (decide (((expireV a).1) = b))) 49 rfl (by rw [u10]; rfl) ?_
               refine wN (tN ?_)
               exact fun aa ww nn dd hs H => hKK aa ww nn dd (sat_sub ⟨rfl, rfl, rfl, rfl, rfl, rfl, rfl, rfl, rfl, rfl, rfl, rfl, rfl, rfl, rfl, rfl, rfl, rfl, rfl, trivial⟩ hs) H
             · skip
               refine wB (c := false) 45 rfl u10 ?_
               iterate 3 refine p_mayC rfl ?_
               refine p_mayC rfl ?_
               refine wB (c := (((expireV a).2) == 0) && (decide (((expireV a).1) = b))) 49 rfl (by rw [u10]; rfl) ?_
               refine wN (tN ?_)
               exact fun aa ww nn dd hs H => hKK aa ww nn dd (sat_sub ⟨rfl, rfl, rfl, rfl, rfl, rfl, rfl, rfl, rfl, rfl, rfl, rfl, rfl, rfl, rfl, rfl, rfl, rfl, rfl, trivial⟩ hs) H
           refine wN ?_
           refine tN (wKK hK37 ?_)
           refine wCond (E := (((expireV a).2) == 0) && (decide (((expireV a).1) = b))) rfl (fun z11 => ?_) (fun z11 => ?_)
           · skip
             have z11l : (((expireV a).2) == 0) = true := Reg.bl z11
             have z11lo : (((expireV a).2) != 0) = false := eqq_t z11l
             have z11r : (decide (((expireV a).1) = b)) = true := Reg.br z11
             refine wSeqK fun KK38 hK38 => ?_
             refine wReg ?_
             refine p_mayC rfl ?_
             refine wN ?_
             refine tN (wKK hK38 ?_)
             refine wRet ?_
             refine bR (tR (tR (bR (tR ?_))))
             exact wR1 rfl rfl (fun ww H => ⟨by simp only [mayV, goneB, z1, z1o, z3, z5, z7, z9, z11, z11l, z11lo, z11r, cond_true, cond_false, Bool.not_true, Bool.not_false, Bool.true_and, Bool.and_true, Bool.false_and, Bool.and_false, Bool.true_or, Bool.or_true, Bool.false_or, Bool.or_false] <;> rfl, H.out.off⟩)
           · skip
             refine wSk ?_
             refine bN (tN (wKK hK34 ?_))
             refine wReg ?_
             refine p_mayC rfl ?_
             refine wI 50 rfl (IntWalk.i64_in _ (by omega)) ?_
             refine p_mayC rfl ?_
             refine wN ?_
             refine tN ?_
             refine wRnd ?_
             refine wSeqK fun KK39 hK39 => ?_
             refine wReg ?_
             refine p_mayC rfl ?_
             refine wN ?_
             refine tN (wKK hK39 ?_)
             refine wSeqK fun KK40 hK40 => ?_
             refine wCf rfl ?_
             refine wEx ?_
             refine tX (tX (bX (tN (wKK hK9 ?_))))
             refine wSeqK fun KK41 hK41 => ?_
             refine wReg ?_
             refine wLr rfl tyapi_Config 8 rfl (cL c) rfl rfl ?_
             refine wLr rfl tyapi_Call 7 rfl (xL a) rfl rfl ?_
             refine wLr rfl tyapi_Call 6 rfl (xL b) rfl rfl ?_
             refine wQ (l := [.agg (cA c), .agg (xA a), .agg (xA b)]) Try.func107 rfl (by kernel_rfl) (.bool (leftV c a b)) (fun wc H => leftC c a b wc) rfl rfl rfl rfl ?_
             refine p_mayC rfl ?_
             refine wN ?_
             refine tN (wKK hK41 ?_)
             refine wRet ?_
             exact wR1 rfl rfl (fun ww H => ⟨by simp only [mayV, goneB, z1, z1o, z3, z5, z7, z9, z11, cond_true, cond_false, Bool.not_true, Bool.not_false, Bool.true_and, Bool.and_true, Bool.false_and, Bool.and_false, Bool.true_or, Bool.or_true, Bool.false_or, Bool.or_false] <;> rfl, H.out.off⟩)
end Go.Proofs.Ytnanihffljpdbaa.Bk
