/- Layer 9: books: what changes them. -/
import Derived.Test.YtnanihffljpdbaaProg
import Derived.Below
import Derived.WalkKit
import Derived.KernelRfl
import Derived.RowKit3
import Derived.Deep.LoopGhost
import Derived.Deep.QuietTactic
import Derived.BigQuiet
import Derived.WideLaws
import Derived.Deep.DeepCutAuto
import Derived.Deep.CutBlock
import Derived.Lib.Hide
import Derived.Laws.BitsLemmas
import Derived.Laws.Bits64
import Derived.Laws.BitsAllLaws
import Derived.IntWalk
import Derived.Outline
import Derived.WalkSpells
import Derived.Test.YtnanihffljpdbaaGA
import Derived.Test.YtnanihffljpdbaaBk1
namespace Go.Proofs.Ytnanihffljpdbaa.Bk
open Go.RowKit Go.Proofs.Ytnanihffljpdbaa.Mem Go.Proofs.Ytnanihffljpdbaa.Reg Go.Proofs.Ytnanihffljpdbaa.Wk Go.Proofs.Ytnanihffljpdbaa.Si Go.Proofs.Ytnanihffljpdbaa.Ca Go.Proofs.Ytnanihffljpdbaa.Sc6
set_option linter.unusedVariables false
set_option linter.unusedSimpArgs false

def lastV (n : Int) (l : List CallV) : List CallV := l.drop ((l.length : Int) - n).toNat
def nextV (b : BookV) (x : CallV) : BookV × ChgV × Int :=
  bif decide (1073741824 ≤ b.index) then (zeroB, zeroCh, 5)
  else bif !(livesV x) then (⟨b.conf, b.index + 1, b.room, withoutV x.id b.live, lastV b.conf.calls (b.done ++ [x]), b.modes⟩, ⟨b.index + 1, x, 0, 0⟩, 0)
  else bif !((withV b.room x.id x b.live).2) then (zeroB, zeroCh, 5)
  else (⟨b.conf, b.index + 1, b.room, (withV b.room x.id x b.live).1, b.done, b.modes⟩, ⟨b.index + 1, x, 0, 0⟩, 0)
def placeV (b : BookV) (x : CallV) (owner now : Int) : BookV × ChgV × Int := bif (newCV b.conf x (min (b.index + 1) 1073741824) owner now).2 != 0 then (zeroB, zeroCh, (newCV b.conf x (min (b.index + 1) 1073741824) owner now).2) else nextV b (newCV b.conf x (min (b.index + 1) 1073741824) owner now).1
def cancelBV (b : BookV) (id owner : Int) : BookV × ChgV × Int :=
  bif b.room == 0 then (zeroB, zeroCh, 3) else bif !((findV b id).2) then (zeroB, zeroCh, 6) else bif (findV b id).1.owner != owner then (zeroB, zeroCh, 8)
  else bif (cancelV (findV b id).1).2 != 0 then (zeroB, zeroCh, (cancelV (findV b id).1).2) else nextV b (cancelV (findV b id).1).1
def setV (b : BookV) (car mode : Int) : BookV × ChgV × Int :=
  bif b.room == 0 then (zeroB, zeroCh, 3) else bif (!(carV b.conf car)) || ((mode != 1) && (mode != 2)) then (zeroB, zeroCh, 1) else bif decide (1073741824 ≤ b.index) then (zeroB, zeroCh, 5)
  else (⟨b.conf, b.index + 1, b.room, b.live, b.done, b.modes.set (car - 1).toNat mode⟩, ⟨b.index + 1, ⟨0, 0, 0, 0, 0, 0, 0, 0⟩, car, mode⟩, 0)
def askedV (x : CallV) : CallV := ⟨0, x.kind, x.src, x.dst, x.car, 0, 0, 0⟩
def isNextV (b : BookV) (x : CallV) : Bool := bif (getV x.id b.live).2 then mayV b.conf (getV x.id b.live).1 x else ((newCV b.conf (askedV x) (b.index + 1) x.owner x.born).2 == 0) && decide ((newCV b.conf (askedV x) (b.index + 1) x.owner x.born).1 = x)
def applyV (b : BookV) (ch : ChgV) : BookV × Int :=
  bif b.room == 0 then (zeroB, 3)
  else bif decide (ch.call = ⟨0, 0, 0, 0, 0, 0, 0, 0⟩) then (bif (IntKind.i64.wrap (ch.index - 1)) != b.index then (zeroB, 1) else ((setV b ch.car ch.mode).1, (setV b ch.car ch.mode).2.2))
  else bif ((((IntKind.i64.wrap (ch.index - 1)) != b.index) || (ch.car != 0)) || (ch.mode != 0)) || !(isNextV b ch.call) then (zeroB, 1) else ((nextV b ch.call).1, (nextV b ch.call).2.2)
/-- the last of a row that a call made of a clone -/
theorem last_gives {w0 w : World} {R : List Res} (H : Hid (Hp [] w0 w R)) {a : Option Addr} {c e l : Nat} {ys : List CallV} (hl : R[l]? = some (rA a c e 8 (ys.map callRow))) (Rs : List Res) (i : Nat) (hi : i ≤ ys.length) : (rS (cutA a c i 8) (c - i) 8 ((ys.drop i).map callRow)).holds w ∧ From w0 Rs (rS (cutA a c i 8) (c - i) 8 ((ys.drop i).map callRow)).foot := by
  have hA := H.out.at l hl
  have hg := give_A hA (fresh0 H hl)
  have hc := rA_cap hA
  rw [List.length_map] at hc
  have hfa : footA (cutA a c i 8) = footA a := by
    unfold cutA
    split
    · rfl
    · cases a with
      | none => rfl
      | some p =>
        have : (p.add (i * 8)).block = p.block := by unfold Addr.add; split <;> rfl
        simp [footA, this]
  refine ⟨rS_drop hg.1 i hi hc, From.new fun q hq => fresh0 H hl q ?_⟩
  rw [← hfa]
  generalize (ys.drop i).map callRow = rows at hq
  cases rows with
  | nil => cases hq
  | cons r l => exact hq
theorem tyapi_Change : TyI Try.prog 40 11 true [.int .i64 0, .int .i64 0, .int .i64 0, .int .i64 0, .int .i64 0, .int .i64 0, .int .i64 0, .int .i64 0, .int .i64 0, .int .i64 0, .int .i64 0] := ⟨by kernel_rfl, by kernel_rfl, by kernel_rfl⟩
theorem ty_4_int : TyI Try.prog 31 4 true [.int .i64 0, .int .i64 0, .int .i64 0, .int .i64 0] := ⟨by kernel_rfl, by kernel_rfl, by kernel_rfl⟩
def tab_askedC : Wk.Tab := [(38, 0, 0), (38, 5, 5), (38, 6, 6), (38, 7, 7)]
theorem p_askedC {ops : Array Oper} {rest : List Oper} {o : Oper} {w0 : World} {Q : Exit → Act → World → Prop} {S : List Nat} {R : List Res} {K K' : Wk.Env} {N : Nat} (h : Wk.stp tab_askedC N ops K o = some K') (n : Wk.Wk N S w0 K' R (wpList Try.prog ops Q rest)) : Wk.Wk N S w0 K R (wpList Try.prog ops Q (o :: rest)) := Wk.wP (T := tab_askedC) (by kernel_rfl) h n
set_option maxHeartbeats 16000000 in
set_option maxRecDepth 20000 in
theorem askedC (x : CallV) (w : World) : Calls Try.prog 73 #[.agg (xA x)] w fun e w' => e = .returned (.agg #[.int .i64 ((askedV x).id), .int .i64 ((askedV x).kind), .int .i64 ((askedV x).src), .int .i64 ((askedV x).dst), .int .i64 ((askedV x).car), .int .i64 ((askedV x).state), .int .i64 ((askedV x).owner), .int .i64 ((askedV x).born)]) ∧ Off [] w w' := by
 have H := Lib.hid (Hp.start [] w)
 refine wStart (args := [.agg (xA x)]) Try.func73 rfl rfl rfl H ?_
 clear H
 show Wk 8 _ _ [(0, .agg (xA x))] _ _
 refine wSeqK fun KK1 hK1 => ?_
 refine wReg ?_
 refine wBx rfl rfl rfl fun b1 => ?_
 refine wAl rfl rfl tyapi_Call fun b2 => ?_
 refine wN ?_
 refine tN (wKK hK1 ?_)
 refine wSeqK fun KK2 hK2 => ?_
 refine wReg ?_
 refine p_askedC rfl ?_
 refine wSt rfl tyint 1 rfl rfl rfl rfl ?_
 refine p_askedC rfl ?_
 refine wSt rfl tyint 1 rfl rfl rfl rfl ?_
 refine p_askedC rfl ?_
 refine wSt rfl tyint 1 rfl rfl rfl rfl ?_
 refine p_askedC rfl ?_
 refine wSt rfl tyint 1 rfl rfl rfl rfl ?_
 refine wN ?_
 refine tN (wKK hK2 ?_)
 refine wSeqK fun KK3 hK3 => ?_
 refine wReg ?_
 refine wLr rfl tyapi_Call 1 rfl [.int .i64 0, .int .i64 x.kind, .int .i64 x.src, .int .i64 x.dst, .int .i64 x.car, .int .i64 0, .int .i64 0, .int .i64 0] rfl rfl ?_
 refine wSr rfl tyapi_Call 0 rfl rfl rfl rfl [.int .i64 0, .int .i64 x.kind, .int .i64 x.src, .int .i64 x.dst, .int .i64 x.car, .int .i64 0, .int .i64 0, .int .i64 0] (by first | rfl | (simp only [spl]; rfl)) ?_
 refine wN ?_
 refine tN (wKK hK3 ?_)
 refine wRet ?_
 exact wRc tyapi_Call rfl rfl 0 rfl rfl (fun ww H => ⟨rfl, H.out.off⟩)
def tab_findC : Wk.Tab := [(33, 2, 19), (33, 3, 21)]
theorem p_findC {ops : Array Oper} {rest : List Oper} {o : Oper} {w0 : World} {Q : Exit → Act → World → Prop} {S : List Nat} {R : List Res} {K K' : Wk.Env} {N : Nat} (h : Wk.stp tab_findC N ops K o = some K') (n : Wk.Wk N S w0 K' R (wpList Try.prog ops Q rest)) : Wk.Wk N S w0 K R (wpList Try.prog ops Q (o :: rest)) := Wk.wP (T := tab_findC) (by kernel_rfl) h n
set_option maxHeartbeats 16000000 in
set_option maxRecDepth 20000 in
theorem findC (b : BookV) (la : Option Addr) (lc : Nat) (da : Option Addr) (dc : Nat) (id : Int) (w : World) (h1 : (rS la lc 9 (b.live.map rowOf)).holds w) (h2 : (rS da dc 8 (b.done.map callRow)).holds w) (hb : Hid (OkB b)) : Calls Try.prog 20 #[.agg (bkA b.conf b.index b.room (.slice la b.live.length lc) (.slice da b.done.length dc) b.modes), .int .i64 id] w fun e w' => e = .returned (.tuple #[.agg #[.int .i64 (((findV b id).1).id), .int .i64 (((findV b id).1).kind), .int .i64 (((findV b id).1).src), .int .i64 (((findV b id).1).dst), .int .i64 (((findV b id).1).car), .int .i64 (((findV b id).1).state), .int .i64 (((findV b id).1).owner), .int .i64 (((findV b id).1).born)], .bool (findV b id).2]) ∧ Off [] w w' := by
 have H := Lib.hid (Hp.start [] w)
 have H := hp_old H h1 (by decide)
 have H := hp_old H h2 (by decide)
 clear h1 h2
 refine wStart (args := [.agg (bkA b.conf b.index b.room (.slice la b.live.length lc) (.slice da b.done.length dc) b.modes), .int .i64 id]) Try.func20 rfl rfl rfl H ?_
 clear H
 show Wk 30 _ _ [(0, .agg (bkA b.conf b.index b.room (.slice la b.live.length lc) (.slice da b.done.length dc) b.modes)), (1, .int .i64 id)] _ _
 have hbl : (b.live.length : Int) ≤ b.room ∧ b.room ≤ 65536 := hb.out.live
 have hbd : (b.done.length : Int) ≤ b.conf.calls ∧ b.conf.calls ≤ 64 := hb.out.done
 have hbi : 0 ≤ b.index ∧ b.index ≤ 1073741824 := hb.out.index
 refine wSeqK fun KK1 hK1 => ?_
 refine wReg ?_
 refine wBx rfl rfl rfl fun b2 => ?_
 refine wBx rfl rfl rfl fun b3 => ?_
 refine wAl rfl rfl tyapi_Call fun b4 => ?_
 refine p_findC rfl ?_
 refine wN ?_
 refine tN (wKK hK1 ?_)
 refine wSeqK fun KK2 hK2 => ?_
 refine wSeqK fun KK3 hK3 => ?_
 refine wReg ?_
 refine p_findC rfl ?_
 refine wLr rfl tyshelf_Shelf_int__api_Call_ 2 rfl [.int .i64 b.room, .slice la b.live.length lc] rfl rfl ?_
 refine wLd rfl tyint 1 rfl rfl ?_
 refine wQ (l := [.agg #[.int .i64 b.room, .slice la b.live.length lc], .int .i64 id]) Try.func53 rfl (by kernel_rfl) (.tuple #[.agg (xA ((getV id b.live).1)), .bool ((getV id b.live).2)]) (fun wc H => getC b.room la lc b.live id wc (hp_held H (by (repeat (first | exact List.Mem.head _ | apply List.Mem.tail)))) hb.out.sorted (by omega)) rfl rfl rfl rfl ?_
 iterate 3 refine p_findC rfl ?_
 refine wAl rfl rfl tyapi_Call fun b6 => ?_
 refine wSr rfl tyapi_Call 0 rfl rfl rfl rfl (xL ((getV id b.live).1)) (by first | rfl | (simp only [spl]; rfl)) ?_
 refine p_findC rfl ?_
 refine wN ?_
 refine tN (wKK hK3 ?_)
 refine wSeqK fun KK4 hK4 => ?_
 refine wReg ?_
 refine p_findC rfl ?_
 refine wN ?_
 refine tN (wKK hK4 ?_)
 refine wCond (E := (getV id b.live).2) rfl (fun z1 => ?_) (fun z1 => ?_)
 · skip
   refine wSeqK fun KK5 hK5 => ?_
   refine wReg ?_
   refine wLr rfl tyapi_Call 0 rfl (xL ((getV id b.live).1)) rfl rfl ?_
   refine wSr rfl tyapi_Call 1 rfl rfl rfl rfl (xL ((getV id b.live).1)) (by first | rfl | (simp only [spl]; rfl)) ?_
   refine p_findC rfl ?_
   refine wN ?_
   refine tN (wKK hK5 ?_)
   refine wRet ?_
   refine tR ?_
   exact wRct tyapi_Call rfl rfl rfl 1 rfl rfl (fun ww H => (by rw [find_live z1]; exact ⟨rfl, H.out.off⟩))
 · skip
   refine wSk ?_
   refine tN (wKK hK2 ?_)
   refine wSeqK fun KK6 hK6 => ?_
   refine wReg ?_
   refine p_findC rfl ?_
   refine wLd rfl tyS_api_Call 3 rfl rfl ?_
   refine wE (.func (.func 55) #[] #[.pointer (some ⟨b3, 0, none⟩)]) rfl rfl rfl (fun aa ww hs _ => by have e3 := hs 3 _ rfl; have g3 := gt_of e3; simp only [execOp]; go_simp <;> first | rfl | omega) ?_
   refine wQ (l := [.slice da b.done.length dc, .func (.func 55) #[] #[.pointer (some ⟨b3, 0, none⟩)]]) Try.func54 rfl (by kernel_rfl) (.int .i64 (idxI b.done id)) (fun wc H => indexF da dc b.done b3 id wc (hp_held H (by (repeat (first | exact List.Mem.head _ | apply List.Mem.tail)))) (H.out.blk 2 rfl) (by omega)) rfl rfl rfl rfl ?_
   refine p_findC rfl ?_
   refine wN ?_
   refine tN (wKK hK6 ?_)
   refine wSeqK fun KK7 hK7 => ?_
   refine wSeqK fun KK8 hK8 => ?_
   refine wReg ?_
   iterate 2 refine p_findC rfl ?_
   refine wN ?_
   refine tN (wKK hK8 ?_)
   refine wCond (E := decide ((idxI b.done id) < 0)) rfl (fun z2 => ?_) (fun z2 => ?_)
   · skip
     have z2d : (idxI b.done id) < 0 := of_decide_eq_true z2
     intro aa ww nn dd hs H
     have hnl : ¬ idxN b.done id < b.done.length := fun hc => by unfold idxI at z2d; rw [decide_eq_true hc] at z2d; simp only [cond_true] at z2d; omega
     refine wIn nn dd hs H ?_
     refine wSeqK fun KK9 hK9 => ?_
     refine wReg ?_
     refine wE (.agg (xA zeroC)) rfl rfl rfl (fun aa ww hs _ => by simp only [execOp]; go_simp <;> first | rfl | omega) ?_
     refine wSr rfl tyapi_Call 1 rfl rfl rfl rfl (xL zeroC) (by first | rfl | (simp only [spl]; rfl)) ?_
     refine p_findC rfl ?_
     refine wN ?_
     refine tN (wKK hK9 ?_)
     refine wRet ?_
     refine tR ?_
     exact wRct tyapi_Call rfl rfl rfl 1 rfl rfl (fun ww H => (by rw [find_none z1 hnl]; exact ⟨rfl, H.out.off⟩))
   · skip
     have z2d : ¬ ((idxI b.done id) < 0) := of_decide_eq_false z2
     intro aa ww nn dd hs H
     obtain ⟨i, x, hix, hil, hxi⟩ : ∃ i x, idxI b.done id = ((i : Nat) : Int) ∧ i < b.done.length ∧ b.done[i]? = some x ∧ i = idxN b.done id := by
       unfold idxI at z2d ⊢
       rcases Bool.eq_false_or_eq_true (decide (idxN b.done id < b.done.length)) with h | h
       · have h2 := of_decide_eq_true h; rw [h]; exact ⟨_, _, rfl, h2, List.getElem?_eq_getElem h2, rfl⟩
       · rw [h] at z2d; simp only [cond_false] at z2d; omega
     obtain ⟨hxi, hin⟩ := hxi
     have HXx := Lib.hid hxi
     have HRx := Lib.hid (show (b.done.map callRow)[i]? = some [.int .i64 x.id, .int .i64 x.kind, .int .i64 x.src, .int .i64 x.dst, .int .i64 x.car, .int .i64 x.state, .int .i64 x.owner, .int .i64 x.born] by rw [List.getElem?_map, hxi]; rfl)
     clear hxi
     obtain ⟨y, rfl⟩ := some_of_row (hp_held H (show rS da dc 8 (b.done.map callRow) ∈ _ by simp)) (i := i) (by simp; omega)
     refine wIn nn dd hs H ?_
     refine wSk ?_
     refine tN (wKK hK7 ?_)
     refine wSeqK fun KK10 hK10 => ?_
     refine wReg ?_
     refine p_findC rfl ?_
     refine wLd rfl tyS_api_Call 3 rfl rfl ?_
     refine p_findC rfl ?_
     refine wE (.pointer (some (y.add (i * 8)))) rfl rfl rfl (fun aa ww hs _ => by have e26 := hs 26 _ rfl; have g26 := gt_of e26; have e27 := hs 27 _ rfl; have g27 := gt_of e27; simp only [execOp]; go_simp <;> first | rfl | omega) ?_
     refine wX 29 (.agg (xA x)) rfl (fun aa ww KK hs H _ hk => hpS_load tyapi_Call H (y := y) rfl (hs _ _ rfl) (wnt_ok hs rfl) (by (repeat (first | exact List.Mem.head _ | apply List.Mem.tail))) HRx.out rfl hk) ?_
     refine wSr rfl tyapi_Call 1 rfl rfl rfl rfl (xL x) (by first | rfl | (simp only [spl]; rfl)) ?_
     refine p_findC rfl ?_
     refine wN ?_
     refine tN (wKK hK10 ?_)
     refine wRet ?_
     exact wRct tyapi_Call rfl rfl rfl 1 rfl rfl (fun ww H => (by rw [find_done z1 (hin ▸ HXx.out)]; exact ⟨rfl, H.out.off⟩))
def tab_modeC : Wk.Tab := [(33, 0, 0), (33, 4, 22)]
theorem p_modeC {ops : Array Oper} {rest : List Oper} {o : Oper} {w0 : World} {Q : Exit → Act → World → Prop} {S : List Nat} {R : List Res} {K K' : Wk.Env} {N : Nat} (h : Wk.stp tab_modeC N ops K o = some K') (n : Wk.Wk N S w0 K' R (wpList Try.prog ops Q rest)) : Wk.Wk N S w0 K R (wpList Try.prog ops Q (o :: rest)) := Wk.wP (T := tab_modeC) (by kernel_rfl) h n
set_option maxHeartbeats 16000000 in
set_option maxRecDepth 20000 in
theorem modeC (b : BookV) (la : Option Addr) (lc : Nat) (da : Option Addr) (dc : Nat) (car : Int) (w : World) (h1 : (rS la lc 9 (b.live.map rowOf)).holds w) (h2 : (rS da dc 8 (b.done.map callRow)).holds w) (hb : Hid (OkB b)) : Calls Try.prog 22 #[.agg (bkA b.conf b.index b.room (.slice la b.live.length lc) (.slice da b.done.length dc) b.modes), .int .i64 car] w fun e w' => e = .returned (.int .i64 (modeV b car)) ∧ Off [] w w' := by
 have H := Lib.hid (Hp.start [] w)
 have H := hp_old H h1 (by decide)
 have H := hp_old H h2 (by decide)
 clear h1 h2
 refine wStart (args := [.agg (bkA b.conf b.index b.room (.slice la b.live.length lc) (.slice da b.done.length dc) b.modes), .int .i64 car]) Try.func22 rfl rfl rfl H ?_
 clear H
 show Wk 15 _ _ [(0, .agg (bkA b.conf b.index b.room (.slice la b.live.length lc) (.slice da b.done.length dc) b.modes)), (1, .int .i64 car)] _ _
 have hbl : (b.live.length : Int) ≤ b.room ∧ b.room ≤ 65536 := hb.out.live
 have hbd : (b.done.length : Int) ≤ b.conf.calls ∧ b.conf.calls ≤ 64 := hb.out.done
 have hbi : 0 ≤ b.index ∧ b.index ≤ 1073741824 := hb.out.index
 refine wSeqK fun KK1 hK1 => ?_
 refine wReg ?_
 refine wBx rfl rfl rfl fun b2 => ?_
 refine p_modeC rfl ?_
 refine wN ?_
 refine tN (wKK hK1 ?_)
 refine wSeqK fun KK2 hK2 => ?_
 refine wSeqK fun KK3 hK3 => ?_
 refine wReg ?_
 refine p_modeC rfl ?_
 refine wLr rfl tyapi_Config 0 rfl (cL b.conf) rfl rfl ?_
 refine p_modeC rfl ?_
 refine wQ (l := [.agg (cA b.conf), .int .i64 car]) Try.func48 rfl (by kernel_rfl) (.bool (carV b.conf car)) (fun wc H => isCar b.conf car wc) rfl rfl rfl rfl ?_
 refine p_modeC rfl ?_
 refine wN ?_
 refine tN (wKK hK3 ?_)
 refine wCond (E := !(carV b.conf car)) rfl (fun z1 => ?_) (fun z1 => ?_)
 · skip
   have z1n : (carV b.conf car) = false := Reg.bn z1
   refine wSeqK fun KK4 hK4 => ?_
   refine wReg ?_
   refine p_modeC rfl ?_
   refine wN ?_
   refine tN (wKK hK4 ?_)
   refine wRet ?_
   refine tR ?_
   exact wR1 rfl rfl (fun ww H => ⟨by unfold modeV; rw [z1n]; rfl, H.out.off⟩)
 · skip
   have z1n : (carV b.conf car) = true := Reg.bt z1
   intro aa ww nn dd hs H
   obtain ⟨m, hm, hm4⟩ := car_in z1n
   have hmw : IntKind.i64.wrap (car - 1) = ((m : Nat) : Int) := by rw [hm]; exact IntWalk.i64_in _ (by omega)
   refine wIn nn dd hs H ?_
   refine wSk ?_
   refine tN (wKK hK2 ?_)
   refine wSeqK fun KK5 hK5 => ?_
   refine wReg ?_
   iterate 2 refine p_modeC rfl ?_
   refine wI 11 rfl hmw ?_
   refine p_modeC rfl ?_
   refine wE (.pointer (some ⟨b2, 22 + m, none⟩)) rfl rfl rfl (fun aa ww hs _ => by have e12 := hs 12 _ rfl; have g12 := gt_of e12; have e11 := hs 11 _ rfl; have g11 := gt_of e11; simp only [execOp]; go_simp <;> first | rfl | omega) ?_
   refine wX 14 (.int .i64 (b.modes.getD m 0)) rfl (fun aa ww KK hs H _ hk => hpA_load1 tyint H rfl (hs _ _ rfl) (wnt_ok hs rfl) (by (repeat (first | exact List.Mem.head _ | apply List.Mem.tail))) (get4 b.modes hm4 [.int .i64 b.conf.floors, .int .i64 b.conf.cars, .int .i64 b.conf.seats, .int .i64 b.conf.calls, .int .i64 b.conf.lines, .int .i64 b.conf.keys, .int .i64 b.conf.window, .int .i64 b.conf.burst, .int .i64 b.conf.rate, .int .i64 b.conf.idle, .int .i64 b.conf.inn, .int .i64 b.conf.out, .int .i64 b.conf.feed, .int .i64 b.conf.retries, .int .i64 b.conf.life, .int .i64 b.conf.door, .int .i64 b.conf.holds, .int .u32 b.conf.secret, .int .i64 b.index, .int .i64 b.room, .slice la b.live.length lc, .slice da b.done.length dc] rfl) hk) ?_
   refine p_modeC rfl ?_
   refine wN ?_
   refine tN (wKK hK5 ?_)
   refine wRet ?_
   exact wR1 rfl rfl (fun ww H => ⟨by rw [mode_at z1n hm], H.out.off⟩)
def tab_newBC : Wk.Tab := [(24, 1, 1), (33, 4, 22)]
theorem p_newBC {ops : Array Oper} {rest : List Oper} {o : Oper} {w0 : World} {Q : Exit → Act → World → Prop} {S : List Nat} {R : List Res} {K K' : Wk.Env} {N : Nat} (h : Wk.stp tab_newBC N ops K o = some K') (n : Wk.Wk N S w0 K' R (wpList Try.prog ops Q rest)) : Wk.Wk N S w0 K R (wpList Try.prog ops Q (o :: rest)) := Wk.wP (T := tab_newBC) (by kernel_rfl) h n
set_option maxHeartbeats 4000000 in
set_option maxRecDepth 20000 in
theorem newBC_r3 (c : Cfg) (b1 : Nat) (b2 : Nat) (hci : (1 ≤ c.calls ∧ c.calls ≤ 64) ∧ 1 ≤ c.cars ∧ c.cars ≤ 4) (hroom : 1 ≤ c.calls ∧ c.calls ≤ 65536) {wa wb : World} (H : Hid (Hp [] wa wb [rB b2 33 (bkL zeroF 0 0 (.slice none 0 0) (.slice none 0 0) ([0, 0, 0, 0])), rB b1 24 (cL c)])) (ac0 : Act) (hz : ac0.tmps.size = 24) (so1 : ac0.eval (.tmp 1) = .pointer (some ⟨b1, 0, none⟩)) {QR : Exit → Act → World → Prop} (hfin : ∀ (b3 : Nat) (ac1 : Act) (wz : World), ac1.tmps.size = 24 → ac1.defers = ac0.defers → (∀ t, ([3, 9, 10, 11, 12, 13] : List Nat).contains t = false → ac1.eval (.tmp t) = ac0.eval (.tmp t)) → ac1.eval (.tmp 3) = .pointer (some ⟨b3, 0, none⟩) →  Hid (Hp [] wa wz [rB b3 33 (bkL c 0 c.calls (.slice none 0 0) (.slice none 0 0) ([0, 0, 0, 0])), rB b2 33 (bkL zeroF 0 0 (.slice none 0 0) (.slice none 0 0) ([0, 0, 0, 0])), rB b1 24 (cL c)]) → QR .normal ac1 wz) : (regAt Try.f10 3).wp Try.prog QR ac0 wb := by
  refine wp_region_st mixedP ⟨[0, 0, 1, 2, 3, 0, 4], by kernel_rfl⟩ [[], [], [1], [1, 2], [0, 1, 2, 3], [], [0, 1, 2, 3, 4, 5]] (by kernel_rfl) (by kernel_rfl) 24 hz (by kernel_rfl) (fun (xx : Nat) jx => match xx with | b3 => nth [.agg (cA c), .pointer (some ⟨b1, 3, none⟩), .int .i64 c.calls, .agg #[.int .i64 c.calls, .slice none 0 0], .agg (bkA c 0 c.calls (.slice none 0 0) (.slice none 0 0) ([0, 0, 0, 0])), .pointer (some ⟨b3, 0, none⟩), undef] jx) (fun (LL : Nat → Bool) (xx : Nat) ww => match xx with | b3 => Hp [] wa ww (bif LL 5 then (bif LL 6 then [rB b3 33 (bkL c 0 c.calls (.slice none 0 0) (.slice none 0 0) ([0, 0, 0, 0])), rB b2 33 (bkL zeroF 0 0 (.slice none 0 0) (.slice none 0 0) ([0, 0, 0, 0])), rB b1 24 (cL c)] else [rB b3 33 (bkL zeroF 0 0 (.slice none 0 0) (.slice none 0 0) ([0, 0, 0, 0])), rB b2 33 (bkL zeroF 0 0 (.slice none 0 0) (.slice none 0 0) ([0, 0, 0, 0])), rB b1 24 (cL c)]) else [rB b2 33 (bkL zeroF 0 0 (.slice none 0 0) (.slice none 0 0) ([0, 0, 0, 0])), rB b1 24 (cL c)])) default H.out.drew ?_ (steps_al ?_) ?_ ?_
  · intro L1 L2 xx ww hL sg
    have lh5 := hL 5 (by decide)
    have lh6 := hL 6 (by decide)
    simp only [lh5, lh6] at sg
    exact sg
  · refine al_cons ?_ (al_cons ?_ (al_cons ?_ (al_cons ?_ (al_cons ?_ (al_cons ?_ (al_cons ?_ (al_nil)))))))
    · intro LL xx ac wc sg hst hwant QQ hgo
      revert sg hst hgo; revert xx; intro b3 sg hst hgo
      rcases Bool.eq_false_or_eq_true (LL 5) with lh5 | lh5
      · skip
        have H := Lib.hid hst
        simp only [lh5, sg.des 6 rfl, cond_true, cond_false] at H
        refine hpA_load tyapi_Config H rfl ((sg.free 1 (by kernel_rfl)).trans so1) hwant (by (repeat (first | exact List.Mem.head _ | apply List.Mem.tail))) (by rfl) rfl ?_
        exact hgo _ b3 _ (fun _ _ => rfl) rfl hst
      · skip
        have H := Lib.hid hst
        simp only [lh5, sg.des 6 rfl, cond_true, cond_false] at H
        refine hpA_load tyapi_Config H rfl ((sg.free 1 (by kernel_rfl)).trans so1) hwant (by (repeat (first | exact List.Mem.head _ | apply List.Mem.tail))) (by rfl) rfl ?_
        exact hgo _ b3 _ (fun _ _ => rfl) rfl hst
    · intro LL xx ac wc sg hst hwant QQ hgo
      revert sg hst hgo; revert xx; intro b3 sg hst hgo
      have se1 : ac.eval (.tmp 1) = _ := ((sg.free 1 (by kernel_rfl)).trans so1)
      have sg1 := gt_of se1
      exact op_val hwant hgo hst _ (by simp only [execOp, nth]; go_simp <;> omega) rfl
    · intro LL xx ac wc sg hst hwant QQ hgo
      revert sg hst hgo; revert xx; intro b3 sg hst hgo
      rcases Bool.eq_false_or_eq_true (LL 5) with lh5 | lh5
      · skip
        have H := Lib.hid hst
        simp only [lh5, sg.des 6 rfl, cond_true, cond_false] at H
        refine hpA_load1 tyint H rfl (sg.slot 1 (sg.anc 1 rfl)) hwant (by (repeat (first | exact List.Mem.head _ | apply List.Mem.tail))) (by rfl) ?_
        exact hgo _ b3 _ (fun _ _ => rfl) rfl hst
      · skip
        have H := Lib.hid hst
        simp only [lh5, sg.des 6 rfl, cond_true, cond_false] at H
        refine hpA_load1 tyint H rfl (sg.slot 1 (sg.anc 1 rfl)) hwant (by (repeat (first | exact List.Mem.head _ | apply List.Mem.tail))) (by rfl) ?_
        exact hgo _ b3 _ (fun _ _ => rfl) rfl hst
    · intro LL xx ac wc sg hst hwant QQ hgo
      revert sg hst hgo; revert xx; intro b3 sg hst hgo
      have se11 : ac.eval (.tmp 11) = _ := (sg.slot 2 (sg.anc 2 rfl))
      have sg11 := gt_of se11
      (try simp only [nth] at se11 sg11)
      refine op_call hwant hgo 42 #[.int .i64 c.calls] (by simp only [execOp]; go_simp) (newR c.calls wc hroom) ?_
      rintro er wd ⟨rfl, hof⟩
      exact ⟨_, b3, rfl, fun _ _ => rfl, rfl, Hp.quiet hst hof⟩
    · intro LL xx ac wc sg hst hwant QQ hgo
      revert sg hst hgo; revert xx; intro b3 sg hst hgo
      have se9 : ac.eval (.tmp 9) = _ := (sg.slot 0 (sg.anc 0 rfl))
      have sg9 := gt_of se9
      have se12 : ac.eval (.tmp 12) = _ := (sg.slot 3 (sg.anc 3 rfl))
      have sg12 := gt_of se12
      (try simp only [nth] at se9 sg9 se12 sg12)
      (try simp only [xA, xL, cA, cL, chA, chL, bkA, bkL] at se9 sg9 se12 sg12)
      exact op_val hwant hgo hst _ (by simp only [execOp, nth, xA, xL, cA, cL, chA, chL, bkA, bkL]; go_simp <;> omega) rfl
    · intro LL xx ac wc sg hst hwant QQ hgo
      revert sg hst hgo; revert xx; intro xold sg hst hgo
      have H := Lib.hid hst
      simp only [sg.self, sg.des 6 rfl, cond_true, cond_false] at H
      refine hpA_alloc tybook_Book H rfl rfl ?_
      intro wd b3 H2
      exact hgo _ b3 _ (sg.agree (x' := b3) (n := 7) rfl (by (iterate 7 (refine ix_cons (by first | exact fun _ => rfl | exact no sg.self | exact no (sg.des _ rfl)) ?_)); exact ix_nil)) rfl (by simp only [(show upd LL 5 5 = true from rfl), (show upd LL 5 6 = LL 6 from rfl), sg.des 6 rfl, cond_true, cond_false]; exact H2.out)
    · intro LL xx ac wc sg hst hwant QQ hgo
      revert sg hst hgo; revert xx; intro b3 sg hst hgo
      have H := Lib.hid hst
      simp only [sg.anc 5 rfl, sg.self, cond_true, cond_false] at H
      refine hpA_store tybook_Book H rfl rfl (sg.slot 5 (sg.anc 5 rfl)) (sg.slot 4 (sg.anc 4 rfl)) rfl (by repeat (first | apply Put.head | apply Put.tail)) (by simp [xA, xL, cA, cL, chA, chL, bkA, bkL]) (by simp [xA, xL, cA, cL, chA, chL, bkA, bkL, Value.oneCell']) (by first | rfl | (simp only [spl]; rfl)) rfl ?_
      intro wd H2
      exact hgo _ b3 _ (sg.agree (x' := b3) (n := 7) rfl (by (iterate 7 (refine ix_cons (by first | exact fun _ => rfl | exact no sg.self | exact no (sg.des _ rfl)) ?_)); exact ix_nil)) rfl (by simp only [(show upd LL 6 5 = LL 5 from rfl), sg.anc 5 rfl, (show upd LL 6 6 = true from rfl), cond_true, cond_false]; exact H2.out)
  · exact skips [] (by kernel_rfl) (fun _ h => by cases h)
  · intro xx ac1 wz hfr hsl hst
    revert hsl hst; revert xx; intro b3 hsl hst
    exact hfin b3 ac1 wz (hfr.size.trans hz) hfr.defers (fr_keep hfr [3, 9, 10, 11, 12, 13] (by kernel_rfl)) (hsl 5 (by decide)) (Lib.hid hst)
set_option maxHeartbeats 16000000 in
set_option maxRecDepth 20000 in
theorem newBC (c : Cfg) (w : World) : Calls Try.prog 10 #[.agg (cA c)] w fun e w' => ∃ la' lc' da' dc', e = .returned (.agg #[.int .i64 (((newB c).conf).floors), .int .i64 (((newB c).conf).cars), .int .i64 (((newB c).conf).seats), .int .i64 (((newB c).conf).calls), .int .i64 (((newB c).conf).lines), .int .i64 (((newB c).conf).keys), .int .i64 (((newB c).conf).window), .int .i64 (((newB c).conf).burst), .int .i64 (((newB c).conf).rate), .int .i64 (((newB c).conf).idle), .int .i64 (((newB c).conf).inn), .int .i64 (((newB c).conf).out), .int .i64 (((newB c).conf).feed), .int .i64 (((newB c).conf).retries), .int .i64 (((newB c).conf).life), .int .i64 (((newB c).conf).door), .int .i64 (((newB c).conf).holds), .int .u32 (((newB c).conf).secret), .int .i64 ((newB c).index), .int .i64 ((newB c).room), .slice la' ((newB c).live.length) lc', .slice da' ((newB c).done.length) dc', .int .i64 ((newB c).modes.getD 0 0), .int .i64 ((newB c).modes.getD 1 0), .int .i64 ((newB c).modes.getD 2 0), .int .i64 ((newB c).modes.getD 3 0)]) ∧ Gives2 w w' [] la' lc' da' dc' (newB c) := by
 have H := Lib.hid (Hp.start [] w)
 refine wStart (args := [.agg (cA c)]) Try.func10 rfl rfl rfl H ?_
 clear H
 show Wk 24 _ _ [(0, .agg (cA c))] _ _
 refine wSeqK fun KK1 hK1 => ?_
 refine wReg ?_
 refine wBx rfl rfl rfl fun b1 => ?_
 refine wAl rfl rfl tybook_Book fun b2 => ?_
 refine wN ?_
 refine tN (wKK hK1 ?_)
 refine wSeqK fun KK2 hK2 => ?_
 refine wSeqK fun KK3 hK3 => ?_
 refine wReg ?_
 refine wLr rfl tyapi_Config 1 rfl (cL c) rfl rfl ?_
 refine wQ (l := [.agg (cA c)]) Try.func41 rfl (by kernel_rfl) (.int .i64 (checkV c)) (fun wc H => check c wc) rfl rfl rfl rfl ?_
 refine p_newBC rfl ?_
 refine wN ?_
 refine tN (wKK hK3 ?_)
 refine wCond (E := (checkV c) != 0) rfl (fun z1 => ?_) (fun z1 => ?_)
 · skip
   have z1o : ((checkV c) == 0) = false := neq_t z1
   refine wSeqK fun KK4 hK4 => ?_
   refine wReg ?_
   refine wE (.agg (bkA zeroF 0 0 (.slice none 0 0) (.slice none 0 0) ([0, 0, 0, 0]))) rfl rfl rfl (fun aa ww hs _ => by simp only [execOp]; go_simp <;> first | rfl | omega) ?_
   refine wSr rfl tybook_Book 0 rfl rfl rfl rfl (bkL zeroF 0 0 (.slice none 0 0) (.slice none 0 0) ([0, 0, 0, 0])) (by first | rfl | (simp only [spl]; rfl)) ?_
   refine wN ?_
   refine tN (wKK hK4 ?_)
   refine wRet ?_
   refine tR ?_
   exact wRc tybook_Book rfl rfl 0 rfl rfl (fun ww H => (by simp only [newB, newModes, z1, z1o, cond_true, cond_false, Bool.not_true, Bool.not_false, Bool.true_and, Bool.and_true, Bool.false_and, Bool.and_false, Bool.true_or, Bool.or_true, Bool.false_or, Bool.or_false]; exact ⟨none, 0, none, 0, rfl, (rS_nil _ _), (rS_nil _ _), (From.none _ _ _ _ _), (From.none _ _ _ _ _), H.out.off⟩))
 · skip
   have z1o : ((checkV c) == 0) = true := neq_f z1
   intro aa ww nn dd hs H
   have hci := cfg_in z1
   have hroom : 1 ≤ c.calls ∧ c.calls ≤ 65536 := by omega
   refine wIn nn dd hs H ?_
   refine wSk ?_
   refine tN (wKK hK2 ?_)
   refine wSeqK fun KK5 hK5 => ?_
   intro aa ww nn dd hs H
   refine newBC_r3 c b1 b2 hci hroom H aa nn (hs 1 _ rfl) ?_
   intro b3 ab wv nn2 dd2 kp o3 H2
   refine wIn nn2 (dd2.trans dd) (Sat.cons (Sat.cons (Sat.cons (Sat.cons (Sat.cons (sat_nil ab) ((kp 7 rfl).trans (hs 7 _ rfl))) ((kp 2 rfl).trans (hs 2 _ rfl))) ((kp 1 rfl).trans (hs 1 _ rfl))) ((kp 0 rfl).trans (hs 0 _ rfl))) o3) H2 ?_
   clear hs H kp H2 dd dd2 nn nn2 o3
   refine tN (wKK hK5 ?_)
   refine wSeqK fun KK6 hK6 => ?_
   refine wSeqK fun KK7 hK7 => ?_
   refine wReg ?_
   refine p_newBC rfl ?_
   refine wLd rfl tyint 2 rfl rfl ?_
   refine p_newBC rfl ?_
   refine wN ?_
   refine tN (wKK hK7 ?_)
   refine wBlk ?_
   refine wLoopN 6 ?_
   refine wRnd ?_
   refine wSeqK fun KK8 hK8 => ?_
   refine wReg ?_
   refine p_newBC rfl ?_
   refine wN ?_
   refine tN (wKK hK8 ?_)
   refine wSeqK fun KK9 hK9 => ?_
   refine wCond (E := decide (0 < c.cars)) rfl (fun z2 => ?_) (fun z2 => ?_)
   · skip
     have z2d : 0 < c.cars := of_decide_eq_true z2
     refine wSk ?_
     refine tN (wKK hK9 ?_)
     refine wSeqK fun KK10 hK10 => ?_
     refine wBlk ?_
     refine wSeqK fun KK11 hK11 => ?_
     refine wReg ?_
     iterate 2 refine p_newBC rfl ?_
     refine wN ?_
     refine tN (wKK hK11 ?_)
     refine wReg ?_
     iterate 2 refine p_newBC rfl ?_
     refine wE (.pointer (some ⟨b3, 22, none⟩)) rfl rfl rfl (fun aa ww hs _ => by have e20 := hs 20 _ rfl; have g20 := gt_of e20; have e19 := hs 19 _ rfl; have g19 := gt_of e19; simp only [execOp]; go_simp <;> first | rfl | omega) ?_
     refine wSt rfl tyint 0 rfl rfl rfl rfl ?_
     refine wN ?_
     refine bN (tN (wKK hK10 ?_))
     refine wReg ?_
     refine p_newBC rfl ?_
     refine wI 22 rfl (IntWalk.i64_in _ (by omega)) ?_
     refine p_newBC rfl ?_
     refine wN ?_
     refine tN ?_
     refine wRnd ?_
     refine wSeqK fun KK12 hK12 => ?_
     refine wReg ?_
     refine p_newBC rfl ?_
     refine wN ?_
     refine tN (wKK hK12 ?_)
     refine wSeqK fun KK13 hK13 => ?_
     refine wCond (E := decide (1 < c.cars)) rfl (fun z3 => ?_) (fun z3 => ?_)
     · skip
       have z3d : 1 < c.cars := of_decide_eq_true z3
       refine wSk ?_
       refine tN (wKK hK13 ?_)
       refine wSeqK fun KK14 hK14 => ?_
       refine wBlk ?_
       refine wSeqK fun KK15 hK15 => ?_
       refine wReg ?_
       iterate 2 refine p_newBC rfl ?_
       refine wN ?_
       refine tN (wKK hK15 ?_)
       refine wReg ?_
       iterate 2 refine p_newBC rfl ?_
       refine wE (.pointer (some ⟨b3, 23, none⟩)) rfl rfl rfl (fun aa ww hs _ => by have e20 := hs 20 _ rfl; have g20 := gt_of e20; have e19 := hs 19 _ rfl; have g19 := gt_of e19; simp only [execOp]; go_simp <;> first | rfl | omega) ?_
       refine wSt rfl tyint 0 rfl rfl rfl rfl ?_
       refine wN ?_
       refine bN (tN (wKK hK14 ?_))
       refine wReg ?_
       refine p_newBC rfl ?_
       refine wI 22 rfl (IntWalk.i64_in _ (by omega)) ?_
       refine p_newBC rfl ?_
       refine wN ?_
       refine tN ?_
       refine wRnd ?_
       refine wSeqK fun KK16 hK16 => ?_
       refine wReg ?_
       refine p_newBC rfl ?_
       refine wN ?_
       refine tN (wKK hK16 ?_)
       refine wSeqK fun KK17 hK17 => ?_
       refine wCond (E := decide (2 < c.cars)) rfl (fun z4 => ?_) (fun z4 => ?_)
       · skip
         have z4d : 2 < c.cars := of_decide_eq_true z4
         refine wSk ?_
         refine tN (wKK hK17 ?_)
         refine wSeqK fun KK18 hK18 => ?_
         refine wBlk ?_
         refine wSeqK fun KK19 hK19 => ?_
         refine wReg ?_
         iterate 2 refine p_newBC rfl ?_
         refine wN ?_
         refine tN (wKK hK19 ?_)
         refine wReg ?_
         iterate 2 refine p_newBC rfl ?_
         refine wE (.pointer (some ⟨b3, 24, none⟩)) rfl rfl rfl (fun aa ww hs _ => by have e20 := hs 20 _ rfl; have g20 := gt_of e20; have e19 := hs 19 _ rfl; have g19 := gt_of e19; simp only [execOp]; go_simp <;> first | rfl | omega) ?_
         refine wSt rfl tyint 0 rfl rfl rfl rfl ?_
         refine wN ?_
         refine bN (tN (wKK hK18 ?_))
         refine wReg ?_
         refine p_newBC rfl ?_
         refine wI 22 rfl (IntWalk.i64_in _ (by omega)) ?_
         refine p_newBC rfl ?_
         refine wN ?_
         refine tN ?_
         refine wRnd ?_
         refine wSeqK fun KK20 hK20 => ?_
         refine wReg ?_
         refine p_newBC rfl ?_
         refine wN ?_
         refine tN (wKK hK20 ?_)
         refine wSeqK fun KK21 hK21 => ?_
         refine wCond (E := decide (3 < c.cars)) rfl (fun z5 => ?_) (fun z5 => ?_)
         · skip
           have z5d : 3 < c.cars := of_decide_eq_true z5
           refine wSk ?_
           refine tN (wKK hK21 ?_)
           refine wSeqK fun KK22 hK22 => ?_
           refine wBlk ?_
           refine wSeqK fun KK23 hK23 => ?_
           refine wReg ?_
           iterate 2 refine p_newBC rfl ?_
           refine wN ?_
           refine tN (wKK hK23 ?_)
           refine wReg ?_
           iterate 2 refine p_newBC rfl ?_
           refine wE (.pointer (some ⟨b3, 25, none⟩)) rfl rfl rfl (fun aa ww hs _ => by have e20 := hs 20 _ rfl; have g20 := gt_of e20; have e19 := hs 19 _ rfl; have g19 := gt_of e19; simp only [execOp]; go_simp <;> first | rfl | omega) ?_
           refine wSt rfl tyint 0 rfl rfl rfl rfl ?_
           refine wN ?_
           refine bN (tN (wKK hK22 ?_))
           refine wReg ?_
           refine p_newBC rfl ?_
           refine wI 22 rfl (IntWalk.i64_in _ (by omega)) ?_
           refine p_newBC rfl ?_
           refine wN ?_
           refine tN ?_
           refine wRnd ?_
           refine wSeqK fun KK24 hK24 => ?_
           refine wReg ?_
           refine p_newBC rfl ?_
           refine wN ?_
           refine tN (wKK hK24 ?_)
           refine wSeqK fun KK25 hK25 => ?_
           refine wCond (E := decide (4 < c.cars)) rfl (fun z6 => ?_) (fun z6 => ?_)
           · skip
             have z6d : 4 < c.cars := of_decide_eq_true z6
             exfalso
             omega
           · skip
             have z6d : ¬ (4 < c.cars) := of_decide_eq_false z6
             refine wEx ?_
             refine tX (tX (bX (tN (wKK hK6 ?_))))
             refine wSeqK fun KK26 hK26 => ?_
             refine wReg ?_
             refine wLr rfl tybook_Book 0 rfl (bkL c 0 c.calls (.slice none 0 0) (.slice none 0 0) ([1, 1, 1, 1])) rfl rfl ?_
             refine wSr rfl tybook_Book 1 rfl rfl rfl rfl (bkL c 0 c.calls (.slice none 0 0) (.slice none 0 0) ([1, 1, 1, 1])) (by first | rfl | (simp only [spl]; rfl)) ?_
             refine wN ?_
             refine tN (wKK hK26 ?_)
             refine wRet ?_
             exact wRc tybook_Book rfl rfl 1 rfl rfl (fun ww H => (by simp only [newB, newModes, z1, z1o, z2, z3, z4, z5, z6, cond_true, cond_false, Bool.not_true, Bool.not_false, Bool.true_and, Bool.and_true, Bool.false_and, Bool.and_false, Bool.true_or, Bool.or_true, Bool.false_or, Bool.or_false]; exact ⟨none, 0, none, 0, rfl, (rS_nil _ _), (rS_nil _ _), (From.none _ _ _ _ _), (From.none _ _ _ _ _), H.out.off⟩))
         · skip
           have z5d : ¬ (3 < c.cars) := of_decide_eq_false z5
           refine wEx ?_
           refine tX (tX (bX (tN (wKK hK6 ?_))))
           refine wSeqK fun KK27 hK27 => ?_
           refine wReg ?_
           refine wLr rfl tybook_Book 0 rfl (bkL c 0 c.calls (.slice none 0 0) (.slice none 0 0) ([1, 1, 1, 0])) rfl rfl ?_
           refine wSr rfl tybook_Book 1 rfl rfl rfl rfl (bkL c 0 c.calls (.slice none 0 0) (.slice none 0 0) ([1, 1, 1, 0])) (by first | rfl | (simp only [spl]; rfl)) ?_
           refine wN ?_
           refine tN (wKK hK27 ?_)
           refine wRet ?_
           exact wRc tybook_Book rfl rfl 1 rfl rfl (fun ww H => (by simp only [newB, newModes, z1, z1o, z2, z3, z4, z5, cond_true, cond_false, Bool.not_true, Bool.not_false, Bool.true_and, Bool.and_true, Bool.false_and, Bool.and_false, Bool.true_or, Bool.or_true, Bool.false_or, Bool.or_false]; exact ⟨none, 0, none, 0, rfl, (rS_nil _ _), (rS_nil _ _), (From.none _ _ _ _ _), (From.none _ _ _ _ _), H.out.off⟩))
       · skip
         have z4d : ¬ (2 < c.cars) := of_decide_eq_false z4
         refine wEx ?_
         refine tX (tX (bX (tN (wKK hK6 ?_))))
         refine wSeqK fun KK28 hK28 => ?_
         refine wReg ?_
         refine wLr rfl tybook_Book 0 rfl (bkL c 0 c.calls (.slice none 0 0) (.slice none 0 0) ([1, 1, 0, 0])) rfl rfl ?_
         refine wSr rfl tybook_Book 1 rfl rfl rfl rfl (bkL c 0 c.calls (.slice none 0 0) (.slice none 0 0) ([1, 1, 0, 0])) (by first | rfl | (simp only [spl]; rfl)) ?_
         refine wN ?_
         refine tN (wKK hK28 ?_)
         refine wRet ?_
         exact wRc tybook_Book rfl rfl 1 rfl rfl (fun ww H => (by simp only [newB, newModes, z1, z1o, z2, z3, z4, cond_true, cond_false, Bool.not_true, Bool.not_false, Bool.true_and, Bool.and_true, Bool.false_and, Bool.and_false, Bool.true_or, Bool.or_true, Bool.false_or, Bool.or_false, show decide (3 < c.cars) = false from decide_eq_false (by omega)]; exact ⟨none, 0, none, 0, rfl, (rS_nil _ _), (rS_nil _ _), (From.none _ _ _ _ _), (From.none _ _ _ _ _), H.out.off⟩))
     · skip
       have z3d : ¬ (1 < c.cars) := of_decide_eq_false z3
       refine wEx ?_
       refine tX (tX (bX (tN (wKK hK6 ?_))))
       refine wSeqK fun KK29 hK29 => ?_
       refine wReg ?_
       refine wLr rfl tybook_Book 0 rfl (bkL c 0 c.calls (.slice none 0 0) (.slice none 0 0) ([1, 0, 0, 0])) rfl rfl ?_
       refine wSr rfl tybook_Book 1 rfl rfl rfl rfl (bkL c 0 c.calls (.slice none 0 0) (.slice none 0 0) ([1, 0, 0, 0])) (by first | rfl | (simp only [spl]; rfl)) ?_
       refine wN ?_
       refine tN (wKK hK29 ?_)
       refine wRet ?_
       exact wRc tybook_Book rfl rfl 1 rfl rfl (fun ww H => (by simp only [newB, newModes, z1, z1o, z2, z3, cond_true, cond_false, Bool.not_true, Bool.not_false, Bool.true_and, Bool.and_true, Bool.false_and, Bool.and_false, Bool.true_or, Bool.or_true, Bool.false_or, Bool.or_false, show decide (2 < c.cars) = false from decide_eq_false (by omega), show decide (3 < c.cars) = false from decide_eq_false (by omega)]; exact ⟨none, 0, none, 0, rfl, (rS_nil _ _), (rS_nil _ _), (From.none _ _ _ _ _), (From.none _ _ _ _ _), H.out.off⟩))
   · skip
     have z2d : ¬ (0 < c.cars) := of_decide_eq_false z2
     refine wEx ?_
     refine tX (tX (bX (tN (wKK hK6 ?_))))
     refine wSeqK fun KK30 hK30 => ?_
     refine wReg ?_
     refine wLr rfl tybook_Book 0 rfl (bkL c 0 c.calls (.slice none 0 0) (.slice none 0 0) ([0, 0, 0, 0])) rfl rfl ?_
     refine wSr rfl tybook_Book 1 rfl rfl rfl rfl (bkL c 0 c.calls (.slice none 0 0) (.slice none 0 0) ([0, 0, 0, 0])) (by first | rfl | (simp only [spl]; rfl)) ?_
     refine wN ?_
     refine tN (wKK hK30 ?_)
     refine wRet ?_
     exact wRc tybook_Book rfl rfl 1 rfl rfl (fun ww H => (by simp only [newB, newModes, z1, z1o, z2, cond_true, cond_false, Bool.not_true, Bool.not_false, Bool.true_and, Bool.and_true, Bool.false_and, Bool.and_false, Bool.true_or, Bool.or_true, Bool.false_or, Bool.or_false, show decide (1 < c.cars) = false from decide_eq_false (by omega), show decide (2 < c.cars) = false from decide_eq_false (by omega), show decide (3 < c.cars) = false from decide_eq_false (by omega)]; exact ⟨none, 0, none, 0, rfl, (rS_nil _ _), (rS_nil _ _), (From.none _ _ _ _ _), (From.none _ _ _ _ _), H.out.off⟩))
def tab_nextC : Wk.Tab := [(24, 3, 3), (33, 0, 0), (33, 1, 18), (33, 2, 19), (33, 3, 21), (38, 0, 0)]
theorem p_nextC {ops : Array Oper} {rest : List Oper} {o : Oper} {w0 : World} {Q : Exit → Act → World → Prop} {S : List Nat} {R : List Res} {K K' : Wk.Env} {N : Nat} (h : Wk.stp tab_nextC N ops K o = some K') (n : Wk.Wk N S w0 K' R (wpList Try.prog ops Q rest)) : Wk.Wk N S w0 K R (wpList Try.prog ops Q (o :: rest)) := Wk.wP (T := tab_nextC) (by kernel_rfl) h n
set_option maxHeartbeats 4000000 in
set_option maxRecDepth 20000 in
theorem nextC_r7 (b : BookV) (la : Option Addr) (lc : Nat) (da : Option Addr) (dc : Nat) (x : CallV) (hbl : (b.live.length : Int) ≤ b.room ∧ b.room ≤ 65536) (hbd : (b.done.length : Int) ≤ b.conf.calls ∧ b.conf.calls ≤ 64) (hbi : 0 ≤ b.index ∧ b.index ≤ 1073741824) (b2 : Nat) (b3 : Nat) (b4 : Nat) (b5 : Nat) (b7 : Nat) (z1d : ¬ (1073741824 ≤ b.index)) (a6_4 : Option Addr) (c6_4 : Nat) {wa wb : World} (H : Hid (Hp [] wa wb [rP (From wa [rS la lc 9 (b.live.map rowOf), rS da dc 8 (b.done.map callRow)] (rS a6_4 c6_4 9 ((withoutV x.id b.live).map rowOf)).foot), rS a6_4 c6_4 9 ((withoutV x.id b.live).map rowOf), rB b7 33 (bkL b.conf (b.index + 1) b.room (.slice a6_4 ((withoutV x.id b.live).length) c6_4) (.slice da b.done.length dc) b.modes), rB b5 40 (chL zeroCh), rB b4 33 (bkL zeroF 0 0 (.slice none 0 0) (.slice none 0 0) ([0, 0, 0, 0])), rB b3 38 (xL x), rB b2 33 (bkL b.conf b.index b.room (.slice la b.live.length lc) (.slice da b.done.length dc) b.modes), rS da dc 8 (b.done.map callRow), rS la lc 9 (b.live.map rowOf)])) (ac0 : Act) (hz : ac0.tmps.size = 73) (so2 : ac0.eval (.tmp 2) = .pointer (some ⟨b2, 0, none⟩)) (so3 : ac0.eval (.tmp 3) = .pointer (some ⟨b3, 0, none⟩)) (so7 : ac0.eval (.tmp 7) = .pointer (some ⟨b7, 0, none⟩)) {QR : Exit → Act → World → Prop} (hfin : ∀ (b33 : Nat) (a7_2 : Option Addr) (c7_2 : Nat) (a34 : Option Addr) (c34 : Nat) (ac1 : Act) (wz : World), ac1.tmps.size = 73 → ac1.defers = ac0.defers → (∀ t, ([29, 30, 31, 32, 33, 34, 35] : List Nat).contains t = false → ac1.eval (.tmp t) = ac0.eval (.tmp t)) →  Hid (Hp [] wa wz [rA a34 c34 38 8 ((b.done ++ [x]).map callRow), rB b33 38 (xL x), rP (From wa [rS la lc 9 (b.live.map rowOf), rS da dc 8 (b.done.map callRow)] (rS a6_4 c6_4 9 ((withoutV x.id b.live).map rowOf)).foot), rS a6_4 c6_4 9 ((withoutV x.id b.live).map rowOf), rB b7 33 (bkL b.conf (b.index + 1) b.room (.slice a6_4 ((withoutV x.id b.live).length) c6_4) (.slice a34 ((b.done ++ [x]).length) c34) b.modes), rB b5 40 (chL zeroCh), rB b4 33 (bkL zeroF 0 0 (.slice none 0 0) (.slice none 0 0) ([0, 0, 0, 0])), rB b3 38 (xL x), rB b2 33 (bkL b.conf b.index b.room (.slice la b.live.length lc) (.slice da b.done.length dc) b.modes), rS da dc 8 (b.done.map callRow), rS la lc 9 (b.live.map rowOf)]) → QR .normal ac1 wz) : (regAt Try.f45 7).wp Try.prog QR ac0 wb := by
  refine wp_region_st mixedP ⟨[0, 1, 2, 0, 1, 3, 4, 5], by kernel_rfl⟩ [[], [0], [0, 1], [], [3], [0, 1, 2, 3, 4], [0, 1, 2, 3, 4, 5], [0, 1, 2, 3, 4, 5, 6]] (by kernel_rfl) (by kernel_rfl) 73 hz (by kernel_rfl) (fun (xx : Nat × Option Addr × Nat × Option Addr × Nat) jx => match xx with | (b33, a7_2, c7_2, a34, c34) => nth [.pointer (some ⟨b2, 21, none⟩), .slice da b.done.length dc, .slice a7_2 b.done.length c7_2, .agg (xA x), .slice (some ⟨b33, 0, none⟩) 1 1, .slice a34 ((b.done ++ [x]).length) c34, .pointer (some ⟨b7, 21, none⟩), undef] jx) (fun (LL : Nat → Bool) (xx : Nat × Option Addr × Nat × Option Addr × Nat) ww => match xx with | (b33, a7_2, c7_2, a34, c34) => Hp [] wa ww (bif LL 4 then (bif LL 2 then (bif LL 5 then (bif LL 7 then [rA a34 c34 38 8 ((b.done ++ [x]).map callRow), rB b33 38 (xL x), rP (From wa [rS la lc 9 (b.live.map rowOf), rS da dc 8 (b.done.map callRow)] (rS a6_4 c6_4 9 ((withoutV x.id b.live).map rowOf)).foot), rS a6_4 c6_4 9 ((withoutV x.id b.live).map rowOf), rB b7 33 (bkL b.conf (b.index + 1) b.room (.slice a6_4 ((withoutV x.id b.live).length) c6_4) (.slice a34 ((b.done ++ [x]).length) c34) b.modes), rB b5 40 (chL zeroCh), rB b4 33 (bkL zeroF 0 0 (.slice none 0 0) (.slice none 0 0) ([0, 0, 0, 0])), rB b3 38 (xL x), rB b2 33 (bkL b.conf b.index b.room (.slice la b.live.length lc) (.slice da b.done.length dc) b.modes), rS da dc 8 (b.done.map callRow), rS la lc 9 (b.live.map rowOf)] else [rA a34 c34 38 8 ((b.done ++ [x]).map callRow), rB b33 38 (xL x), rP (From wa [rS la lc 9 (b.live.map rowOf), rS da dc 8 (b.done.map callRow)] (rS a6_4 c6_4 9 ((withoutV x.id b.live).map rowOf)).foot), rS a6_4 c6_4 9 ((withoutV x.id b.live).map rowOf), rB b7 33 (bkL b.conf (b.index + 1) b.room (.slice a6_4 ((withoutV x.id b.live).length) c6_4) (.slice da b.done.length dc) b.modes), rB b5 40 (chL zeroCh), rB b4 33 (bkL zeroF 0 0 (.slice none 0 0) (.slice none 0 0) ([0, 0, 0, 0])), rB b3 38 (xL x), rB b2 33 (bkL b.conf b.index b.room (.slice la b.live.length lc) (.slice da b.done.length dc) b.modes), rS da dc 8 (b.done.map callRow), rS la lc 9 (b.live.map rowOf)]) else [rA a7_2 c7_2 38 8 (b.done.map callRow), rB b33 38 (xL x), rP (From wa [rS la lc 9 (b.live.map rowOf), rS da dc 8 (b.done.map callRow)] (rS a6_4 c6_4 9 ((withoutV x.id b.live).map rowOf)).foot), rS a6_4 c6_4 9 ((withoutV x.id b.live).map rowOf), rB b7 33 (bkL b.conf (b.index + 1) b.room (.slice a6_4 ((withoutV x.id b.live).length) c6_4) (.slice da b.done.length dc) b.modes), rB b5 40 (chL zeroCh), rB b4 33 (bkL zeroF 0 0 (.slice none 0 0) (.slice none 0 0) ([0, 0, 0, 0])), rB b3 38 (xL x), rB b2 33 (bkL b.conf b.index b.room (.slice la b.live.length lc) (.slice da b.done.length dc) b.modes), rS da dc 8 (b.done.map callRow), rS la lc 9 (b.live.map rowOf)]) else [rB b33 38 (xL x), rP (From wa [rS la lc 9 (b.live.map rowOf), rS da dc 8 (b.done.map callRow)] (rS a6_4 c6_4 9 ((withoutV x.id b.live).map rowOf)).foot), rS a6_4 c6_4 9 ((withoutV x.id b.live).map rowOf), rB b7 33 (bkL b.conf (b.index + 1) b.room (.slice a6_4 ((withoutV x.id b.live).length) c6_4) (.slice da b.done.length dc) b.modes), rB b5 40 (chL zeroCh), rB b4 33 (bkL zeroF 0 0 (.slice none 0 0) (.slice none 0 0) ([0, 0, 0, 0])), rB b3 38 (xL x), rB b2 33 (bkL b.conf b.index b.room (.slice la b.live.length lc) (.slice da b.done.length dc) b.modes), rS da dc 8 (b.done.map callRow), rS la lc 9 (b.live.map rowOf)]) else (bif LL 2 then [rA a7_2 c7_2 38 8 (b.done.map callRow), rP (From wa [rS la lc 9 (b.live.map rowOf), rS da dc 8 (b.done.map callRow)] (rS a6_4 c6_4 9 ((withoutV x.id b.live).map rowOf)).foot), rS a6_4 c6_4 9 ((withoutV x.id b.live).map rowOf), rB b7 33 (bkL b.conf (b.index + 1) b.room (.slice a6_4 ((withoutV x.id b.live).length) c6_4) (.slice da b.done.length dc) b.modes), rB b5 40 (chL zeroCh), rB b4 33 (bkL zeroF 0 0 (.slice none 0 0) (.slice none 0 0) ([0, 0, 0, 0])), rB b3 38 (xL x), rB b2 33 (bkL b.conf b.index b.room (.slice la b.live.length lc) (.slice da b.done.length dc) b.modes), rS da dc 8 (b.done.map callRow), rS la lc 9 (b.live.map rowOf)] else [rP (From wa [rS la lc 9 (b.live.map rowOf), rS da dc 8 (b.done.map callRow)] (rS a6_4 c6_4 9 ((withoutV x.id b.live).map rowOf)).foot), rS a6_4 c6_4 9 ((withoutV x.id b.live).map rowOf), rB b7 33 (bkL b.conf (b.index + 1) b.room (.slice a6_4 ((withoutV x.id b.live).length) c6_4) (.slice da b.done.length dc) b.modes), rB b5 40 (chL zeroCh), rB b4 33 (bkL zeroF 0 0 (.slice none 0 0) (.slice none 0 0) ([0, 0, 0, 0])), rB b3 38 (xL x), rB b2 33 (bkL b.conf b.index b.room (.slice la b.live.length lc) (.slice da b.done.length dc) b.modes), rS da dc 8 (b.done.map callRow), rS la lc 9 (b.live.map rowOf)]))) (default, default, default, default, default) H.out.drew ?_ (steps_al ?_) ?_ ?_
  · intro L1 L2 xx ww hL sg
    have lh4 := hL 4 (by decide)
    have lh2 := hL 2 (by decide)
    have lh5 := hL 5 (by decide)
    have lh7 := hL 7 (by decide)
    simp only [lh4, lh2, lh5, lh7] at sg
    exact sg
  · refine al_cons ?_ (al_cons ?_ (al_cons ?_ (al_cons ?_ (al_cons ?_ (al_cons ?_ (al_cons ?_ (al_cons ?_ (al_nil))))))))
    · intro LL xx ac wc sg hst hwant QQ hgo
      obtain ⟨b33, a7_2, c7_2, a34, c34⟩ := xx
      have se2 : ac.eval (.tmp 2) = _ := ((sg.free 2 (by kernel_rfl)).trans so2)
      have sg2 := gt_of se2
      exact op_val hwant hgo hst _ (by simp only [execOp, nth]; go_simp <;> omega) rfl
    · intro LL xx ac wc sg hst hwant QQ hgo
      obtain ⟨b33, a7_2, c7_2, a34, c34⟩ := xx
      rcases Bool.eq_false_or_eq_true (LL 4) with lh4 | lh4
      · skip
        have H := Lib.hid hst
        simp only [lh4, sg.des 2 rfl, sg.des 5 rfl, sg.des 7 rfl, cond_true, cond_false] at H
        refine hpA_load1 tyS_api_Call H rfl (sg.slot 0 (sg.anc 0 rfl)) hwant (by (repeat (first | exact List.Mem.head _ | apply List.Mem.tail))) (by rfl) ?_
        exact hgo _ (b33, a7_2, c7_2, a34, c34) _ (fun _ _ => rfl) rfl hst
      · skip
        have H := Lib.hid hst
        simp only [lh4, sg.des 2 rfl, sg.des 5 rfl, sg.des 7 rfl, cond_true, cond_false] at H
        refine hpA_load1 tyS_api_Call H rfl (sg.slot 0 (sg.anc 0 rfl)) hwant (by (repeat (first | exact List.Mem.head _ | apply List.Mem.tail))) (by rfl) ?_
        exact hgo _ (b33, a7_2, c7_2, a34, c34) _ (fun _ _ => rfl) rfl hst
    · intro LL xx ac wc sg hst hwant QQ hgo
      obtain ⟨b33, _, _, a34, c34⟩ := xx
      have se30 : ac.eval (.tmp 30) = _ := (sg.slot 1 (sg.anc 1 rfl))
      have sg30 := gt_of se30
      (try simp only [nth] at se30 sg30)
      rcases Bool.eq_false_or_eq_true (LL 4) with lh4 | lh4
      · skip
        have H := Lib.hid hst
        simp only [lh4, sg.self, sg.des 5 rfl, sg.des 7 rfl, cond_true, cond_false] at H
        refine op_call hwant hgo 50 #[.slice da b.done.length dc] (by simp only [execOp]; go_simp) (cloneCC da dc b.done wc (hp_held H (by (repeat (first | exact List.Mem.head _ | apply List.Mem.tail)))) (by omega)) ?_
        rintro er wd ⟨a7_2, c7_2, rfl, hA1, hA2, hof⟩
        have H2 := hp_gotA H hof hA1 hA2
        exact ⟨_, (b33, a7_2, c7_2, a34, c34), rfl, (sg.agree (x' := (b33, a7_2, c7_2, a34, c34)) (n := 8) rfl (by (iterate 8 (refine ix_cons (by first | exact fun _ => rfl | exact no sg.self | exact no (sg.des _ rfl)) ?_)); exact ix_nil)), rfl, (by simp only [(show upd LL 2 4 = LL 4 from rfl), lh4, (show upd LL 2 2 = true from rfl), (show upd LL 2 5 = LL 5 from rfl), sg.des 5 rfl, (show upd LL 2 7 = LL 7 from rfl), sg.des 7 rfl, cond_true, cond_false]; exact H2.out)⟩
      · skip
        have H := Lib.hid hst
        simp only [lh4, sg.self, sg.des 5 rfl, sg.des 7 rfl, cond_true, cond_false] at H
        refine op_call hwant hgo 50 #[.slice da b.done.length dc] (by simp only [execOp]; go_simp) (cloneCC da dc b.done wc (hp_held H (by (repeat (first | exact List.Mem.head _ | apply List.Mem.tail)))) (by omega)) ?_
        rintro er wd ⟨a7_2, c7_2, rfl, hA1, hA2, hof⟩
        have H2 := hp_gotA H hof hA1 hA2
        exact ⟨_, (b33, a7_2, c7_2, a34, c34), rfl, (sg.agree (x' := (b33, a7_2, c7_2, a34, c34)) (n := 8) rfl (by (iterate 8 (refine ix_cons (by first | exact fun _ => rfl | exact no sg.self | exact no (sg.des _ rfl)) ?_)); exact ix_nil)), rfl, (by simp only [(show upd LL 2 4 = LL 4 from rfl), lh4, (show upd LL 2 2 = true from rfl), (show upd LL 2 5 = LL 5 from rfl), sg.des 5 rfl, (show upd LL 2 7 = LL 7 from rfl), sg.des 7 rfl, cond_true, cond_false]; exact H2.out)⟩
    · intro LL xx ac wc sg hst hwant QQ hgo
      obtain ⟨b33, a7_2, c7_2, a34, c34⟩ := xx
      rcases Bool.eq_false_or_eq_true (LL 2) with lh2 | lh2
      · skip
        have H := Lib.hid hst
        simp only [sg.des 4 rfl, lh2, sg.des 5 rfl, sg.des 7 rfl, cond_true, cond_false] at H
        refine hpA_load tyapi_Call H rfl ((sg.free 3 (by kernel_rfl)).trans so3) hwant (by (repeat (first | exact List.Mem.head _ | apply List.Mem.tail))) (by rfl) rfl ?_
        exact hgo _ (b33, a7_2, c7_2, a34, c34) _ (fun _ _ => rfl) rfl hst
      · skip
        have H := Lib.hid hst
        simp only [sg.des 4 rfl, lh2, sg.des 5 rfl, sg.des 7 rfl, cond_true, cond_false] at H
        refine hpA_load tyapi_Call H rfl ((sg.free 3 (by kernel_rfl)).trans so3) hwant (by (repeat (first | exact List.Mem.head _ | apply List.Mem.tail))) (by rfl) rfl ?_
        exact hgo _ (b33, a7_2, c7_2, a34, c34) _ (fun _ _ => rfl) rfl hst
    · intro LL xx ac wc sg hst hwant QQ hgo
      obtain ⟨_, a7_2, c7_2, a34, c34⟩ := xx
      have se32 : ac.eval (.tmp 32) = _ := (sg.slot 3 (sg.anc 3 rfl))
      have sg32 := gt_of se32
      (try simp only [nth] at se32 sg32)
      (try simp only [xA, xL, cA, cL, chA, chL, bkA, bkL] at se32 sg32)
      rcases Bool.eq_false_or_eq_true (LL 2) with lh2 | lh2
      · skip
        have H := Lib.hid hst
        simp only [sg.self, lh2, sg.des 5 rfl, sg.des 7 rfl, cond_true, cond_false] at H
        refine hpA_bslice (cs := (xL x)) Try.underlying30 tyapi_Call H rfl rfl (by decide) (by decide) (by first | (go_simp; rfl) | rfl | (simp; rfl)) ?_
        intro wd b33 H2
        replace H2 := hp_front H2 10 rfl
        replace H2 := hp_front H2 10 rfl
        replace H2 := hp_front H2 10 rfl
        replace H2 := hp_front H2 10 rfl
        replace H2 := hp_front H2 10 rfl
        replace H2 := hp_front H2 10 rfl
        replace H2 := hp_front H2 10 rfl
        replace H2 := hp_front H2 10 rfl
        replace H2 := hp_front H2 10 rfl
        replace H2 := hp_front H2 9 rfl
        replace H2 := hp_front H2 10 rfl
        exact hgo _ (b33, a7_2, c7_2, a34, c34) _ (sg.agree (x' := (b33, a7_2, c7_2, a34, c34)) (n := 8) rfl (by (iterate 8 (refine ix_cons (by first | exact fun _ => rfl | exact no sg.self | exact no (sg.des _ rfl)) ?_)); exact ix_nil)) rfl (by simp only [(show upd LL 4 4 = true from rfl), (show upd LL 4 2 = LL 2 from rfl), lh2, (show upd LL 4 5 = LL 5 from rfl), sg.des 5 rfl, (show upd LL 4 7 = LL 7 from rfl), sg.des 7 rfl, cond_true, cond_false]; exact H2.out)
      · skip
        have H := Lib.hid hst
        simp only [sg.self, lh2, sg.des 5 rfl, sg.des 7 rfl, cond_true, cond_false] at H
        refine hpA_bslice (cs := (xL x)) Try.underlying30 tyapi_Call H rfl rfl (by decide) (by decide) (by first | (go_simp; rfl) | rfl | (simp; rfl)) ?_
        intro wd b33 H2
        exact hgo _ (b33, a7_2, c7_2, a34, c34) _ (sg.agree (x' := (b33, a7_2, c7_2, a34, c34)) (n := 8) rfl (by (iterate 8 (refine ix_cons (by first | exact fun _ => rfl | exact no sg.self | exact no (sg.des _ rfl)) ?_)); exact ix_nil)) rfl (by simp only [(show upd LL 4 4 = true from rfl), (show upd LL 4 2 = LL 2 from rfl), lh2, (show upd LL 4 5 = LL 5 from rfl), sg.des 5 rfl, (show upd LL 4 7 = LL 7 from rfl), sg.des 7 rfl, cond_true, cond_false]; exact H2.out)
    · intro LL xx ac wc sg hst hwant QQ hgo
      obtain ⟨b33, a7_2, c7_2, _, _⟩ := xx
      have H := Lib.hid hst
      simp only [sg.anc 4 rfl, sg.anc 2 rfl, sg.self, sg.des 7 rfl, cond_true, cond_false] at H
      refine hp_append (news := [callRow x]) elCall H rfl rfl 0 rfl (sg.slot 2 (sg.anc 2 rfl)) (by simp) (sg.slot 4 (sg.anc 4 rfl)) rfl (hp_single (e := 38) H (by (repeat (first | exact List.Mem.head _ | apply List.Mem.tail))) rfl (by simp [callRow, Value.oneCell'])) (by simp; omega) (by decide) ?_
      intro wd a34 c34 H2
      rw [show b.done.map callRow ++ [callRow x] = (b.done ++ [x]).map callRow by simp] at H2 ⊢
      rw [List.length_map]
      exact hgo _ (b33, a7_2, c7_2, a34, c34) _ (sg.agree (x' := (b33, a7_2, c7_2, a34, c34)) (n := 8) rfl (by (iterate 8 (refine ix_cons (by first | exact fun _ => rfl | exact no sg.self | exact no (sg.des _ rfl)) ?_)); exact ix_nil)) rfl (by simp only [(show upd LL 5 4 = LL 4 from rfl), sg.anc 4 rfl, (show upd LL 5 2 = LL 2 from rfl), sg.anc 2 rfl, (show upd LL 5 5 = true from rfl), (show upd LL 5 7 = LL 7 from rfl), sg.des 7 rfl, cond_true, cond_false]; exact H2.out)
    · intro LL xx ac wc sg hst hwant QQ hgo
      obtain ⟨b33, a7_2, c7_2, a34, c34⟩ := xx
      have se7 : ac.eval (.tmp 7) = _ := ((sg.free 7 (by kernel_rfl)).trans so7)
      have sg7 := gt_of se7
      exact op_val hwant hgo hst _ (by simp only [execOp, nth]; go_simp <;> omega) rfl
    · intro LL xx ac wc sg hst hwant QQ hgo
      obtain ⟨b33, a7_2, c7_2, a34, c34⟩ := xx
      have H := Lib.hid hst
      simp only [sg.anc 4 rfl, sg.anc 2 rfl, sg.anc 5 rfl, sg.self, cond_true, cond_false] at H
      refine hpA_store1 tyS_api_Call H rfl rfl (sg.slot 6 (sg.anc 6 rfl)) (sg.slot 5 (sg.anc 5 rfl)) (by rfl) (by repeat (first | apply Put.head | apply Put.tail)) (by simp [xA, xL, cA, cL, chA, chL, bkA, bkL]) (by first | rfl | (simp [xA, xL, cA, cL, chA, chL, bkA, bkL, Value.oneCell'])) (by rfl) rfl ?_
      intro wd H2
      exact hgo _ (b33, a7_2, c7_2, a34, c34) _ (sg.agree (x' := (b33, a7_2, c7_2, a34, c34)) (n := 8) rfl (by (iterate 8 (refine ix_cons (by first | exact fun _ => rfl | exact no sg.self | exact no (sg.des _ rfl)) ?_)); exact ix_nil)) rfl (by simp only [(show upd LL 7 4 = LL 4 from rfl), sg.anc 4 rfl, (show upd LL 7 2 = LL 2 from rfl), sg.anc 2 rfl, (show upd LL 7 5 = LL 5 from rfl), sg.anc 5 rfl, (show upd LL 7 7 = true from rfl), cond_true, cond_false]; exact H2.out)
  · exact skips [] (by kernel_rfl) (fun _ h => by cases h)
  · intro xx ac1 wz hfr hsl hst
    obtain ⟨b33, a7_2, c7_2, a34, c34⟩ := xx
    exact hfin b33 a7_2 c7_2 a34 c34 ac1 wz (hfr.size.trans hz) hfr.defers (fr_keep hfr [29, 30, 31, 32, 33, 34, 35] (by kernel_rfl)) (Lib.hid hst)
set_option maxHeartbeats 4000000 in
set_option maxRecDepth 20000 in
theorem nextC_r9 (b : BookV) (la : Option Addr) (lc : Nat) (da : Option Addr) (dc : Nat) (x : CallV) (hbl : (b.live.length : Int) ≤ b.room ∧ b.room ≤ 65536) (hbd : (b.done.length : Int) ≤ b.conf.calls ∧ b.conf.calls ≤ 64) (hbi : 0 ≤ b.index ∧ b.index ≤ 1073741824) (b2 : Nat) (b3 : Nat) (b4 : Nat) (b5 : Nat) (b7 : Nat) (z1d : ¬ (1073741824 ≤ b.index)) (a6_4 : Option Addr) (c6_4 : Nat) (b33 : Nat) (a34 : Option Addr) (c34 : Nat) (hmx : max 0 (((b.done ++ [x]).length : Int) - b.conf.calls) = 0) (hlast : lastV b.conf.calls (b.done ++ [x]) = (b.done ++ [x]).drop 0) (hyl : (b.done ++ [x]).length = b.done.length + 1) {wa wb : World} (H : Hid (Hp [] wa wb [rA a34 c34 38 8 ((b.done ++ [x]).map callRow), rB b33 38 (xL x), rP (From wa [rS la lc 9 (b.live.map rowOf), rS da dc 8 (b.done.map callRow)] (rS a6_4 c6_4 9 ((withoutV x.id b.live).map rowOf)).foot), rS a6_4 c6_4 9 ((withoutV x.id b.live).map rowOf), rB b7 33 (bkL b.conf (b.index + 1) b.room (.slice a6_4 ((withoutV x.id b.live).length) c6_4) (.slice (cutA a34 c34 0 8) (((b.done ++ [x]).length) - 0) (c34 - 0)) b.modes), rB b5 40 (chL zeroCh), rB b4 33 (bkL zeroF 0 0 (.slice none 0 0) (.slice none 0 0) ([0, 0, 0, 0])), rB b3 38 (xL x), rB b2 33 (bkL b.conf b.index b.room (.slice la b.live.length lc) (.slice da b.done.length dc) b.modes), rS da dc 8 (b.done.map callRow), rS la lc 9 (b.live.map rowOf)])) (ac0 : Act) (hz : ac0.tmps.size = 73) (so3 : ac0.eval (.tmp 3) = .pointer (some ⟨b3, 0, none⟩)) (so4 : ac0.eval (.tmp 4) = .pointer (some ⟨b4, 0, none⟩)) (so5 : ac0.eval (.tmp 5) = .pointer (some ⟨b5, 0, none⟩)) (so7 : ac0.eval (.tmp 7) = .pointer (some ⟨b7, 0, none⟩)) {QR : Exit → Act → World → Prop} (hfin : ∀ (ac1 : Act) (wz : World), ac1.tmps.size = 73 → ac1.defers = ac0.defers → (∀ t, ([6, 48, 49, 50, 51, 52] : List Nat).contains t = false → ac1.eval (.tmp t) = ac0.eval (.tmp t)) → ac1.eval (.tmp 6) = .int .i64 0 →  Hid (Hp [] wa wz [rA a34 c34 38 8 ((b.done ++ [x]).map callRow), rB b33 38 (xL x), rP (From wa [rS la lc 9 (b.live.map rowOf), rS da dc 8 (b.done.map callRow)] (rS a6_4 c6_4 9 ((withoutV x.id b.live).map rowOf)).foot), rS a6_4 c6_4 9 ((withoutV x.id b.live).map rowOf), rB b7 33 (bkL b.conf (b.index + 1) b.room (.slice a6_4 ((withoutV x.id b.live).length) c6_4) (.slice (cutA a34 c34 0 8) (((b.done ++ [x]).length) - 0) (c34 - 0)) b.modes), rB b5 40 [.int .i64 (b.index + 1), .int .i64 x.id, .int .i64 x.kind, .int .i64 x.src, .int .i64 x.dst, .int .i64 x.car, .int .i64 x.state, .int .i64 x.owner, .int .i64 x.born, .int .i64 0, .int .i64 0], rB b4 33 (bkL b.conf (b.index + 1) b.room (.slice a6_4 ((withoutV x.id b.live).length) c6_4) (.slice (cutA a34 c34 0 8) (((b.done ++ [x]).length) - 0) (c34 - 0)) b.modes), rB b3 38 (xL x), rB b2 33 (bkL b.conf b.index b.room (.slice la b.live.length lc) (.slice da b.done.length dc) b.modes), rS da dc 8 (b.done.map callRow), rS la lc 9 (b.live.map rowOf)]) → QR .normal ac1 wz) : (regAt Try.f45 9).wp Try.prog QR ac0 wb := by
  refine wp_region_st mixedP ⟨[0, 0, 1, 0, 2, 1, 3, 4], by kernel_rfl⟩ [[], [], [1], [], [1, 2, 3], [0], [0, 1, 2, 3, 4, 5], [0, 1, 2, 3, 4, 5, 6]] (by kernel_rfl) (by kernel_rfl) 73 hz (by kernel_rfl) (fun (xx : Unit) jx => nth [.agg (bkA b.conf (b.index + 1) b.room (.slice a6_4 ((withoutV x.id b.live).length) c6_4) (.slice (cutA a34 c34 0 8) (((b.done ++ [x]).length) - 0) (c34 - 0)) b.modes), .pointer (some ⟨b7, 18, none⟩), .int .i64 (b.index + 1), .agg (xA x), .agg #[.int .i64 (b.index + 1), .int .i64 x.id, .int .i64 x.kind, .int .i64 x.src, .int .i64 x.dst, .int .i64 x.car, .int .i64 x.state, .int .i64 x.owner, .int .i64 x.born, .int .i64 0, .int .i64 0], undef, undef, .int .i64 0] jx) (fun (LL : Nat → Bool) (xx : Unit) ww => Hp [] wa ww (bif LL 5 then (bif LL 6 then [rA a34 c34 38 8 ((b.done ++ [x]).map callRow), rB b33 38 (xL x), rP (From wa [rS la lc 9 (b.live.map rowOf), rS da dc 8 (b.done.map callRow)] (rS a6_4 c6_4 9 ((withoutV x.id b.live).map rowOf)).foot), rS a6_4 c6_4 9 ((withoutV x.id b.live).map rowOf), rB b7 33 (bkL b.conf (b.index + 1) b.room (.slice a6_4 ((withoutV x.id b.live).length) c6_4) (.slice (cutA a34 c34 0 8) (((b.done ++ [x]).length) - 0) (c34 - 0)) b.modes), rB b5 40 [.int .i64 (b.index + 1), .int .i64 x.id, .int .i64 x.kind, .int .i64 x.src, .int .i64 x.dst, .int .i64 x.car, .int .i64 x.state, .int .i64 x.owner, .int .i64 x.born, .int .i64 0, .int .i64 0], rB b4 33 (bkL b.conf (b.index + 1) b.room (.slice a6_4 ((withoutV x.id b.live).length) c6_4) (.slice (cutA a34 c34 0 8) (((b.done ++ [x]).length) - 0) (c34 - 0)) b.modes), rB b3 38 (xL x), rB b2 33 (bkL b.conf b.index b.room (.slice la b.live.length lc) (.slice da b.done.length dc) b.modes), rS da dc 8 (b.done.map callRow), rS la lc 9 (b.live.map rowOf)] else [rA a34 c34 38 8 ((b.done ++ [x]).map callRow), rB b33 38 (xL x), rP (From wa [rS la lc 9 (b.live.map rowOf), rS da dc 8 (b.done.map callRow)] (rS a6_4 c6_4 9 ((withoutV x.id b.live).map rowOf)).foot), rS a6_4 c6_4 9 ((withoutV x.id b.live).map rowOf), rB b7 33 (bkL b.conf (b.index + 1) b.room (.slice a6_4 ((withoutV x.id b.live).length) c6_4) (.slice (cutA a34 c34 0 8) (((b.done ++ [x]).length) - 0) (c34 - 0)) b.modes), rB b5 40 (chL zeroCh), rB b4 33 (bkL b.conf (b.index + 1) b.room (.slice a6_4 ((withoutV x.id b.live).length) c6_4) (.slice (cutA a34 c34 0 8) (((b.done ++ [x]).length) - 0) (c34 - 0)) b.modes), rB b3 38 (xL x), rB b2 33 (bkL b.conf b.index b.room (.slice la b.live.length lc) (.slice da b.done.length dc) b.modes), rS da dc 8 (b.done.map callRow), rS la lc 9 (b.live.map rowOf)]) else [rA a34 c34 38 8 ((b.done ++ [x]).map callRow), rB b33 38 (xL x), rP (From wa [rS la lc 9 (b.live.map rowOf), rS da dc 8 (b.done.map callRow)] (rS a6_4 c6_4 9 ((withoutV x.id b.live).map rowOf)).foot), rS a6_4 c6_4 9 ((withoutV x.id b.live).map rowOf), rB b7 33 (bkL b.conf (b.index + 1) b.room (.slice a6_4 ((withoutV x.id b.live).length) c6_4) (.slice (cutA a34 c34 0 8) (((b.done ++ [x]).length) - 0) (c34 - 0)) b.modes), rB b5 40 (chL zeroCh), rB b4 33 (bkL zeroF 0 0 (.slice none 0 0) (.slice none 0 0) ([0, 0, 0, 0])), rB b3 38 (xL x), rB b2 33 (bkL b.conf b.index b.room (.slice la b.live.length lc) (.slice da b.done.length dc) b.modes), rS da dc 8 (b.done.map callRow), rS la lc 9 (b.live.map rowOf)])) () H.out.drew ?_ (steps_al ?_) ?_ ?_
  · intro L1 L2 xx ww hL sg
    have lh5 := hL 5 (by decide)
    have lh6 := hL 6 (by decide)
    simp only [lh5, lh6] at sg
    exact sg
  · refine al_cons ?_ (al_cons ?_ (al_cons ?_ (al_cons ?_ (al_cons ?_ (al_cons ?_ (al_cons ?_ (al_cons ?_ (al_nil))))))))
    · intro LL xx ac wc sg hst hwant QQ hgo
      have H := Lib.hid hst
      simp only [sg.des 5 rfl, sg.des 6 rfl, cond_true, cond_false] at H
      refine hpA_load tybook_Book H rfl ((sg.free 7 (by kernel_rfl)).trans so7) hwant (by (repeat (first | exact List.Mem.head _ | apply List.Mem.tail))) (by rfl) rfl ?_
      exact hgo _ () _ (fun _ _ => rfl) rfl hst
    · intro LL xx ac wc sg hst hwant QQ hgo
      have se7 : ac.eval (.tmp 7) = _ := ((sg.free 7 (by kernel_rfl)).trans so7)
      have sg7 := gt_of se7
      exact op_val hwant hgo hst _ (by simp only [execOp, nth]; go_simp <;> omega) rfl
    · intro LL xx ac wc sg hst hwant QQ hgo
      rcases Bool.eq_false_or_eq_true (LL 5) with lh5 | lh5
      · skip
        have H := Lib.hid hst
        simp only [lh5, sg.des 6 rfl, cond_true, cond_false] at H
        refine hpA_load1 tyint H rfl (sg.slot 1 (sg.anc 1 rfl)) hwant (by (repeat (first | exact List.Mem.head _ | apply List.Mem.tail))) (by rfl) ?_
        exact hgo _ () _ (fun _ _ => rfl) rfl hst
      · skip
        have H := Lib.hid hst
        simp only [lh5, sg.des 6 rfl, cond_true, cond_false] at H
        refine hpA_load1 tyint H rfl (sg.slot 1 (sg.anc 1 rfl)) hwant (by (repeat (first | exact List.Mem.head _ | apply List.Mem.tail))) (by rfl) ?_
        exact hgo _ () _ (fun _ _ => rfl) rfl hst
    · intro LL xx ac wc sg hst hwant QQ hgo
      rcases Bool.eq_false_or_eq_true (LL 5) with lh5 | lh5
      · skip
        have H := Lib.hid hst
        simp only [lh5, sg.des 6 rfl, cond_true, cond_false] at H
        refine hpA_load tyapi_Call H rfl ((sg.free 3 (by kernel_rfl)).trans so3) hwant (by (repeat (first | exact List.Mem.head _ | apply List.Mem.tail))) (by rfl) rfl ?_
        exact hgo _ () _ (fun _ _ => rfl) rfl hst
      · skip
        have H := Lib.hid hst
        simp only [lh5, sg.des 6 rfl, cond_true, cond_false] at H
        refine hpA_load tyapi_Call H rfl ((sg.free 3 (by kernel_rfl)).trans so3) hwant (by (repeat (first | exact List.Mem.head _ | apply List.Mem.tail))) (by rfl) rfl ?_
        exact hgo _ () _ (fun _ _ => rfl) rfl hst
    · intro LL xx ac wc sg hst hwant QQ hgo
      have se50 : ac.eval (.tmp 50) = _ := (sg.slot 2 (sg.anc 2 rfl))
      have sg50 := gt_of se50
      have se51 : ac.eval (.tmp 51) = _ := (sg.slot 3 (sg.anc 3 rfl))
      have sg51 := gt_of se51
      (try simp only [nth] at se50 sg50 se51 sg51)
      (try simp only [xA, xL, cA, cL, chA, chL, bkA, bkL] at se50 sg50 se51 sg51)
      exact op_val hwant hgo hst _ (by simp only [execOp, nth, xA, xL, cA, cL, chA, chL, bkA, bkL]; go_simp <;> omega) rfl
    · intro LL xx ac wc sg hst hwant QQ hgo
      have H := Lib.hid hst
      simp only [sg.self, sg.des 6 rfl, cond_true, cond_false] at H
      refine hpA_store tybook_Book H rfl rfl ((sg.free 4 (by kernel_rfl)).trans so4) (sg.slot 0 (sg.anc 0 rfl)) rfl (by repeat (first | apply Put.head | apply Put.tail)) (by simp [xA, xL, cA, cL, chA, chL, bkA, bkL]) (by simp [xA, xL, cA, cL, chA, chL, bkA, bkL, Value.oneCell']) (by first | rfl | (simp only [spl]; rfl)) rfl ?_
      intro wd H2
      exact hgo _ () _ (fun _ _ => rfl) rfl (by simp only [(show upd LL 5 5 = true from rfl), (show upd LL 5 6 = LL 6 from rfl), sg.des 6 rfl, cond_true, cond_false]; exact H2.out)
    · intro LL xx ac wc sg hst hwant QQ hgo
      have H := Lib.hid hst
      simp only [sg.anc 5 rfl, sg.self, cond_true, cond_false] at H
      refine hpA_store tyapi_Change H rfl rfl ((sg.free 5 (by kernel_rfl)).trans so5) (sg.slot 4 (sg.anc 4 rfl)) rfl (by repeat (first | apply Put.head | apply Put.tail)) (by simp [xA, xL, cA, cL, chA, chL, bkA, bkL]) (by simp [xA, xL, cA, cL, chA, chL, bkA, bkL, Value.oneCell']) (by first | rfl | (simp only [spl]; rfl)) rfl ?_
      intro wd H2
      exact hgo _ () _ (fun _ _ => rfl) rfl (by simp only [(show upd LL 6 5 = LL 5 from rfl), sg.anc 5 rfl, (show upd LL 6 6 = true from rfl), cond_true, cond_false]; exact H2.out)
    · intro LL xx ac wc sg hst hwant QQ hgo
      exact op_val hwant hgo hst _ (exec_assign rfl rfl) rfl
  · exact skips [] (by kernel_rfl) (fun _ h => by cases h)
  · intro xx ac1 wz hfr hsl hst
    exact hfin ac1 wz (hfr.size.trans hz) hfr.defers (fr_keep hfr [6, 48, 49, 50, 51, 52] (by kernel_rfl)) (hsl 7 (by decide)) (Lib.hid hst)
set_option maxHeartbeats 4000000 in
set_option maxRecDepth 20000 in
theorem nextC_r9x1 (b : BookV) (la : Option Addr) (lc : Nat) (da : Option Addr) (dc : Nat) (x : CallV) (hbl : (b.live.length : Int) ≤ b.room ∧ b.room ≤ 65536) (hbd : (b.done.length : Int) ≤ b.conf.calls ∧ b.conf.calls ≤ 64) (hbi : 0 ≤ b.index ∧ b.index ≤ 1073741824) (b2 : Nat) (b3 : Nat) (b4 : Nat) (b5 : Nat) (b7 : Nat) (z1d : ¬ (1073741824 ≤ b.index)) (a6_4 : Option Addr) (c6_4 : Nat) (b33 : Nat) (a34 : Option Addr) (c34 : Nat) (hmx : max 0 (((b.done ++ [x]).length : Int) - b.conf.calls) = 1) (hlast : lastV b.conf.calls (b.done ++ [x]) = (b.done ++ [x]).drop 1) (hyl : (b.done ++ [x]).length = b.done.length + 1) {wa wb : World} (H : Hid (Hp [] wa wb [rA a34 c34 38 8 ((b.done ++ [x]).map callRow), rB b33 38 (xL x), rP (From wa [rS la lc 9 (b.live.map rowOf), rS da dc 8 (b.done.map callRow)] (rS a6_4 c6_4 9 ((withoutV x.id b.live).map rowOf)).foot), rS a6_4 c6_4 9 ((withoutV x.id b.live).map rowOf), rB b7 33 (bkL b.conf (b.index + 1) b.room (.slice a6_4 ((withoutV x.id b.live).length) c6_4) (.slice (cutA a34 c34 1 8) (((b.done ++ [x]).length) - 1) (c34 - 1)) b.modes), rB b5 40 (chL zeroCh), rB b4 33 (bkL zeroF 0 0 (.slice none 0 0) (.slice none 0 0) ([0, 0, 0, 0])), rB b3 38 (xL x), rB b2 33 (bkL b.conf b.index b.room (.slice la b.live.length lc) (.slice da b.done.length dc) b.modes), rS da dc 8 (b.done.map callRow), rS la lc 9 (b.live.map rowOf)])) (ac0 : Act) (hz : ac0.tmps.size = 73) (so3 : ac0.eval (.tmp 3) = .pointer (some ⟨b3, 0, none⟩)) (so4 : ac0.eval (.tmp 4) = .pointer (some ⟨b4, 0, none⟩)) (so5 : ac0.eval (.tmp 5) = .pointer (some ⟨b5, 0, none⟩)) (so7 : ac0.eval (.tmp 7) = .pointer (some ⟨b7, 0, none⟩)) {QR : Exit → Act → World → Prop} (hfin : ∀ (ac1 : Act) (wz : World), ac1.tmps.size = 73 → ac1.defers = ac0.defers → (∀ t, ([6, 48, 49, 50, 51, 52] : List Nat).contains t = false → ac1.eval (.tmp t) = ac0.eval (.tmp t)) → ac1.eval (.tmp 6) = .int .i64 0 →  Hid (Hp [] wa wz [rA a34 c34 38 8 ((b.done ++ [x]).map callRow), rB b33 38 (xL x), rP (From wa [rS la lc 9 (b.live.map rowOf), rS da dc 8 (b.done.map callRow)] (rS a6_4 c6_4 9 ((withoutV x.id b.live).map rowOf)).foot), rS a6_4 c6_4 9 ((withoutV x.id b.live).map rowOf), rB b7 33 (bkL b.conf (b.index + 1) b.room (.slice a6_4 ((withoutV x.id b.live).length) c6_4) (.slice (cutA a34 c34 1 8) (((b.done ++ [x]).length) - 1) (c34 - 1)) b.modes), rB b5 40 [.int .i64 (b.index + 1), .int .i64 x.id, .int .i64 x.kind, .int .i64 x.src, .int .i64 x.dst, .int .i64 x.car, .int .i64 x.state, .int .i64 x.owner, .int .i64 x.born, .int .i64 0, .int .i64 0], rB b4 33 (bkL b.conf (b.index + 1) b.room (.slice a6_4 ((withoutV x.id b.live).length) c6_4) (.slice (cutA a34 c34 1 8) (((b.done ++ [x]).length) - 1) (c34 - 1)) b.modes), rB b3 38 (xL x), rB b2 33 (bkL b.conf b.index b.room (.slice la b.live.length lc) (.slice da b.done.length dc) b.modes), rS da dc 8 (b.done.map callRow), rS la lc 9 (b.live.map rowOf)]) → QR .normal ac1 wz) : (regAt Try.f45 9).wp Try.prog QR ac0 wb := by
  refine wp_region_st mixedP ⟨[0, 0, 1, 0, 2, 1, 3, 4], by kernel_rfl⟩ [[], [], [1], [], [1, 2, 3], [0], [0, 1, 2, 3, 4, 5], [0, 1, 2, 3, 4, 5, 6]] (by kernel_rfl) (by kernel_rfl) 73 hz (by kernel_rfl) (fun (xx : Unit) jx => nth [.agg (bkA b.conf (b.index + 1) b.room (.slice a6_4 ((withoutV x.id b.live).length) c6_4) (.slice (cutA a34 c34 1 8) (((b.done ++ [x]).length) - 1) (c34 - 1)) b.modes), .pointer (some ⟨b7, 18, none⟩), .int .i64 (b.index + 1), .agg (xA x), .agg #[.int .i64 (b.index + 1), .int .i64 x.id, .int .i64 x.kind, .int .i64 x.src, .int .i64 x.dst, .int .i64 x.car, .int .i64 x.state, .int .i64 x.owner, .int .i64 x.born, .int .i64 0, .int .i64 0], undef, undef, .int .i64 0] jx) (fun (LL : Nat → Bool) (xx : Unit) ww => Hp [] wa ww (bif LL 5 then (bif LL 6 then [rA a34 c34 38 8 ((b.done ++ [x]).map callRow), rB b33 38 (xL x), rP (From wa [rS la lc 9 (b.live.map rowOf), rS da dc 8 (b.done.map callRow)] (rS a6_4 c6_4 9 ((withoutV x.id b.live).map rowOf)).foot), rS a6_4 c6_4 9 ((withoutV x.id b.live).map rowOf), rB b7 33 (bkL b.conf (b.index + 1) b.room (.slice a6_4 ((withoutV x.id b.live).length) c6_4) (.slice (cutA a34 c34 1 8) (((b.done ++ [x]).length) - 1) (c34 - 1)) b.modes), rB b5 40 [.int .i64 (b.index + 1), .int .i64 x.id, .int .i64 x.kind, .int .i64 x.src, .int .i64 x.dst, .int .i64 x.car, .int .i64 x.state, .int .i64 x.owner, .int .i64 x.born, .int .i64 0, .int .i64 0], rB b4 33 (bkL b.conf (b.index + 1) b.room (.slice a6_4 ((withoutV x.id b.live).length) c6_4) (.slice (cutA a34 c34 1 8) (((b.done ++ [x]).length) - 1) (c34 - 1)) b.modes), rB b3 38 (xL x), rB b2 33 (bkL b.conf b.index b.room (.slice la b.live.length lc) (.slice da b.done.length dc) b.modes), rS da dc 8 (b.done.map callRow), rS la lc 9 (b.live.map rowOf)] else [rA a34 c34 38 8 ((b.done ++ [x]).map callRow), rB b33 38 (xL x), rP (From wa [rS la lc 9 (b.live.map rowOf), rS da dc 8 (b.done.map callRow)] (rS a6_4 c6_4 9 ((withoutV x.id b.live).map rowOf)).foot), rS a6_4 c6_4 9 ((withoutV x.id b.live).map rowOf), rB b7 33 (bkL b.conf (b.index + 1) b.room (.slice a6_4 ((withoutV x.id b.live).length) c6_4) (.slice (cutA a34 c34 1 8) (((b.done ++ [x]).length) - 1) (c34 - 1)) b.modes), rB b5 40 (chL zeroCh), rB b4 33 (bkL b.conf (b.index + 1) b.room (.slice a6_4 ((withoutV x.id b.live).length) c6_4) (.slice (cutA a34 c34 1 8) (((b.done ++ [x]).length) - 1) (c34 - 1)) b.modes), rB b3 38 (xL x), rB b2 33 (bkL b.conf b.index b.room (.slice la b.live.length lc) (.slice da b.done.length dc) b.modes), rS da dc 8 (b.done.map callRow), rS la lc 9 (b.live.map rowOf)]) else [rA a34 c34 38 8 ((b.done ++ [x]).map callRow), rB b33 38 (xL x), rP (From wa [rS la lc 9 (b.live.map rowOf), rS da dc 8 (b.done.map callRow)] (rS a6_4 c6_4 9 ((withoutV x.id b.live).map rowOf)).foot), rS a6_4 c6_4 9 ((withoutV x.id b.live).map rowOf), rB b7 33 (bkL b.conf (b.index + 1) b.room (.slice a6_4 ((withoutV x.id b.live).length) c6_4) (.slice (cutA a34 c34 1 8) (((b.done ++ [x]).length) - 1) (c34 - 1)) b.modes), rB b5 40 (chL zeroCh), rB b4 33 (bkL zeroF 0 0 (.slice none 0 0) (.slice none 0 0) ([0, 0, 0, 0])), rB b3 38 (xL x), rB b2 33 (bkL b.conf b.index b.room (.slice la b.live.length lc) (.slice da b.done.length dc) b.modes), rS da dc 8 (b.done.map callRow), rS la lc 9 (b.live.map rowOf)])) () H.out.drew ?_ (steps_al ?_) ?_ ?_
  · intro L1 L2 xx ww hL sg
    have lh5 := hL 5 (by decide)
    have lh6 := hL 6 (by decide)
    simp only [lh5, lh6] at sg
    exact sg
  · refine al_cons ?_ (al_cons ?_ (al_cons ?_ (al_cons ?_ (al_cons ?_ (al_cons ?_ (al_cons ?_ (al_cons ?_ (al_nil))))))))
    · intro LL xx ac wc sg hst hwant QQ hgo
      have H := Lib.hid hst
      simp only [sg.des 5 rfl, sg.des 6 rfl, cond_true, cond_false] at H
      refine hpA_load tybook_Book H rfl ((sg.free 7 (by kernel_rfl)).trans so7) hwant (by (repeat (first | exact List.Mem.head _ | apply List.Mem.tail))) (by rfl) rfl ?_
      exact hgo _ () _ (fun _ _ => rfl) rfl hst
    · intro LL xx ac wc sg hst hwant QQ hgo
      have se7 : ac.eval (.tmp 7) = _ := ((sg.free 7 (by kernel_rfl)).trans so7)
      have sg7 := gt_of se7
      exact op_val hwant hgo hst _ (by simp only [execOp, nth]; go_simp <;> omega) rfl
    · intro LL xx ac wc sg hst hwant QQ hgo
      rcases Bool.eq_false_or_eq_true (LL 5) with lh5 | lh5
      · skip
        have H := Lib.hid hst
        simp only [lh5, sg.des 6 rfl, cond_true, cond_false] at H
        refine hpA_load1 tyint H rfl (sg.slot 1 (sg.anc 1 rfl)) hwant (by (repeat (first | exact List.Mem.head _ | apply List.Mem.tail))) (by rfl) ?_
        exact hgo _ () _ (fun _ _ => rfl) rfl hst
      · skip
        have H := Lib.hid hst
        simp only [lh5, sg.des 6 rfl, cond_true, cond_false] at H
        refine hpA_load1 tyint H rfl (sg.slot 1 (sg.anc 1 rfl)) hwant (by (repeat (first | exact List.Mem.head _ | apply List.Mem.tail))) (by rfl) ?_
        exact hgo _ () _ (fun _ _ => rfl) rfl hst
    · intro LL xx ac wc sg hst hwant QQ hgo
      rcases Bool.eq_false_or_eq_true (LL 5) with lh5 | lh5
      · skip
        have H := Lib.hid hst
        simp only [lh5, sg.des 6 rfl, cond_true, cond_false] at H
        refine hpA_load tyapi_Call H rfl ((sg.free 3 (by kernel_rfl)).trans so3) hwant (by (repeat (first | exact List.Mem.head _ | apply List.Mem.tail))) (by rfl) rfl ?_
        exact hgo _ () _ (fun _ _ => rfl) rfl hst
      · skip
        have H := Lib.hid hst
        simp only [lh5, sg.des 6 rfl, cond_true, cond_false] at H
        refine hpA_load tyapi_Call H rfl ((sg.free 3 (by kernel_rfl)).trans so3) hwant (by (repeat (first | exact List.Mem.head _ | apply List.Mem.tail))) (by rfl) rfl ?_
        exact hgo _ () _ (fun _ _ => rfl) rfl hst
    · intro LL xx ac wc sg hst hwant QQ hgo
      have se50 : ac.eval (.tmp 50) = _ := (sg.slot 2 (sg.anc 2 rfl))
      have sg50 := gt_of se50
      have se51 : ac.eval (.tmp 51) = _ := (sg.slot 3 (sg.anc 3 rfl))
      have sg51 := gt_of se51
      (try simp only [nth] at se50 sg50 se51 sg51)
      (try simp only [xA, xL, cA, cL, chA, chL, bkA, bkL] at se50 sg50 se51 sg51)
      exact op_val hwant hgo hst _ (by simp only [execOp, nth, xA, xL, cA, cL, chA, chL, bkA, bkL]; go_simp <;> omega) rfl
    · intro LL xx ac wc sg hst hwant QQ hgo
      have H := Lib.hid hst
      simp only [sg.self, sg.des 6 rfl, cond_true, cond_false] at H
      refine hpA_store tybook_Book H rfl rfl ((sg.free 4 (by kernel_rfl)).trans so4) (sg.slot 0 (sg.anc 0 rfl)) rfl (by repeat (first | apply Put.head | apply Put.tail)) (by simp [xA, xL, cA, cL, chA, chL, bkA, bkL]) (by simp [xA, xL, cA, cL, chA, chL, bkA, bkL, Value.oneCell']) (by first | rfl | (simp only [spl]; rfl)) rfl ?_
      intro wd H2
      exact hgo _ () _ (fun _ _ => rfl) rfl (by simp only [(show upd LL 5 5 = true from rfl), (show upd LL 5 6 = LL 6 from rfl), sg.des 6 rfl, cond_true, cond_false]; exact H2.out)
    · intro LL xx ac wc sg hst hwant QQ hgo
      have H := Lib.hid hst
      simp only [sg.anc 5 rfl, sg.self, cond_true, cond_false] at H
      refine hpA_store tyapi_Change H rfl rfl ((sg.free 5 (by kernel_rfl)).trans so5) (sg.slot 4 (sg.anc 4 rfl)) rfl (by repeat (first | apply Put.head | apply Put.tail)) (by simp [xA, xL, cA, cL, chA, chL, bkA, bkL]) (by simp [xA, xL, cA, cL, chA, chL, bkA, bkL, Value.oneCell']) (by first | rfl | (simp only [spl]; rfl)) rfl ?_
      intro wd H2
      exact hgo _ () _ (fun _ _ => rfl) rfl (by simp only [(show upd LL 6 5 = LL 5 from rfl), sg.anc 5 rfl, (show upd LL 6 6 = true from rfl), cond_true, cond_false]; exact H2.out)
    · intro LL xx ac wc sg hst hwant QQ hgo
      exact op_val hwant hgo hst _ (exec_assign rfl rfl) rfl
  · exact skips [] (by kernel_rfl) (fun _ h => by cases h)
  · intro xx ac1 wz hfr hsl hst
    exact hfin ac1 wz (hfr.size.trans hz) hfr.defers (fr_keep hfr [6, 48, 49, 50, 51, 52] (by kernel_rfl)) (hsl 7 (by decide)) (Lib.hid hst)
set_option maxHeartbeats 4000000 in
set_option maxRecDepth 20000 in
theorem nextC_r14 (b : BookV) (la : Option Addr) (lc : Nat) (da : Option Addr) (dc : Nat) (x : CallV) (hbl : (b.live.length : Int) ≤ b.room ∧ b.room ≤ 65536) (hbd : (b.done.length : Int) ≤ b.conf.calls ∧ b.conf.calls ≤ 64) (hbi : 0 ≤ b.index ∧ b.index ≤ 1073741824) (b2 : Nat) (b3 : Nat) (b4 : Nat) (b5 : Nat) (b7 : Nat) (z1d : ¬ (1073741824 ≤ b.index)) (a10_5 : Option Addr) (c10_5 : Nat) (b8 : Nat) {wa wb : World} (H : Hid (Hp [] wa wb [rB b8 29 [.int .i64 b.room, .slice a10_5 ((withV b.room x.id x b.live).1.length) c10_5], rP (From wa [rS la lc 9 (b.live.map rowOf), rS da dc 8 (b.done.map callRow)] (rS a10_5 c10_5 9 ((withV b.room x.id x b.live).1.map rowOf)).foot), rS a10_5 c10_5 9 ((withV b.room x.id x b.live).1.map rowOf), rB b7 33 (bkL b.conf (b.index + 1) b.room (.slice a10_5 ((withV b.room x.id x b.live).1.length) c10_5) (.slice da b.done.length dc) b.modes), rB b5 40 (chL zeroCh), rB b4 33 (bkL zeroF 0 0 (.slice none 0 0) (.slice none 0 0) ([0, 0, 0, 0])), rB b3 38 (xL x), rB b2 33 (bkL b.conf b.index b.room (.slice la b.live.length lc) (.slice da b.done.length dc) b.modes), rS da dc 8 (b.done.map callRow), rS la lc 9 (b.live.map rowOf)])) (ac0 : Act) (hz : ac0.tmps.size = 73) (so3 : ac0.eval (.tmp 3) = .pointer (some ⟨b3, 0, none⟩)) (so4 : ac0.eval (.tmp 4) = .pointer (some ⟨b4, 0, none⟩)) (so5 : ac0.eval (.tmp 5) = .pointer (some ⟨b5, 0, none⟩)) (so7 : ac0.eval (.tmp 7) = .pointer (some ⟨b7, 0, none⟩)) {QR : Exit → Act → World → Prop} (hfin : ∀ (ac1 : Act) (wz : World), ac1.tmps.size = 73 → ac1.defers = ac0.defers → (∀ t, ([6, 68, 69, 70, 71, 72] : List Nat).contains t = false → ac1.eval (.tmp t) = ac0.eval (.tmp t)) → ac1.eval (.tmp 6) = .int .i64 0 →  Hid (Hp [] wa wz [rB b8 29 [.int .i64 b.room, .slice a10_5 ((withV b.room x.id x b.live).1.length) c10_5], rP (From wa [rS la lc 9 (b.live.map rowOf), rS da dc 8 (b.done.map callRow)] (rS a10_5 c10_5 9 ((withV b.room x.id x b.live).1.map rowOf)).foot), rS a10_5 c10_5 9 ((withV b.room x.id x b.live).1.map rowOf), rB b7 33 (bkL b.conf (b.index + 1) b.room (.slice a10_5 ((withV b.room x.id x b.live).1.length) c10_5) (.slice da b.done.length dc) b.modes), rB b5 40 [.int .i64 (b.index + 1), .int .i64 x.id, .int .i64 x.kind, .int .i64 x.src, .int .i64 x.dst, .int .i64 x.car, .int .i64 x.state, .int .i64 x.owner, .int .i64 x.born, .int .i64 0, .int .i64 0], rB b4 33 (bkL b.conf (b.index + 1) b.room (.slice a10_5 ((withV b.room x.id x b.live).1.length) c10_5) (.slice da b.done.length dc) b.modes), rB b3 38 (xL x), rB b2 33 (bkL b.conf b.index b.room (.slice la b.live.length lc) (.slice da b.done.length dc) b.modes), rS da dc 8 (b.done.map callRow), rS la lc 9 (b.live.map rowOf)]) → QR .normal ac1 wz) : (regAt Try.f45 14).wp Try.prog QR ac0 wb := by
  refine wp_region_st mixedP ⟨[0, 0, 1, 0, 2, 1, 3, 4], by kernel_rfl⟩ [[], [], [1], [], [1, 2, 3], [0], [0, 1, 2, 3, 4, 5], [0, 1, 2, 3, 4, 5, 6]] (by kernel_rfl) (by kernel_rfl) 73 hz (by kernel_rfl) (fun (xx : Unit) jx => nth [.agg (bkA b.conf (b.index + 1) b.room (.slice a10_5 ((withV b.room x.id x b.live).1.length) c10_5) (.slice da b.done.length dc) b.modes), .pointer (some ⟨b7, 18, none⟩), .int .i64 (b.index + 1), .agg (xA x), .agg #[.int .i64 (b.index + 1), .int .i64 x.id, .int .i64 x.kind, .int .i64 x.src, .int .i64 x.dst, .int .i64 x.car, .int .i64 x.state, .int .i64 x.owner, .int .i64 x.born, .int .i64 0, .int .i64 0], undef, undef, .int .i64 0] jx) (fun (LL : Nat → Bool) (xx : Unit) ww => Hp [] wa ww (bif LL 5 then (bif LL 6 then [rB b8 29 [.int .i64 b.room, .slice a10_5 ((withV b.room x.id x b.live).1.length) c10_5], rP (From wa [rS la lc 9 (b.live.map rowOf), rS da dc 8 (b.done.map callRow)] (rS a10_5 c10_5 9 ((withV b.room x.id x b.live).1.map rowOf)).foot), rS a10_5 c10_5 9 ((withV b.room x.id x b.live).1.map rowOf), rB b7 33 (bkL b.conf (b.index + 1) b.room (.slice a10_5 ((withV b.room x.id x b.live).1.length) c10_5) (.slice da b.done.length dc) b.modes), rB b5 40 [.int .i64 (b.index + 1), .int .i64 x.id, .int .i64 x.kind, .int .i64 x.src, .int .i64 x.dst, .int .i64 x.car, .int .i64 x.state, .int .i64 x.owner, .int .i64 x.born, .int .i64 0, .int .i64 0], rB b4 33 (bkL b.conf (b.index + 1) b.room (.slice a10_5 ((withV b.room x.id x b.live).1.length) c10_5) (.slice da b.done.length dc) b.modes), rB b3 38 (xL x), rB b2 33 (bkL b.conf b.index b.room (.slice la b.live.length lc) (.slice da b.done.length dc) b.modes), rS da dc 8 (b.done.map callRow), rS la lc 9 (b.live.map rowOf)] else [rB b8 29 [.int .i64 b.room, .slice a10_5 ((withV b.room x.id x b.live).1.length) c10_5], rP (From wa [rS la lc 9 (b.live.map rowOf), rS da dc 8 (b.done.map callRow)] (rS a10_5 c10_5 9 ((withV b.room x.id x b.live).1.map rowOf)).foot), rS a10_5 c10_5 9 ((withV b.room x.id x b.live).1.map rowOf), rB b7 33 (bkL b.conf (b.index + 1) b.room (.slice a10_5 ((withV b.room x.id x b.live).1.length) c10_5) (.slice da b.done.length dc) b.modes), rB b5 40 (chL zeroCh), rB b4 33 (bkL b.conf (b.index + 1) b.room (.slice a10_5 ((withV b.room x.id x b.live).1.length) c10_5) (.slice da b.done.length dc) b.modes), rB b3 38 (xL x), rB b2 33 (bkL b.conf b.index b.room (.slice la b.live.length lc) (.slice da b.done.length dc) b.modes), rS da dc 8 (b.done.map callRow), rS la lc 9 (b.live.map rowOf)]) else [rB b8 29 [.int .i64 b.room, .slice a10_5 ((withV b.room x.id x b.live).1.length) c10_5], rP (From wa [rS la lc 9 (b.live.map rowOf), rS da dc 8 (b.done.map callRow)] (rS a10_5 c10_5 9 ((withV b.room x.id x b.live).1.map rowOf)).foot), rS a10_5 c10_5 9 ((withV b.room x.id x b.live).1.map rowOf), rB b7 33 (bkL b.conf (b.index + 1) b.room (.slice a10_5 ((withV b.room x.id x b.live).1.length) c10_5) (.slice da b.done.length dc) b.modes), rB b5 40 (chL zeroCh), rB b4 33 (bkL zeroF 0 0 (.slice none 0 0) (.slice none 0 0) ([0, 0, 0, 0])), rB b3 38 (xL x), rB b2 33 (bkL b.conf b.index b.room (.slice la b.live.length lc) (.slice da b.done.length dc) b.modes), rS da dc 8 (b.done.map callRow), rS la lc 9 (b.live.map rowOf)])) () H.out.drew ?_ (steps_al ?_) ?_ ?_
  · intro L1 L2 xx ww hL sg
    have lh5 := hL 5 (by decide)
    have lh6 := hL 6 (by decide)
    simp only [lh5, lh6] at sg
    exact sg
  · refine al_cons ?_ (al_cons ?_ (al_cons ?_ (al_cons ?_ (al_cons ?_ (al_cons ?_ (al_cons ?_ (al_cons ?_ (al_nil))))))))
    · intro LL xx ac wc sg hst hwant QQ hgo
      have H := Lib.hid hst
      simp only [sg.des 5 rfl, sg.des 6 rfl, cond_true, cond_false] at H
      refine hpA_load tybook_Book H rfl ((sg.free 7 (by kernel_rfl)).trans so7) hwant (by (repeat (first | exact List.Mem.head _ | apply List.Mem.tail))) (by rfl) rfl ?_
      exact hgo _ () _ (fun _ _ => rfl) rfl hst
    · intro LL xx ac wc sg hst hwant QQ hgo
      have se7 : ac.eval (.tmp 7) = _ := ((sg.free 7 (by kernel_rfl)).trans so7)
      have sg7 := gt_of se7
      exact op_val hwant hgo hst _ (by simp only [execOp, nth]; go_simp <;> omega) rfl
    · intro LL xx ac wc sg hst hwant QQ hgo
      rcases Bool.eq_false_or_eq_true (LL 5) with lh5 | lh5
      · skip
        have H := Lib.hid hst
        simp only [lh5, sg.des 6 rfl, cond_true, cond_false] at H
        refine hpA_load1 tyint H rfl (sg.slot 1 (sg.anc 1 rfl)) hwant (by (repeat (first | exact List.Mem.head _ | apply List.Mem.tail))) (by rfl) ?_
        exact hgo _ () _ (fun _ _ => rfl) rfl hst
      · skip
        have H := Lib.hid hst
        simp only [lh5, sg.des 6 rfl, cond_true, cond_false] at H
        refine hpA_load1 tyint H rfl (sg.slot 1 (sg.anc 1 rfl)) hwant (by (repeat (first | exact List.Mem.head _ | apply List.Mem.tail))) (by rfl) ?_
        exact hgo _ () _ (fun _ _ => rfl) rfl hst
    · intro LL xx ac wc sg hst hwant QQ hgo
      rcases Bool.eq_false_or_eq_true (LL 5) with lh5 | lh5
      · skip
        have H := Lib.hid hst
        simp only [lh5, sg.des 6 rfl, cond_true, cond_false] at H
        refine hpA_load tyapi_Call H rfl ((sg.free 3 (by kernel_rfl)).trans so3) hwant (by (repeat (first | exact List.Mem.head _ | apply List.Mem.tail))) (by rfl) rfl ?_
        exact hgo _ () _ (fun _ _ => rfl) rfl hst
      · skip
        have H := Lib.hid hst
        simp only [lh5, sg.des 6 rfl, cond_true, cond_false] at H
        refine hpA_load tyapi_Call H rfl ((sg.free 3 (by kernel_rfl)).trans so3) hwant (by (repeat (first | exact List.Mem.head _ | apply List.Mem.tail))) (by rfl) rfl ?_
        exact hgo _ () _ (fun _ _ => rfl) rfl hst
    · intro LL xx ac wc sg hst hwant QQ hgo
      have se70 : ac.eval (.tmp 70) = _ := (sg.slot 2 (sg.anc 2 rfl))
      have sg70 := gt_of se70
      have se71 : ac.eval (.tmp 71) = _ := (sg.slot 3 (sg.anc 3 rfl))
      have sg71 := gt_of se71
      (try simp only [nth] at se70 sg70 se71 sg71)
      (try simp only [xA, xL, cA, cL, chA, chL, bkA, bkL] at se70 sg70 se71 sg71)
      exact op_val hwant hgo hst _ (by simp only [execOp, nth, xA, xL, cA, cL, chA, chL, bkA, bkL]; go_simp <;> omega) rfl
    · intro LL xx ac wc sg hst hwant QQ hgo
      have H := Lib.hid hst
      simp only [sg.self, sg.des 6 rfl, cond_true, cond_false] at H
      refine hpA_store tybook_Book H rfl rfl ((sg.free 4 (by kernel_rfl)).trans so4) (sg.slot 0 (sg.anc 0 rfl)) rfl (by repeat (first | apply Put.head | apply Put.tail)) (by simp [xA, xL, cA, cL, chA, chL, bkA, bkL]) (by simp [xA, xL, cA, cL, chA, chL, bkA, bkL, Value.oneCell']) (by first | rfl | (simp only [spl]; rfl)) rfl ?_
      intro wd H2
      exact hgo _ () _ (fun _ _ => rfl) rfl (by simp only [(show upd LL 5 5 = true from rfl), (show upd LL 5 6 = LL 6 from rfl), sg.des 6 rfl, cond_true, cond_false]; exact H2.out)
    · intro LL xx ac wc sg hst hwant QQ hgo
      have H := Lib.hid hst
      simp only [sg.anc 5 rfl, sg.self, cond_true, cond_false] at H
      refine hpA_store tyapi_Change H rfl rfl ((sg.free 5 (by kernel_rfl)).trans so5) (sg.slot 4 (sg.anc 4 rfl)) rfl (by repeat (first | apply Put.head | apply Put.tail)) (by simp [xA, xL, cA, cL, chA, chL, bkA, bkL]) (by simp [xA, xL, cA, cL, chA, chL, bkA, bkL, Value.oneCell']) (by first | rfl | (simp only [spl]; rfl)) rfl ?_
      intro wd H2
      exact hgo _ () _ (fun _ _ => rfl) rfl (by simp only [(show upd LL 6 5 = LL 5 from rfl), sg.anc 5 rfl, (show upd LL 6 6 = true from rfl), cond_true, cond_false]; exact H2.out)
    · intro LL xx ac wc sg hst hwant QQ hgo
      exact op_val hwant hgo hst _ (exec_assign rfl rfl) rfl
  · exact skips [] (by kernel_rfl) (fun _ h => by cases h)
  · intro xx ac1 wz hfr hsl hst
    exact hfin ac1 wz (hfr.size.trans hz) hfr.defers (fr_keep hfr [6, 68, 69, 70, 71, 72] (by kernel_rfl)) (hsl 7 (by decide)) (Lib.hid hst)
set_option maxHeartbeats 16000000 in
set_option maxRecDepth 20000 in
theorem nextC (b : BookV) (la : Option Addr) (lc : Nat) (da : Option Addr) (dc : Nat) (x : CallV) (w : World) (h1 : (rS la lc 9 (b.live.map rowOf)).holds w) (h2 : (rS da dc 8 (b.done.map callRow)).holds w) (hb : Hid (OkB b)) : Calls Try.prog 45 #[.agg (bkA b.conf b.index b.room (.slice la b.live.length lc) (.slice da b.done.length dc) b.modes), .agg (xA x)] w fun e w' => ∃ la' lc' da' dc', e = .returned (.tuple #[.agg #[.int .i64 ((((nextV b x).1).conf).floors), .int .i64 ((((nextV b x).1).conf).cars), .int .i64 ((((nextV b x).1).conf).seats), .int .i64 ((((nextV b x).1).conf).calls), .int .i64 ((((nextV b x).1).conf).lines), .int .i64 ((((nextV b x).1).conf).keys), .int .i64 ((((nextV b x).1).conf).window), .int .i64 ((((nextV b x).1).conf).burst), .int .i64 ((((nextV b x).1).conf).rate), .int .i64 ((((nextV b x).1).conf).idle), .int .i64 ((((nextV b x).1).conf).inn), .int .i64 ((((nextV b x).1).conf).out), .int .i64 ((((nextV b x).1).conf).feed), .int .i64 ((((nextV b x).1).conf).retries), .int .i64 ((((nextV b x).1).conf).life), .int .i64 ((((nextV b x).1).conf).door), .int .i64 ((((nextV b x).1).conf).holds), .int .u32 ((((nextV b x).1).conf).secret), .int .i64 (((nextV b x).1).index), .int .i64 (((nextV b x).1).room), .slice la' (((nextV b x).1).live.length) lc', .slice da' (((nextV b x).1).done.length) dc', .int .i64 (((nextV b x).1).modes.getD 0 0), .int .i64 (((nextV b x).1).modes.getD 1 0), .int .i64 (((nextV b x).1).modes.getD 2 0), .int .i64 (((nextV b x).1).modes.getD 3 0)], .agg #[.int .i64 (((nextV b x).2.1).index), .int .i64 ((((nextV b x).2.1).call).id), .int .i64 ((((nextV b x).2.1).call).kind), .int .i64 ((((nextV b x).2.1).call).src), .int .i64 ((((nextV b x).2.1).call).dst), .int .i64 ((((nextV b x).2.1).call).car), .int .i64 ((((nextV b x).2.1).call).state), .int .i64 ((((nextV b x).2.1).call).owner), .int .i64 ((((nextV b x).2.1).call).born), .int .i64 (((nextV b x).2.1).car), .int .i64 (((nextV b x).2.1).mode)], .int .i64 (nextV b x).2.2]) ∧ Gives2 w w' [rS la lc 9 (b.live.map rowOf), rS da dc 8 (b.done.map callRow)] la' lc' da' dc' (nextV b x).1 := by
 have H := Lib.hid (Hp.start [] w)
 have H := hp_old H h1 (by decide)
 have H := hp_old H h2 (by decide)
 clear h1 h2
 refine wStart (args := [.agg (bkA b.conf b.index b.room (.slice la b.live.length lc) (.slice da b.done.length dc) b.modes), .agg (xA x)]) Try.func45 rfl rfl rfl H ?_
 clear H
 show Wk 73 _ _ [(0, .agg (bkA b.conf b.index b.room (.slice la b.live.length lc) (.slice da b.done.length dc) b.modes)), (1, .agg (xA x))] _ _
 have hbl : (b.live.length : Int) ≤ b.room ∧ b.room ≤ 65536 := hb.out.live
 have hbd : (b.done.length : Int) ≤ b.conf.calls ∧ b.conf.calls ≤ 64 := hb.out.done
 have hbi : 0 ≤ b.index ∧ b.index ≤ 1073741824 := hb.out.index
 refine wSeqK fun KK1 hK1 => ?_
 refine wReg ?_
 refine wBx rfl rfl rfl fun b2 => ?_
 refine wBx rfl rfl rfl fun b3 => ?_
 refine wAl rfl rfl tybook_Book fun b4 => ?_
 refine wAl rfl rfl tyapi_Change fun b5 => ?_
 refine p_nextC rfl ?_
 refine wN ?_
 refine tN (wKK hK1 ?_)
 refine wSeqK fun KK2 hK2 => ?_
 refine wReg ?_
 refine wLr rfl tybook_Book 3 rfl (bkL b.conf b.index b.room (.slice la b.live.length lc) (.slice da b.done.length dc) b.modes) rfl rfl ?_
 refine wAl rfl rfl tybook_Book fun b7 => ?_
 refine wSr rfl tybook_Book 0 rfl rfl rfl rfl (bkL b.conf b.index b.room (.slice la b.live.length lc) (.slice da b.done.length dc) b.modes) (by first | rfl | (simp only [spl]; rfl)) ?_
 refine wN ?_
 refine tN (wKK hK2 ?_)
 refine wSeqK fun KK3 hK3 => ?_
 refine wReg ?_
 refine p_nextC rfl ?_
 refine wLd rfl tyint 0 rfl rfl ?_
 refine p_nextC rfl ?_
 refine wI 13 rfl (IntWalk.i64_in _ (by omega)) ?_
 refine p_nextC rfl ?_
 refine wSt rfl tyint 0 rfl rfl rfl rfl ?_
 refine wN ?_
 refine tN (wKK hK3 ?_)
 refine wSeqK fun KK4 hK4 => ?_
 refine wSeqK fun KK5 hK5 => ?_
 refine wReg ?_
 refine p_nextC rfl ?_
 refine wLd rfl tyint 4 rfl rfl ?_
 refine p_nextC rfl ?_
 refine wN ?_
 refine tN (wKK hK5 ?_)
 refine wCond (E := decide (1073741824 ≤ b.index)) rfl (fun z1 => ?_) (fun z1 => ?_)
 · skip
   have z1d : 1073741824 ≤ b.index := of_decide_eq_true z1
   refine wSeqK fun KK6 hK6 => ?_
   refine wReg ?_
   refine wE (.agg (bkA zeroF 0 0 (.slice none 0 0) (.slice none 0 0) ([0, 0, 0, 0]))) rfl rfl rfl (fun aa ww hs _ => by simp only [execOp]; go_simp <;> first | rfl | omega) ?_
   refine wE (.agg (chA zeroCh)) rfl rfl rfl (fun aa ww hs _ => by simp only [execOp]; go_simp <;> first | rfl | omega) ?_
   refine wSr rfl tybook_Book 2 rfl rfl rfl rfl (bkL zeroF 0 0 (.slice none 0 0) (.slice none 0 0) ([0, 0, 0, 0])) (by first | rfl | (simp only [spl]; rfl)) ?_
   refine wSr rfl tyapi_Change 1 rfl rfl rfl rfl (chL zeroCh) (by first | rfl | (simp only [spl]; rfl)) ?_
   refine p_nextC rfl ?_
   refine wN ?_
   refine tN (wKK hK6 ?_)
   refine wRet ?_
   refine tR ?_
   exact wRcct tybook_Book tyapi_Change rfl rfl rfl rfl 2 1 rfl rfl rfl rfl (fun ww H => (by simp only [nextV, z1, cond_true, cond_false, Bool.not_true, Bool.not_false, Bool.true_and, Bool.and_true, Bool.false_and, Bool.and_false, Bool.true_or, Bool.or_true, Bool.false_or, Bool.or_false]; exact ⟨none, 0, none, 0, rfl, (rS_nil _ _), (rS_nil _ _), (From.none _ _ _ _ _), (From.none _ _ _ _ _), H.out.off⟩))
 · skip
   have z1d : ¬ (1073741824 ≤ b.index) := of_decide_eq_false z1
   refine wSk ?_
   refine tN (wKK hK4 ?_)
   refine wSeqK fun KK7 hK7 => ?_
   refine wSeqK fun KK8 hK8 => ?_
   refine wReg ?_
   refine wLr rfl tyapi_Call 3 rfl (xL x) rfl rfl ?_
   refine wQ (l := [.agg (xA x)]) Try.func18 rfl (by kernel_rfl) (.bool (livesV x)) (fun wc H => livesC x wc) rfl rfl rfl rfl ?_
   refine p_nextC rfl ?_
   refine wN ?_
   refine tN (wKK hK8 ?_)
   refine wCond (E := !(livesV x)) rfl (fun z2 => ?_) (fun z2 => ?_)
   · skip
     have z2n : (livesV x) = false := Reg.bn z2
     refine wSeqK fun KK9 hK9 => ?_
     refine wReg ?_
     refine p_nextC rfl ?_
     refine wLr rfl tyshelf_Shelf_int__api_Call_ 4 rfl [.int .i64 b.room, .slice la b.live.length lc] rfl rfl ?_
     refine p_nextC rfl ?_
     refine wLd rfl tyint 3 rfl rfl ?_
     refine wC (l := [.agg #[.int .i64 b.room, .slice la b.live.length lc], .int .i64 x.id]) Try.func68 rfl (by kernel_rfl) (fun wc H => withoutC b.room la lc b.live x.id wc (hp_held H (by (repeat (first | exact List.Mem.head _ | apply List.Mem.tail)))) hb.out.sorted (by omega)) rfl rfl rfl rfl ?_
     intro wc H
     rintro er wd ⟨a6_4, c6_4, rfl, hgv⟩
     have H2 := hp_got H hgv.2.2 hgv.1 (by decide) hgv.2.1 (by simp)
     replace H2 := hp_fact H2 (p := From w [rS la lc 9 (b.live.map rowOf), rS da dc 8 (b.done.map callRow)] (rS a6_4 c6_4 9 ((withoutV x.id b.live).map rowOf)).foot) (from_trans hgv.2.1 H.out.off (fun r hr => by rcases List.mem_singleton.1 hr with rfl; exact (From.same rfl _ (by (repeat (first | exact List.Mem.head _ | apply List.Mem.tail))))))
     refine ⟨_, rfl, wkAt H2 ?_⟩
     clear H H2
     refine p_nextC rfl ?_
     refine wSr rfl tyshelf_Shelf_int__api_Call_ 2 rfl rfl rfl rfl (bkL b.conf (b.index + 1) b.room (.slice a6_4 ((withoutV x.id b.live).length) c6_4) (.slice da b.done.length dc) b.modes) (by first | rfl | (simp only [spl]; rfl)) ?_
     refine wN ?_
     refine tN (wKK hK9 ?_)
     refine wSeqK fun KK10 hK10 => ?_
     intro aa ww nn dd hs H
     refine nextC_r7 b la lc da dc x hbl hbd hbi b2 b3 b4 b5 b7 z1d a6_4 c6_4 H aa nn (hs 2 _ rfl) (hs 3 _ rfl) (hs 7 _ rfl) ?_
     intro b33 a7_2 c7_2 a34 c34 ab wv nn2 dd2 kp H2
     refine wIn nn2 (dd2.trans dd) (Sat.cons (Sat.cons (Sat.cons (Sat.cons (Sat.cons (Sat.cons (Sat.cons (Sat.cons (Sat.cons (Sat.cons (sat_nil ab) ((kp 22 rfl).trans (hs 22 _ rfl))) ((kp 17 rfl).trans (hs 17 _ rfl))) ((kp 7 rfl).trans (hs 7 _ rfl))) ((kp 6 rfl).trans (hs 6 _ rfl))) ((kp 5 rfl).trans (hs 5 _ rfl))) ((kp 4 rfl).trans (hs 4 _ rfl))) ((kp 3 rfl).trans (hs 3 _ rfl))) ((kp 2 rfl).trans (hs 2 _ rfl))) ((kp 1 rfl).trans (hs 1 _ rfl))) ((kp 0 rfl).trans (hs 0 _ rfl))) H2 ?_
     clear hs H kp H2 dd dd2 nn nn2
     refine tN (wKK hK10 ?_)
     refine wSeqK fun KK11 hK11 => ?_
     rcases Bool.eq_false_or_eq_true (decide (b.done.length < b.conf.calls)) with y3 | y3
     · skip
       intro aa ww nn dd hs H
       have hmx : max 0 (((b.done ++ [x]).length : Int) - b.conf.calls) = 0 := by have hq := of_decide_eq_true y3; simp only [List.length_append, List.length_cons, List.length_nil]; omega
       have hlast : lastV b.conf.calls (b.done ++ [x]) = (b.done ++ [x]).drop 0 := by have hq := of_decide_eq_true y3; unfold lastV; congr 1; simp only [List.length_append, List.length_cons, List.length_nil]; omega
       have hyl : (b.done ++ [x]).length = b.done.length + 1 := by simp
       refine wIn nn dd hs H ?_
       refine wReg ?_
       refine p_nextC rfl ?_
       refine wLd rfl tyS_api_Call 4 rfl rfl ?_
       refine p_nextC rfl ?_
       refine wLd rfl tyS_api_Call 4 rfl rfl ?_
       refine wE (.int .i64 ((b.done ++ [x]).length)) rfl rfl rfl (fun aa ww hs _ => by have e39 := hs 39 _ rfl; have g39 := gt_of e39; simp only [execOp]; go_simp <;> first | rfl | omega) ?_
       iterate 2 refine p_nextC rfl ?_
       refine wLd rfl tyint 8 rfl rfl ?_
       refine p_nextC rfl ?_
       refine wI 44 rfl (IntWalk.i64_in _ (by omega)) ?_
       refine wE (.int .i64 0) rfl rfl rfl (fun aa ww hs _ => by have e44 := hs 44 _ rfl; have g44 := gt_of e44; simp only [execOp]; go_simp <;> first | rfl | omega) ?_
       refine wE (.slice (cutA a34 c34 0 8) (((b.done ++ [x]).length) - 0) (c34 - 0)) rfl rfl rfl (fun aa ww hs _ => exec_cut_l elCall rfl (hs _ _ rfl) ((hs _ _ rfl).trans (by first | rfl | simp)) (by omega)) ?_
       refine p_nextC rfl ?_
       refine wSt rfl tyS_api_Call 4 rfl rfl rfl rfl ?_
       refine wN ?_
       refine tN (wKK hK11 ?_)
       refine wSeqK fun KK12 hK12 => ?_
       intro aa ww nn dd hs H
       refine nextC_r9 b la lc da dc x hbl hbd hbi b2 b3 b4 b5 b7 z1d a6_4 c6_4 b33 a34 c34 hmx hlast hyl H aa nn (hs 3 _ rfl) (hs 4 _ rfl) (hs 5 _ rfl) (hs 7 _ rfl) ?_
       intro ab wv nn2 dd2 kp o6 H2
       refine wIn nn2 (dd2.trans dd) (Sat.cons (Sat.cons (Sat.cons (Sat.cons (Sat.cons (Sat.cons (Sat.cons (Sat.cons (Sat.cons (Sat.cons (sat_nil ab) ((kp 22 rfl).trans (hs 22 _ rfl))) ((kp 17 rfl).trans (hs 17 _ rfl))) ((kp 7 rfl).trans (hs 7 _ rfl))) ((kp 5 rfl).trans (hs 5 _ rfl))) ((kp 4 rfl).trans (hs 4 _ rfl))) ((kp 3 rfl).trans (hs 3 _ rfl))) ((kp 2 rfl).trans (hs 2 _ rfl))) ((kp 1 rfl).trans (hs 1 _ rfl))) ((kp 0 rfl).trans (hs 0 _ rfl))) o6) H2 ?_
       clear hs H kp H2 dd dd2 nn nn2 o6
       refine tN (wKK hK12 ?_)
       refine wRet ?_
       refine tR ?_
       exact wRcct tybook_Book tyapi_Change rfl rfl rfl rfl 6 5 rfl rfl rfl rfl (fun ww H => (by have hl := last_gives H (l := 0) rfl [rS la lc 9 (b.live.map rowOf), rS da dc 8 (b.done.map callRow)] 0 (by omega); simp only [nextV, z1, z2, z2n, y3, cond_true, cond_false, Bool.not_true, Bool.not_false, Bool.true_and, Bool.and_true, Bool.false_and, Bool.and_false, Bool.true_or, Bool.or_true, Bool.false_or, Bool.or_false, hlast, List.length_drop]; exact ⟨a6_4, c6_4, (cutA a34 c34 0 8), (c34 - 0), rfl, (hp_held H (by (repeat (first | exact List.Mem.head _ | apply List.Mem.tail)))), hl.1, (hp_told H (by (repeat (first | exact List.Mem.head _ | apply List.Mem.tail)))), hl.2, H.out.off⟩))
     · skip
       intro aa ww nn dd hs H
       have hmx : max 0 (((b.done ++ [x]).length : Int) - b.conf.calls) = 1 := by have hq := of_decide_eq_false y3; simp only [List.length_append, List.length_cons, List.length_nil]; omega
       have hlast : lastV b.conf.calls (b.done ++ [x]) = (b.done ++ [x]).drop 1 := by have hq := of_decide_eq_false y3; unfold lastV; congr 1; simp only [List.length_append, List.length_cons, List.length_nil]; omega
       have hyl : (b.done ++ [x]).length = b.done.length + 1 := by simp
       refine wIn nn dd hs H ?_
       refine wReg ?_
       refine p_nextC rfl ?_
       refine wLd rfl tyS_api_Call 4 rfl rfl ?_
       refine p_nextC rfl ?_
       refine wLd rfl tyS_api_Call 4 rfl rfl ?_
       refine wE (.int .i64 ((b.done ++ [x]).length)) rfl rfl rfl (fun aa ww hs _ => by have e39 := hs 39 _ rfl; have g39 := gt_of e39; simp only [execOp]; go_simp <;> first | rfl | omega) ?_
       iterate 2 refine p_nextC rfl ?_
       refine wLd rfl tyint 8 rfl rfl ?_
       refine p_nextC rfl ?_
       refine wI 44 rfl (IntWalk.i64_in _ (by omega)) ?_
       refine wE (.int .i64 1) rfl rfl rfl (fun aa ww hs _ => by have e44 := hs 44 _ rfl; have g44 := gt_of e44; simp only [execOp]; go_simp <;> first | rfl | omega) ?_
       refine wE (.slice (cutA a34 c34 1 8) (((b.done ++ [x]).length) - 1) (c34 - 1)) rfl rfl rfl (fun aa ww hs _ => exec_cut_l elCall rfl (hs _ _ rfl) ((hs _ _ rfl).trans (by first | rfl | simp)) (by omega)) ?_
       refine p_nextC rfl ?_
       refine wSt rfl tyS_api_Call 4 rfl rfl rfl rfl ?_
       refine wN ?_
       refine tN (wKK hK11 ?_)
       refine wSeqK fun KK13 hK13 => ?_
       intro aa ww nn dd hs H
       refine nextC_r9x1 b la lc da dc x hbl hbd hbi b2 b3 b4 b5 b7 z1d a6_4 c6_4 b33 a34 c34 hmx hlast hyl H aa nn (hs 3 _ rfl) (hs 4 _ rfl) (hs 5 _ rfl) (hs 7 _ rfl) ?_
       intro ab wv nn2 dd2 kp o6 H2
       refine wIn nn2 (dd2.trans dd) (Sat.cons (Sat.cons (Sat.cons (Sat.cons (Sat.cons (Sat.cons (Sat.cons (Sat.cons (Sat.cons (Sat.cons (sat_nil ab) ((kp 22 rfl).trans (hs 22 _ rfl))) ((kp 17 rfl).trans (hs 17 _ rfl))) ((kp 7 rfl).trans (hs 7 _ rfl))) ((kp 5 rfl).trans (hs 5 _ rfl))) ((kp 4 rfl).trans (hs 4 _ rfl))) ((kp 3 rfl).trans (hs 3 _ rfl))) ((kp 2 rfl).trans (hs 2 _ rfl))) ((kp 1 rfl).trans (hs 1 _ rfl))) ((kp 0 rfl).trans (hs 0 _ rfl))) o6) H2 ?_
       clear hs H kp H2 dd dd2 nn nn2 o6
       refine tN (wKK hK13 ?_)
       refine wRet ?_
       refine tR ?_
       exact wRcct tybook_Book tyapi_Change rfl rfl rfl rfl 6 5 rfl rfl rfl rfl (fun ww H => (by have hl := last_gives H (l := 0) rfl [rS la lc 9 (b.live.map rowOf), rS da dc 8 (b.done.map callRow)] 1 (by omega); simp only [nextV, z1, z2, z2n, y3, cond_true, cond_false, Bool.not_true, Bool.not_false, Bool.true_and, Bool.and_true, Bool.false_and, Bool.and_false, Bool.true_or, Bool.or_true, Bool.false_or, Bool.or_false, hlast, List.length_drop]; exact ⟨a6_4, c6_4, (cutA a34 c34 1 8), (c34 - 1), rfl, (hp_held H (by (repeat (first | exact List.Mem.head _ | apply List.Mem.tail)))), hl.1, (hp_told H (by (repeat (first | exact List.Mem.head _ | apply List.Mem.tail)))), hl.2, H.out.off⟩))
   · skip
     have z2n : (livesV x) = true := Reg.bt z2
     refine wSk ?_
     refine tN (wKK hK7 ?_)
     refine wSeqK fun KK14 hK14 => ?_
     refine wReg ?_
     refine p_nextC rfl ?_
     refine wLr rfl tyshelf_Shelf_int__api_Call_ 4 rfl [.int .i64 b.room, .slice la b.live.length lc] rfl rfl ?_
     refine p_nextC rfl ?_
     refine wLd rfl tyint 3 rfl rfl ?_
     refine wLr rfl tyapi_Call 3 rfl (xL x) rfl rfl ?_
     refine wC (l := [.agg #[.int .i64 b.room, .slice la b.live.length lc], .int .i64 x.id, .agg (xA x)]) Try.func69 rfl (by kernel_rfl) (fun wc H => withC b.room la lc b.live x.id x wc (hp_held H (by (repeat (first | exact List.Mem.head _ | apply List.Mem.tail)))) hb.out.sorted (by omega)) rfl rfl rfl rfl ?_
     intro wc H
     rintro er wd ⟨a10_5, c10_5, rfl, hgv⟩
     have H2 := hp_got H hgv.2.2 hgv.1 (by decide) hgv.2.1 (by simp)
     replace H2 := hp_fact H2 (p := From w [rS la lc 9 (b.live.map rowOf), rS da dc 8 (b.done.map callRow)] (rS a10_5 c10_5 9 ((withV b.room x.id x b.live).1.map rowOf)).foot) (from_trans hgv.2.1 H.out.off (fun r hr => by rcases List.mem_singleton.1 hr with rfl; exact (From.same rfl _ (by (repeat (first | exact List.Mem.head _ | apply List.Mem.tail))))))
     refine ⟨_, rfl, wkAt H2 ?_⟩
     clear H H2
     iterate 3 refine p_nextC rfl ?_
     refine wAl rfl rfl tyshelf_Shelf_int__api_Call_ fun b8 => ?_
     refine wSr rfl tyshelf_Shelf_int__api_Call_ 0 rfl rfl rfl rfl [.int .i64 b.room, .slice a10_5 ((withV b.room x.id x b.live).1.length) c10_5] (by first | rfl | (simp only [spl]; rfl)) ?_
     refine p_nextC rfl ?_
     refine wN ?_
     refine tN (wKK hK14 ?_)
     refine wSeqK fun KK15 hK15 => ?_
     refine wSeqK fun KK16 hK16 => ?_
     refine wReg ?_
     iterate 2 refine p_nextC rfl ?_
     refine wN ?_
     refine tN (wKK hK16 ?_)
     refine wCond (E := !((withV b.room x.id x b.live).2)) rfl (fun z4 => ?_) (fun z4 => ?_)
     · skip
       have z4n : ((withV b.room x.id x b.live).2) = false := Reg.bn z4
       refine wSeqK fun KK17 hK17 => ?_
       refine wReg ?_
       refine wE (.agg (bkA zeroF 0 0 (.slice none 0 0) (.slice none 0 0) ([0, 0, 0, 0]))) rfl rfl rfl (fun aa ww hs _ => by simp only [execOp]; go_simp <;> first | rfl | omega) ?_
       refine wE (.agg (chA zeroCh)) rfl rfl rfl (fun aa ww hs _ => by simp only [execOp]; go_simp <;> first | rfl | omega) ?_
       refine wSr rfl tybook_Book 5 rfl rfl rfl rfl (bkL zeroF 0 0 (.slice none 0 0) (.slice none 0 0) ([0, 0, 0, 0])) (by first | rfl | (simp only [spl]; rfl)) ?_
       refine wSr rfl tyapi_Change 4 rfl rfl rfl rfl (chL zeroCh) (by first | rfl | (simp only [spl]; rfl)) ?_
       refine p_nextC rfl ?_
       refine wN ?_
       refine tN (wKK hK17 ?_)
       refine wRet ?_
       refine tR ?_
       exact wRcct tybook_Book tyapi_Change rfl rfl rfl rfl 5 4 rfl rfl rfl rfl (fun ww H => (by simp only [nextV, z1, z2, z2n, z4, z4n, cond_true, cond_false, Bool.not_true, Bool.not_false, Bool.true_and, Bool.and_true, Bool.false_and, Bool.and_false, Bool.true_or, Bool.or_true, Bool.false_or, Bool.or_false]; exact ⟨none, 0, none, 0, rfl, (rS_nil _ _), (rS_nil _ _), (From.none _ _ _ _ _), (From.none _ _ _ _ _), H.out.off⟩))
     · skip
       have z4n : ((withV b.room x.id x b.live).2) = true := Reg.bt z4
       refine wSk ?_
       refine tN (wKK hK15 ?_)
       refine wSeqK fun KK18 hK18 => ?_
       refine wReg ?_
       refine wLr rfl tyshelf_Shelf_int__api_Call_ 0 rfl [.int .i64 b.room, .slice a10_5 ((withV b.room x.id x b.live).1.length) c10_5] rfl rfl ?_
       refine p_nextC rfl ?_
       refine wSr rfl tyshelf_Shelf_int__api_Call_ 3 rfl rfl rfl rfl (bkL b.conf (b.index + 1) b.room (.slice a10_5 ((withV b.room x.id x b.live).1.length) c10_5) (.slice da b.done.length dc) b.modes) (by first | rfl | (simp only [spl]; rfl)) ?_
       refine wN ?_
       refine tN (wKK hK18 ?_)
       refine wSeqK fun KK19 hK19 => ?_
       intro aa ww nn dd hs H
       refine nextC_r14 b la lc da dc x hbl hbd hbi b2 b3 b4 b5 b7 z1d a10_5 c10_5 b8 H aa nn (hs 3 _ rfl) (hs 4 _ rfl) (hs 5 _ rfl) (hs 7 _ rfl) ?_
       intro ab wv nn2 dd2 kp o6 H2
       refine wIn nn2 (dd2.trans dd) (Sat.cons (Sat.cons (Sat.cons (Sat.cons (Sat.cons (Sat.cons (Sat.cons (Sat.cons (Sat.cons (Sat.cons (Sat.cons (Sat.cons (Sat.cons (sat_nil ab) ((kp 63 rfl).trans (hs 63 _ rfl))) ((kp 22 rfl).trans (hs 22 _ rfl))) ((kp 17 rfl).trans (hs 17 _ rfl))) ((kp 9 rfl).trans (hs 9 _ rfl))) ((kp 8 rfl).trans (hs 8 _ rfl))) ((kp 7 rfl).trans (hs 7 _ rfl))) ((kp 5 rfl).trans (hs 5 _ rfl))) ((kp 4 rfl).trans (hs 4 _ rfl))) ((kp 3 rfl).trans (hs 3 _ rfl))) ((kp 2 rfl).trans (hs 2 _ rfl))) ((kp 1 rfl).trans (hs 1 _ rfl))) ((kp 0 rfl).trans (hs 0 _ rfl))) o6) H2 ?_
       clear hs H kp H2 dd dd2 nn nn2 o6
       refine tN (wKK hK19 ?_)
       refine wRet ?_
       exact wRcct tybook_Book tyapi_Change rfl rfl rfl rfl 5 4 rfl rfl rfl rfl (fun ww H => (by simp only [nextV, z1, z2, z2n, z4, z4n, cond_true, cond_false, Bool.not_true, Bool.not_false, Bool.true_and, Bool.and_true, Bool.false_and, Bool.and_false, Bool.true_or, Bool.or_true, Bool.false_or, Bool.or_false]; exact ⟨a10_5, c10_5, da, dc, rfl, (hp_held H (by (repeat (first | exact List.Mem.head _ | apply List.Mem.tail)))), (hp_held H (by (repeat (first | exact List.Mem.head _ | apply List.Mem.tail)))), (hp_told H (by (repeat (first | exact List.Mem.head _ | apply List.Mem.tail)))), (From.same rfl _ (by (repeat (first | exact List.Mem.head _ | apply List.Mem.tail)))), H.out.off⟩))
def tab_placeC : Wk.Tab := [(33, 0, 0), (33, 1, 18)]
theorem p_placeC {ops : Array Oper} {rest : List Oper} {o : Oper} {w0 : World} {Q : Exit → Act → World → Prop} {S : List Nat} {R : List Res} {K K' : Wk.Env} {N : Nat} (h : Wk.stp tab_placeC N ops K o = some K') (n : Wk.Wk N S w0 K' R (wpList Try.prog ops Q rest)) : Wk.Wk N S w0 K R (wpList Try.prog ops Q (o :: rest)) := Wk.wP (T := tab_placeC) (by kernel_rfl) h n
set_option maxHeartbeats 16000000 in
set_option maxRecDepth 20000 in
theorem placeC (b : BookV) (la : Option Addr) (lc : Nat) (da : Option Addr) (dc : Nat) (x : CallV) (owner : Int) (now : Int) (w : World) (h1 : (rS la lc 9 (b.live.map rowOf)).holds w) (h2 : (rS da dc 8 (b.done.map callRow)).holds w) (hb : Hid (OkB b)) : Calls Try.prog 13 #[.agg (bkA b.conf b.index b.room (.slice la b.live.length lc) (.slice da b.done.length dc) b.modes), .agg (xA x), .int .i64 owner, .int .i64 now] w fun e w' => ∃ la' lc' da' dc', e = .returned (.tuple #[.agg #[.int .i64 ((((placeV b x owner now).1).conf).floors), .int .i64 ((((placeV b x owner now).1).conf).cars), .int .i64 ((((placeV b x owner now).1).conf).seats), .int .i64 ((((placeV b x owner now).1).conf).calls), .int .i64 ((((placeV b x owner now).1).conf).lines), .int .i64 ((((placeV b x owner now).1).conf).keys), .int .i64 ((((placeV b x owner now).1).conf).window), .int .i64 ((((placeV b x owner now).1).conf).burst), .int .i64 ((((placeV b x owner now).1).conf).rate), .int .i64 ((((placeV b x owner now).1).conf).idle), .int .i64 ((((placeV b x owner now).1).conf).inn), .int .i64 ((((placeV b x owner now).1).conf).out), .int .i64 ((((placeV b x owner now).1).conf).feed), .int .i64 ((((placeV b x owner now).1).conf).retries), .int .i64 ((((placeV b x owner now).1).conf).life), .int .i64 ((((placeV b x owner now).1).conf).door), .int .i64 ((((placeV b x owner now).1).conf).holds), .int .u32 ((((placeV b x owner now).1).conf).secret), .int .i64 (((placeV b x owner now).1).index), .int .i64 (((placeV b x owner now).1).room), .slice la' (((placeV b x owner now).1).live.length) lc', .slice da' (((placeV b x owner now).1).done.length) dc', .int .i64 (((placeV b x owner now).1).modes.getD 0 0), .int .i64 (((placeV b x owner now).1).modes.getD 1 0), .int .i64 (((placeV b x owner now).1).modes.getD 2 0), .int .i64 (((placeV b x owner now).1).modes.getD 3 0)], .agg #[.int .i64 (((placeV b x owner now).2.1).index), .int .i64 ((((placeV b x owner now).2.1).call).id), .int .i64 ((((placeV b x owner now).2.1).call).kind), .int .i64 ((((placeV b x owner now).2.1).call).src), .int .i64 ((((placeV b x owner now).2.1).call).dst), .int .i64 ((((placeV b x owner now).2.1).call).car), .int .i64 ((((placeV b x owner now).2.1).call).state), .int .i64 ((((placeV b x owner now).2.1).call).owner), .int .i64 ((((placeV b x owner now).2.1).call).born), .int .i64 (((placeV b x owner now).2.1).car), .int .i64 (((placeV b x owner now).2.1).mode)], .int .i64 (placeV b x owner now).2.2]) ∧ Gives2 w w' [rS la lc 9 (b.live.map rowOf), rS da dc 8 (b.done.map callRow)] la' lc' da' dc' (placeV b x owner now).1 := by
 have H := Lib.hid (Hp.start [] w)
 have H := hp_old H h1 (by decide)
 have H := hp_old H h2 (by decide)
 clear h1 h2
 refine wStart (args := [.agg (bkA b.conf b.index b.room (.slice la b.live.length lc) (.slice da b.done.length dc) b.modes), .agg (xA x), .int .i64 owner, .int .i64 now]) Try.func13 rfl rfl rfl H ?_
 clear H
 show Wk 37 _ _ [(0, .agg (bkA b.conf b.index b.room (.slice la b.live.length lc) (.slice da b.done.length dc) b.modes)), (1, .agg (xA x)), (2, .int .i64 owner), (3, .int .i64 now)] _ _
 have hbl : (b.live.length : Int) ≤ b.room ∧ b.room ≤ 65536 := hb.out.live
 have hbd : (b.done.length : Int) ≤ b.conf.calls ∧ b.conf.calls ≤ 64 := hb.out.done
 have hbi : 0 ≤ b.index ∧ b.index ≤ 1073741824 := hb.out.index
 refine wSeqK fun KK1 hK1 => ?_
 refine wReg ?_
 refine wBx rfl rfl rfl fun b4 => ?_
 refine wBx rfl rfl rfl fun b5 => ?_
 refine wAl rfl rfl tybook_Book fun b8 => ?_
 refine wAl rfl rfl tyapi_Change fun b9 => ?_
 refine p_placeC rfl ?_
 refine wN ?_
 refine tN (wKK hK1 ?_)
 refine wSeqK fun KK2 hK2 => ?_
 refine wReg ?_
 refine p_placeC rfl ?_
 refine wLr rfl tyapi_Config 3 rfl (cL b.conf) rfl rfl ?_
 refine wLr rfl tyapi_Call 2 rfl (xL x) rfl rfl ?_
 refine p_placeC rfl ?_
 refine wLd rfl tyint 3 rfl rfl ?_
 refine p_placeC rfl ?_
 refine wI 19 rfl (IntWalk.i64_in _ (by omega)) ?_
 refine wE (.int .i64 (min (b.index + 1) 1073741824)) rfl rfl rfl (fun aa ww hs _ => by have e19 := hs 19 _ rfl; have g19 := gt_of e19; simp only [execOp]; go_simp <;> first | rfl | omega) ?_
 iterate 2 refine p_placeC rfl ?_
 refine wQ (l := [.agg (cA b.conf), .agg (xA x), .int .i64 (min (b.index + 1) 1073741824), .int .i64 owner, .int .i64 now]) Try.func44 rfl (by kernel_rfl) (.tuple #[.agg (xA ((newCV b.conf x (min (b.index + 1) 1073741824) owner now).1)), .int .i64 ((newCV b.conf x (min (b.index + 1) 1073741824) owner now).2)]) (fun wc H => newCallC b.conf x (min (b.index + 1) 1073741824) owner now wc) rfl rfl rfl rfl ?_
 iterate 3 refine p_placeC rfl ?_
 refine wAl rfl rfl tyapi_Call fun b11 => ?_
 refine wSr rfl tyapi_Call 0 rfl rfl rfl rfl (xL ((newCV b.conf x (min (b.index + 1) 1073741824) owner now).1)) (by first | rfl | (simp only [spl]; rfl)) ?_
 refine p_placeC rfl ?_
 refine wN ?_
 refine tN (wKK hK2 ?_)
 refine wSeqK fun KK3 hK3 => ?_
 refine wSeqK fun KK4 hK4 => ?_
 refine wReg ?_
 iterate 2 refine p_placeC rfl ?_
 refine wN ?_
 refine tN (wKK hK4 ?_)
 refine wCond (E := ((newCV b.conf x (min (b.index + 1) 1073741824) owner now).2) != 0) rfl (fun z1 => ?_) (fun z1 => ?_)
 · skip
   have z1o : (((newCV b.conf x (min (b.index + 1) 1073741824) owner now).2) == 0) = false := neq_t z1
   refine wSeqK fun KK5 hK5 => ?_
   refine wReg ?_
   refine wE (.agg (bkA zeroF 0 0 (.slice none 0 0) (.slice none 0 0) ([0, 0, 0, 0]))) rfl rfl rfl (fun aa ww hs _ => by simp only [execOp]; go_simp <;> first | rfl | omega) ?_
   refine wE (.agg (chA zeroCh)) rfl rfl rfl (fun aa ww hs _ => by simp only [execOp]; go_simp <;> first | rfl | omega) ?_
   refine p_placeC rfl ?_
   refine wSr rfl tybook_Book 2 rfl rfl rfl rfl (bkL zeroF 0 0 (.slice none 0 0) (.slice none 0 0) ([0, 0, 0, 0])) (by first | rfl | (simp only [spl]; rfl)) ?_
   refine wSr rfl tyapi_Change 1 rfl rfl rfl rfl (chL zeroCh) (by first | rfl | (simp only [spl]; rfl)) ?_
   refine p_placeC rfl ?_
   refine wN ?_
   refine tN (wKK hK5 ?_)
   refine wRet ?_
   refine tR ?_
   exact wRcct tybook_Book tyapi_Change rfl rfl rfl rfl 2 1 rfl rfl rfl rfl (fun ww H => (by simp only [placeV, z1, z1o, cond_true, cond_false, Bool.not_true, Bool.not_false, Bool.true_and, Bool.and_true, Bool.false_and, Bool.and_false, Bool.true_or, Bool.or_true, Bool.false_or, Bool.or_false]; exact ⟨none, 0, none, 0, rfl, (rS_nil _ _), (rS_nil _ _), (From.none _ _ _ _ _), (From.none _ _ _ _ _), H.out.off⟩))
 · skip
   have z1o : (((newCV b.conf x (min (b.index + 1) 1073741824) owner now).2) == 0) = true := neq_f z1
   refine wSk ?_
   refine tN (wKK hK3 ?_)
   refine wSeqK fun KK6 hK6 => ?_
   refine wReg ?_
   refine wLr rfl tybook_Book 4 rfl (bkL b.conf b.index b.room (.slice la b.live.length lc) (.slice da b.done.length dc) b.modes) rfl rfl ?_
   refine wLr rfl tyapi_Call 0 rfl (xL ((newCV b.conf x (min (b.index + 1) 1073741824) owner now).1)) rfl rfl ?_
   refine wC (l := [.agg (bkA b.conf b.index b.room (.slice la b.live.length lc) (.slice da b.done.length dc) b.modes), .agg (xA ((newCV b.conf x (min (b.index + 1) 1073741824) owner now).1))]) Try.func45 rfl (by kernel_rfl) (fun wc H => nextC b la lc da dc ((newCV b.conf x (min (b.index + 1) 1073741824) owner now).1) wc (hp_held H (by (repeat (first | exact List.Mem.head _ | apply List.Mem.tail)))) (hp_held H (by (repeat (first | exact List.Mem.head _ | apply List.Mem.tail)))) hb ) rfl rfl rfl rfl ?_
   intro wc H
   rintro er wd ⟨la4_2, lc4_2, da4_2, dc4_2, rfl, hg⟩
   have H2 := hp_gotB H hg.2.2.2.2 hg.1 hg.2.1 (by decide) (by decide) hg.2.2.1 hg.2.2.2.1 (List.forall_mem_cons.2 ⟨(by (repeat (first | exact List.Mem.head _ | apply List.Mem.tail))), List.forall_mem_cons.2 ⟨(by (repeat (first | exact List.Mem.head _ | apply List.Mem.tail))), fun _ h => by cases h⟩⟩)
   replace H2 := hp_fact H2 (p := From w [rS la lc 9 (b.live.map rowOf), rS da dc 8 (b.done.map callRow)] (rS la4_2 lc4_2 9 (((nextV b ((newCV b.conf x (min (b.index + 1) 1073741824) owner now).1)).1).live.map rowOf)).foot) (from_trans hg.2.2.1 H.out.off (List.forall_mem_cons.2 ⟨(From.same rfl _ (by (repeat (first | exact List.Mem.head _ | apply List.Mem.tail)))), List.forall_mem_cons.2 ⟨(From.same rfl _ (by (repeat (first | exact List.Mem.head _ | apply List.Mem.tail)))), fun _ h => by cases h⟩⟩))
   replace H2 := hp_fact H2 (p := From w [rS la lc 9 (b.live.map rowOf), rS da dc 8 (b.done.map callRow)] (rS da4_2 dc4_2 8 (((nextV b ((newCV b.conf x (min (b.index + 1) 1073741824) owner now).1)).1).done.map callRow)).foot) (from_trans hg.2.2.2.1 H.out.off (List.forall_mem_cons.2 ⟨(From.same rfl _ (by (repeat (first | exact List.Mem.head _ | apply List.Mem.tail)))), List.forall_mem_cons.2 ⟨(From.same rfl _ (by (repeat (first | exact List.Mem.head _ | apply List.Mem.tail)))), fun _ h => by cases h⟩⟩))
   refine ⟨_, rfl, wkAt H2 ?_⟩
   clear H H2
   iterate 3 refine p_placeC rfl ?_
   refine wSr rfl tybook_Book 6 rfl rfl rfl rfl (bkL (((nextV b ((newCV b.conf x (min (b.index + 1) 1073741824) owner now).1)).1).conf) (((nextV b ((newCV b.conf x (min (b.index + 1) 1073741824) owner now).1)).1).index) (((nextV b ((newCV b.conf x (min (b.index + 1) 1073741824) owner now).1)).1).room) (.slice la4_2 (((nextV b ((newCV b.conf x (min (b.index + 1) 1073741824) owner now).1)).1).live.length) lc4_2) (.slice da4_2 (((nextV b ((newCV b.conf x (min (b.index + 1) 1073741824) owner now).1)).1).done.length) dc4_2) (((nextV b ((newCV b.conf x (min (b.index + 1) 1073741824) owner now).1)).1).modes)) (by first | rfl | (simp only [spl]; rfl)) ?_
   refine wSr rfl tyapi_Change 5 rfl rfl rfl rfl (chL ((nextV b ((newCV b.conf x (min (b.index + 1) 1073741824) owner now).1)).2.1)) (by first | rfl | (simp only [spl]; rfl)) ?_
   refine p_placeC rfl ?_
   refine wN ?_
   refine tN (wKK hK6 ?_)
   refine wRet ?_
   exact wRcct tybook_Book tyapi_Change rfl rfl rfl rfl 6 5 rfl rfl rfl rfl (fun ww H => (by simp only [placeV, z1, z1o, cond_true, cond_false, Bool.not_true, Bool.not_false, Bool.true_and, Bool.and_true, Bool.false_and, Bool.and_false, Bool.true_or, Bool.or_true, Bool.false_or, Bool.or_false]; exact ⟨la4_2, lc4_2, da4_2, dc4_2, rfl, (hp_held H (by (repeat (first | exact List.Mem.head _ | apply List.Mem.tail)))), (hp_held H (by (repeat (first | exact List.Mem.head _ | apply List.Mem.tail)))), (hp_told H (by (repeat (first | exact List.Mem.head _ | apply List.Mem.tail)))), (hp_told H (by (repeat (first | exact List.Mem.head _ | apply List.Mem.tail)))), H.out.off⟩))
def tab_cancelBC : Wk.Tab := [(38, 6, 6)]
theorem p_cancelBC {ops : Array Oper} {rest : List Oper} {o : Oper} {w0 : World} {Q : Exit → Act → World → Prop} {S : List Nat} {R : List Res} {K K' : Wk.Env} {N : Nat} (h : Wk.stp tab_cancelBC N ops K o = some K') (n : Wk.Wk N S w0 K' R (wpList Try.prog ops Q rest)) : Wk.Wk N S w0 K R (wpList Try.prog ops Q (o :: rest)) := Wk.wP (T := tab_cancelBC) (by kernel_rfl) h n
set_option maxHeartbeats 16000000 in
set_option maxRecDepth 20000 in
theorem cancelBC (b : BookV) (la : Option Addr) (lc : Nat) (da : Option Addr) (dc : Nat) (id : Int) (owner : Int) (w : World) (h1 : (rS la lc 9 (b.live.map rowOf)).holds w) (h2 : (rS da dc 8 (b.done.map callRow)).holds w) (hb : Hid (OkB b)) : Calls Try.prog 14 #[.agg (bkA b.conf b.index b.room (.slice la b.live.length lc) (.slice da b.done.length dc) b.modes), .int .i64 id, .int .i64 owner] w fun e w' => ∃ la' lc' da' dc', e = .returned (.tuple #[.agg #[.int .i64 ((((cancelBV b id owner).1).conf).floors), .int .i64 ((((cancelBV b id owner).1).conf).cars), .int .i64 ((((cancelBV b id owner).1).conf).seats), .int .i64 ((((cancelBV b id owner).1).conf).calls), .int .i64 ((((cancelBV b id owner).1).conf).lines), .int .i64 ((((cancelBV b id owner).1).conf).keys), .int .i64 ((((cancelBV b id owner).1).conf).window), .int .i64 ((((cancelBV b id owner).1).conf).burst), .int .i64 ((((cancelBV b id owner).1).conf).rate), .int .i64 ((((cancelBV b id owner).1).conf).idle), .int .i64 ((((cancelBV b id owner).1).conf).inn), .int .i64 ((((cancelBV b id owner).1).conf).out), .int .i64 ((((cancelBV b id owner).1).conf).feed), .int .i64 ((((cancelBV b id owner).1).conf).retries), .int .i64 ((((cancelBV b id owner).1).conf).life), .int .i64 ((((cancelBV b id owner).1).conf).door), .int .i64 ((((cancelBV b id owner).1).conf).holds), .int .u32 ((((cancelBV b id owner).1).conf).secret), .int .i64 (((cancelBV b id owner).1).index), .int .i64 (((cancelBV b id owner).1).room), .slice la' (((cancelBV b id owner).1).live.length) lc', .slice da' (((cancelBV b id owner).1).done.length) dc', .int .i64 (((cancelBV b id owner).1).modes.getD 0 0), .int .i64 (((cancelBV b id owner).1).modes.getD 1 0), .int .i64 (((cancelBV b id owner).1).modes.getD 2 0), .int .i64 (((cancelBV b id owner).1).modes.getD 3 0)], .agg #[.int .i64 (((cancelBV b id owner).2.1).index), .int .i64 ((((cancelBV b id owner).2.1).call).id), .int .i64 ((((cancelBV b id owner).2.1).call).kind), .int .i64 ((((cancelBV b id owner).2.1).call).src), .int .i64 ((((cancelBV b id owner).2.1).call).dst), .int .i64 ((((cancelBV b id owner).2.1).call).car), .int .i64 ((((cancelBV b id owner).2.1).call).state), .int .i64 ((((cancelBV b id owner).2.1).call).owner), .int .i64 ((((cancelBV b id owner).2.1).call).born), .int .i64 (((cancelBV b id owner).2.1).car), .int .i64 (((cancelBV b id owner).2.1).mode)], .int .i64 (cancelBV b id owner).2.2]) ∧ Gives2 w w' [rS la lc 9 (b.live.map rowOf), rS da dc 8 (b.done.map callRow)] la' lc' da' dc' (cancelBV b id owner).1 := by
 have H := Lib.hid (Hp.start [] w)
 have H := hp_old H h1 (by decide)
 have H := hp_old H h2 (by decide)
 clear h1 h2
 refine wStart (args := [.agg (bkA b.conf b.index b.room (.slice la b.live.length lc) (.slice da b.done.length dc) b.modes), .int .i64 id, .int .i64 owner]) Try.func14 rfl rfl rfl H ?_
 clear H
 show Wk 52 _ _ [(0, .agg (bkA b.conf b.index b.room (.slice la b.live.length lc) (.slice da b.done.length dc) b.modes)), (1, .int .i64 id), (2, .int .i64 owner)] _ _
 have hbl : (b.live.length : Int) ≤ b.room ∧ b.room ≤ 65536 := hb.out.live
 have hbd : (b.done.length : Int) ≤ b.conf.calls ∧ b.conf.calls ≤ 64 := hb.out.done
 have hbi : 0 ≤ b.index ∧ b.index ≤ 1073741824 := hb.out.index
 refine wSeqK fun KK1 hK1 => ?_
 refine wReg ?_
 refine wBx rfl rfl rfl fun b3 => ?_
 refine wAl rfl rfl tybook_Book fun b6 => ?_
 refine wAl rfl rfl tyapi_Change fun b7 => ?_
 refine p_cancelBC rfl ?_
 refine wN ?_
 refine tN (wKK hK1 ?_)
 refine wSeqK fun KK2 hK2 => ?_
 refine wReg ?_
 refine wLr rfl tybook_Book 2 rfl (bkL b.conf b.index b.room (.slice la b.live.length lc) (.slice da b.done.length dc) b.modes) rfl rfl ?_
 refine p_cancelBC rfl ?_
 refine wQ (l := [.agg (bkA b.conf b.index b.room (.slice la b.live.length lc) (.slice da b.done.length dc) b.modes), .int .i64 id]) Try.func20 rfl (by kernel_rfl) (.tuple #[.agg (xA ((findV b id).1)), .bool ((findV b id).2)]) (fun wc H => findC b la lc da dc id wc (hp_held H (by (repeat (first | exact List.Mem.head _ | apply List.Mem.tail)))) (hp_held H (by (repeat (first | exact List.Mem.head _ | apply List.Mem.tail)))) hb) rfl rfl rfl rfl ?_
 iterate 3 refine p_cancelBC rfl ?_
 refine wAl rfl rfl tyapi_Call fun b9 => ?_
 refine wSr rfl tyapi_Call 0 rfl rfl rfl rfl (xL ((findV b id).1)) (by first | rfl | (simp only [spl]; rfl)) ?_
 refine p_cancelBC rfl ?_
 refine wN ?_
 refine tN (wKK hK2 ?_)
 refine wSeqK fun KK3 hK3 => ?_
 refine wBlk ?_
 refine wSeqK fun KK4 hK4 => ?_
 refine wReg ?_
 refine wLr rfl tybook_Book 3 rfl (bkL b.conf b.index b.room (.slice la b.live.length lc) (.slice da b.done.length dc) b.modes) rfl rfl ?_
 refine wQ (l := [.agg (bkA b.conf b.index b.room (.slice la b.live.length lc) (.slice da b.done.length dc) b.modes)]) Try.func46 rfl (by kernel_rfl) (.bool (b.room == 0)) (fun wc H => isNoneC b la lc da dc  wc (hp_held H (by (repeat (first | exact List.Mem.head _ | apply List.Mem.tail)))) (hp_held H (by (repeat (first | exact List.Mem.head _ | apply List.Mem.tail)))) hb) rfl rfl rfl rfl ?_
 refine p_cancelBC rfl ?_
 refine wN ?_
 refine tN (wKK hK4 ?_)
 refine wCond (E := b.room == 0) rfl (fun z1 => ?_) (fun z1 => ?_)
 · skip
   have z1o : (b.room != 0) = false := eqq_t z1
   refine wSeqK fun KK5 hK5 => ?_
   refine wReg ?_
   refine wE (.agg (bkA zeroF 0 0 (.slice none 0 0) (.slice none 0 0) ([0, 0, 0, 0]))) rfl rfl rfl (fun aa ww hs _ => by simp only [execOp]; go_simp <;> first | rfl | omega) ?_
   refine wE (.agg (chA zeroCh)) rfl rfl rfl (fun aa ww hs _ => by simp only [execOp]; go_simp <;> first | rfl | omega) ?_
   refine wSr rfl tybook_Book 2 rfl rfl rfl rfl (bkL zeroF 0 0 (.slice none 0 0) (.slice none 0 0) ([0, 0, 0, 0])) (by first | rfl | (simp only [spl]; rfl)) ?_
   refine wSr rfl tyapi_Change 1 rfl rfl rfl rfl (chL zeroCh) (by first | rfl | (simp only [spl]; rfl)) ?_
   refine p_cancelBC rfl ?_
   refine wN ?_
   refine tN (wKK hK5 ?_)
   refine wRet ?_
   refine bR (tR ?_)
   exact wRcct tybook_Book tyapi_Change rfl rfl rfl rfl 2 1 rfl rfl rfl rfl (fun ww H => (by simp only [cancelBV, z1, z1o, cond_true, cond_false, Bool.not_true, Bool.not_false, Bool.true_and, Bool.and_true, Bool.false_and, Bool.and_false, Bool.true_or, Bool.or_true, Bool.false_or, Bool.or_false]; exact ⟨none, 0, none, 0, rfl, (rS_nil _ _), (rS_nil _ _), (From.none _ _ _ _ _), (From.none _ _ _ _ _), H.out.off⟩))
 · skip
   have z1o : (b.room != 0) = true := eqq_f z1
   refine wSeqK fun KK6 hK6 => ?_
   refine wReg ?_
   iterate 3 refine p_cancelBC rfl ?_
   refine wN ?_
   refine tN (wKK hK6 ?_)
   refine wCond (E := !((findV b id).2)) rfl (fun z2 => ?_) (fun z2 => ?_)
   · skip
     have z2n : ((findV b id).2) = false := Reg.bn z2
     refine wSeqK fun KK7 hK7 => ?_
     refine wReg ?_
     refine wE (.agg (bkA zeroF 0 0 (.slice none 0 0) (.slice none 0 0) ([0, 0, 0, 0]))) rfl rfl rfl (fun aa ww hs _ => by simp only [execOp]; go_simp <;> first | rfl | omega) ?_
     refine wE (.agg (chA zeroCh)) rfl rfl rfl (fun aa ww hs _ => by simp only [execOp]; go_simp <;> first | rfl | omega) ?_
     refine wSr rfl tybook_Book 2 rfl rfl rfl rfl (bkL zeroF 0 0 (.slice none 0 0) (.slice none 0 0) ([0, 0, 0, 0])) (by first | rfl | (simp only [spl]; rfl)) ?_
     refine wSr rfl tyapi_Change 1 rfl rfl rfl rfl (chL zeroCh) (by first | rfl | (simp only [spl]; rfl)) ?_
     refine p_cancelBC rfl ?_
     refine wN ?_
     refine tN (wKK hK7 ?_)
     refine wRet ?_
     refine bR (tR ?_)
     exact wRcct tybook_Book tyapi_Change rfl rfl rfl rfl 2 1 rfl rfl rfl rfl (fun ww H => (by simp only [cancelBV, z1, z1o, z2, z2n, cond_true, cond_false, Bool.not_true, Bool.not_false, Bool.true_and, Bool.and_true, Bool.false_and, Bool.and_false, Bool.true_or, Bool.or_true, Bool.false_or, Bool.or_false]; exact ⟨none, 0, none, 0, rfl, (rS_nil _ _), (rS_nil _ _), (From.none _ _ _ _ _), (From.none _ _ _ _ _), H.out.off⟩))
   · skip
     have z2n : ((findV b id).2) = true := Reg.bt z2
     refine wSeqK fun KK8 hK8 => ?_
     refine wReg ?_
     refine p_cancelBC rfl ?_
     refine wLd rfl tyint 0 rfl rfl ?_
     iterate 3 refine p_cancelBC rfl ?_
     refine wN ?_
     refine tN (wKK hK8 ?_)
     refine wCond (E := (((findV b id).1).owner) != owner) rfl (fun z3 => ?_) (fun z3 => ?_)
     · skip
       have z3o : ((((findV b id).1).owner) == owner) = false := neq_t z3
       refine wSeqK fun KK9 hK9 => ?_
       refine wReg ?_
       refine wE (.agg (bkA zeroF 0 0 (.slice none 0 0) (.slice none 0 0) ([0, 0, 0, 0]))) rfl rfl rfl (fun aa ww hs _ => by simp only [execOp]; go_simp <;> first | rfl | omega) ?_
       refine wE (.agg (chA zeroCh)) rfl rfl rfl (fun aa ww hs _ => by simp only [execOp]; go_simp <;> first | rfl | omega) ?_
       refine wSr rfl tybook_Book 2 rfl rfl rfl rfl (bkL zeroF 0 0 (.slice none 0 0) (.slice none 0 0) ([0, 0, 0, 0])) (by first | rfl | (simp only [spl]; rfl)) ?_
       refine wSr rfl tyapi_Change 1 rfl rfl rfl rfl (chL zeroCh) (by first | rfl | (simp only [spl]; rfl)) ?_
       refine p_cancelBC rfl ?_
       refine wN ?_
       refine tN (wKK hK9 ?_)
       refine wRet ?_
       refine bR (tR ?_)
       exact wRcct tybook_Book tyapi_Change rfl rfl rfl rfl 2 1 rfl rfl rfl rfl (fun ww H => (by simp only [cancelBV, z1, z1o, z2, z2n, z3, z3o, cond_true, cond_false, Bool.not_true, Bool.not_false, Bool.true_and, Bool.and_true, Bool.false_and, Bool.and_false, Bool.true_or, Bool.or_true, Bool.false_or, Bool.or_false]; exact ⟨none, 0, none, 0, rfl, (rS_nil _ _), (rS_nil _ _), (From.none _ _ _ _ _), (From.none _ _ _ _ _), H.out.off⟩))
     · skip
       have z3o : ((((findV b id).1).owner) == owner) = true := neq_f z3
       refine wSk ?_
       refine bN (tN (wKK hK3 ?_))
       refine wSeqK fun KK10 hK10 => ?_
       refine wReg ?_
       refine wLr rfl tyapi_Call 0 rfl (xL ((findV b id).1)) rfl rfl ?_
       refine wQ (l := [.agg (xA ((findV b id).1))]) Try.func47 rfl (by kernel_rfl) (.tuple #[.agg (xA ((cancelV ((findV b id).1)).1)), .int .i64 ((cancelV ((findV b id).1)).2)]) (fun wc H => cancelC ((findV b id).1) wc) rfl rfl rfl rfl ?_
       iterate 3 refine p_cancelBC rfl ?_
       refine wAl rfl rfl tyapi_Call fun b11 => ?_
       refine wSr rfl tyapi_Call 0 rfl rfl rfl rfl (xL ((cancelV ((findV b id).1)).1)) (by first | rfl | (simp only [spl]; rfl)) ?_
       refine p_cancelBC rfl ?_
       refine wN ?_
       refine tN (wKK hK10 ?_)
       refine wSeqK fun KK11 hK11 => ?_
       refine wSeqK fun KK12 hK12 => ?_
       refine wReg ?_
       iterate 2 refine p_cancelBC rfl ?_
       refine wN ?_
       refine tN (wKK hK12 ?_)
       refine wCond (E := ((cancelV ((findV b id).1)).2) != 0) rfl (fun z4 => ?_) (fun z4 => ?_)
       · skip
         have z4o : (((cancelV ((findV b id).1)).2) == 0) = false := neq_t z4
         refine wSeqK fun KK13 hK13 => ?_
         refine wReg ?_
         refine wE (.agg (bkA zeroF 0 0 (.slice none 0 0) (.slice none 0 0) ([0, 0, 0, 0]))) rfl rfl rfl (fun aa ww hs _ => by simp only [execOp]; go_simp <;> first | rfl | omega) ?_
         refine wE (.agg (chA zeroCh)) rfl rfl rfl (fun aa ww hs _ => by simp only [execOp]; go_simp <;> first | rfl | omega) ?_
         refine p_cancelBC rfl ?_
         refine wSr rfl tybook_Book 3 rfl rfl rfl rfl (bkL zeroF 0 0 (.slice none 0 0) (.slice none 0 0) ([0, 0, 0, 0])) (by first | rfl | (simp only [spl]; rfl)) ?_
         refine wSr rfl tyapi_Change 2 rfl rfl rfl rfl (chL zeroCh) (by first | rfl | (simp only [spl]; rfl)) ?_
         refine p_cancelBC rfl ?_
         refine wN ?_
         refine tN (wKK hK13 ?_)
         refine wRet ?_
         refine tR ?_
         exact wRcct tybook_Book tyapi_Change rfl rfl rfl rfl 3 2 rfl rfl rfl rfl (fun ww H => (by simp only [cancelBV, z1, z1o, z2, z2n, z3, z3o, z4, z4o, cond_true, cond_false, Bool.not_true, Bool.not_false, Bool.true_and, Bool.and_true, Bool.false_and, Bool.and_false, Bool.true_or, Bool.or_true, Bool.false_or, Bool.or_false]; exact ⟨none, 0, none, 0, rfl, (rS_nil _ _), (rS_nil _ _), (From.none _ _ _ _ _), (From.none _ _ _ _ _), H.out.off⟩))
       · skip
         have z4o : (((cancelV ((findV b id).1)).2) == 0) = true := neq_f z4
         refine wSk ?_
         refine tN (wKK hK11 ?_)
         refine wSeqK fun KK14 hK14 => ?_
         refine wReg ?_
         refine wLr rfl tybook_Book 4 rfl (bkL b.conf b.index b.room (.slice la b.live.length lc) (.slice da b.done.length dc) b.modes) rfl rfl ?_
         refine wLr rfl tyapi_Call 0 rfl (xL ((cancelV ((findV b id).1)).1)) rfl rfl ?_
         refine wC (l := [.agg (bkA b.conf b.index b.room (.slice la b.live.length lc) (.slice da b.done.length dc) b.modes), .agg (xA ((cancelV ((findV b id).1)).1))]) Try.func45 rfl (by kernel_rfl) (fun wc H => nextC b la lc da dc ((cancelV ((findV b id).1)).1) wc (hp_held H (by (repeat (first | exact List.Mem.head _ | apply List.Mem.tail)))) (hp_held H (by (repeat (first | exact List.Mem.head _ | apply List.Mem.tail)))) hb ) rfl rfl rfl rfl ?_
         intro wc H
         rintro er wd ⟨la11_2, lc11_2, da11_2, dc11_2, rfl, hg⟩
         have H2 := hp_gotB H hg.2.2.2.2 hg.1 hg.2.1 (by decide) (by decide) hg.2.2.1 hg.2.2.2.1 (List.forall_mem_cons.2 ⟨(by (repeat (first | exact List.Mem.head _ | apply List.Mem.tail))), List.forall_mem_cons.2 ⟨(by (repeat (first | exact List.Mem.head _ | apply List.Mem.tail))), fun _ h => by cases h⟩⟩)
         replace H2 := hp_fact H2 (p := From w [rS la lc 9 (b.live.map rowOf), rS da dc 8 (b.done.map callRow)] (rS la11_2 lc11_2 9 (((nextV b ((cancelV ((findV b id).1)).1)).1).live.map rowOf)).foot) (from_trans hg.2.2.1 H.out.off (List.forall_mem_cons.2 ⟨(From.same rfl _ (by (repeat (first | exact List.Mem.head _ | apply List.Mem.tail)))), List.forall_mem_cons.2 ⟨(From.same rfl _ (by (repeat (first | exact List.Mem.head _ | apply List.Mem.tail)))), fun _ h => by cases h⟩⟩))
         replace H2 := hp_fact H2 (p := From w [rS la lc 9 (b.live.map rowOf), rS da dc 8 (b.done.map callRow)] (rS da11_2 dc11_2 8 (((nextV b ((cancelV ((findV b id).1)).1)).1).done.map callRow)).foot) (from_trans hg.2.2.2.1 H.out.off (List.forall_mem_cons.2 ⟨(From.same rfl _ (by (repeat (first | exact List.Mem.head _ | apply List.Mem.tail)))), List.forall_mem_cons.2 ⟨(From.same rfl _ (by (repeat (first | exact List.Mem.head _ | apply List.Mem.tail)))), fun _ h => by cases h⟩⟩))
         refine ⟨_, rfl, wkAt H2 ?_⟩
         clear H H2
         iterate 3 refine p_cancelBC rfl ?_
         refine wSr rfl tybook_Book 7 rfl rfl rfl rfl (bkL (((nextV b ((cancelV ((findV b id).1)).1)).1).conf) (((nextV b ((cancelV ((findV b id).1)).1)).1).index) (((nextV b ((cancelV ((findV b id).1)).1)).1).room) (.slice la11_2 (((nextV b ((cancelV ((findV b id).1)).1)).1).live.length) lc11_2) (.slice da11_2 (((nextV b ((cancelV ((findV b id).1)).1)).1).done.length) dc11_2) (((nextV b ((cancelV ((findV b id).1)).1)).1).modes)) (by first | rfl | (simp only [spl]; rfl)) ?_
         refine wSr rfl tyapi_Change 6 rfl rfl rfl rfl (chL ((nextV b ((cancelV ((findV b id).1)).1)).2.1)) (by first | rfl | (simp only [spl]; rfl)) ?_
         refine p_cancelBC rfl ?_
         refine wN ?_
         refine tN (wKK hK14 ?_)
         refine wRet ?_
         exact wRcct tybook_Book tyapi_Change rfl rfl rfl rfl 7 6 rfl rfl rfl rfl (fun ww H => (by simp only [cancelBV, z1, z1o, z2, z2n, z3, z3o, z4, z4o, cond_true, cond_false, Bool.not_true, Bool.not_false, Bool.true_and, Bool.and_true, Bool.false_and, Bool.and_false, Bool.true_or, Bool.or_true, Bool.false_or, Bool.or_false]; exact ⟨la11_2, lc11_2, da11_2, dc11_2, rfl, (hp_held H (by (repeat (first | exact List.Mem.head _ | apply List.Mem.tail)))), (hp_held H (by (repeat (first | exact List.Mem.head _ | apply List.Mem.tail)))), (hp_told H (by (repeat (first | exact List.Mem.head _ | apply List.Mem.tail)))), (hp_told H (by (repeat (first | exact List.Mem.head _ | apply List.Mem.tail)))), H.out.off⟩))
def tab_setC : Wk.Tab := [(33, 0, 0), (33, 1, 18), (33, 4, 22)]
theorem p_setC {ops : Array Oper} {rest : List Oper} {o : Oper} {w0 : World} {Q : Exit → Act → World → Prop} {S : List Nat} {R : List Res} {K K' : Wk.Env} {N : Nat} (h : Wk.stp tab_setC N ops K o = some K') (n : Wk.Wk N S w0 K' R (wpList Try.prog ops Q rest)) : Wk.Wk N S w0 K R (wpList Try.prog ops Q (o :: rest)) := Wk.wP (T := tab_setC) (by kernel_rfl) h n
set_option maxHeartbeats 4000000 in
set_option maxRecDepth 20000 in
theorem setC_r9 (b : BookV) (la : Option Addr) (lc : Nat) (da : Option Addr) (dc : Nat) (car : Int) (mode : Int) (hbl : (b.live.length : Int) ≤ b.room ∧ b.room ≤ 65536) (hbd : (b.done.length : Int) ≤ b.conf.calls ∧ b.conf.calls ≤ 64) (hbi : 0 ≤ b.index ∧ b.index ≤ 1073741824) (b3 : Nat) (b6 : Nat) (b7 : Nat) (m : Nat) (hm : car - 1 = ((m : Nat) : Int)) (hm4 : m < 4) (hmw : IntKind.i64.wrap (car - 1) = ((m : Nat) : Int)) (z5d : ¬ (1073741824 ≤ b.index)) {wa wb : World} (H : Hid (Hp [] wa wb [rB b7 40 (chL zeroCh), rB b6 33 (bkL zeroF 0 0 (.slice none 0 0) (.slice none 0 0) ([0, 0, 0, 0])), rB b3 33 (bkL b.conf (b.index + 1) b.room (.slice la b.live.length lc) (.slice da b.done.length dc) (b.modes.set m mode)), rS da dc 8 (b.done.map callRow), rS la lc 9 (b.live.map rowOf)])) (ac0 : Act) (hz : ac0.tmps.size = 51) (so1 : ac0.eval (.tmp 1) = .int .i64 car) (so2 : ac0.eval (.tmp 2) = .int .i64 mode) (so3 : ac0.eval (.tmp 3) = .pointer (some ⟨b3, 0, none⟩)) (so6 : ac0.eval (.tmp 6) = .pointer (some ⟨b6, 0, none⟩)) (so7 : ac0.eval (.tmp 7) = .pointer (some ⟨b7, 0, none⟩)) {QR : Exit → Act → World → Prop} (hfin : ∀ (ac1 : Act) (wz : World), ac1.tmps.size = 51 → ac1.defers = ac0.defers → (∀ t, ([8, 45, 46, 47, 48, 49, 50] : List Nat).contains t = false → ac1.eval (.tmp t) = ac0.eval (.tmp t)) → ac1.eval (.tmp 8) = .int .i64 0 →  Hid (Hp [] wa wz [rB b7 40 [.int .i64 (b.index + 1), .int .i64 0, .int .i64 0, .int .i64 0, .int .i64 0, .int .i64 0, .int .i64 0, .int .i64 0, .int .i64 0, .int .i64 car, .int .i64 mode], rB b6 33 (bkL b.conf (b.index + 1) b.room (.slice la b.live.length lc) (.slice da b.done.length dc) (b.modes.set m mode)), rB b3 33 (bkL b.conf (b.index + 1) b.room (.slice la b.live.length lc) (.slice da b.done.length dc) (b.modes.set m mode)), rS da dc 8 (b.done.map callRow), rS la lc 9 (b.live.map rowOf)]) → QR .normal ac1 wz) : (regAt Try.f15 9).wp Try.prog QR ac0 wb := by
  refine wp_region_st mixedP ⟨[0, 0, 1, 0, 0, 2, 1, 3, 4], by kernel_rfl⟩ [[], [], [1], [], [], [1, 2, 3, 4], [0], [0, 1, 2, 3, 4, 5, 6], [0, 1, 2, 3, 4, 5, 6, 7]] (by kernel_rfl) (by kernel_rfl) 51 hz (by kernel_rfl) (fun (xx : Unit) jx => nth [.agg (bkA b.conf (b.index + 1) b.room (.slice la b.live.length lc) (.slice da b.done.length dc) (b.modes.set m mode)), .pointer (some ⟨b3, 18, none⟩), .int .i64 (b.index + 1), .int .i64 car, .int .i64 mode, .agg #[.int .i64 (b.index + 1), .int .i64 0, .int .i64 0, .int .i64 0, .int .i64 0, .int .i64 0, .int .i64 0, .int .i64 0, .int .i64 0, .int .i64 car, .int .i64 mode], undef, undef, .int .i64 0] jx) (fun (LL : Nat → Bool) (xx : Unit) ww => Hp [] wa ww (bif LL 6 then (bif LL 7 then [rB b7 40 [.int .i64 (b.index + 1), .int .i64 0, .int .i64 0, .int .i64 0, .int .i64 0, .int .i64 0, .int .i64 0, .int .i64 0, .int .i64 0, .int .i64 car, .int .i64 mode], rB b6 33 (bkL b.conf (b.index + 1) b.room (.slice la b.live.length lc) (.slice da b.done.length dc) (b.modes.set m mode)), rB b3 33 (bkL b.conf (b.index + 1) b.room (.slice la b.live.length lc) (.slice da b.done.length dc) (b.modes.set m mode)), rS da dc 8 (b.done.map callRow), rS la lc 9 (b.live.map rowOf)] else [rB b7 40 (chL zeroCh), rB b6 33 (bkL b.conf (b.index + 1) b.room (.slice la b.live.length lc) (.slice da b.done.length dc) (b.modes.set m mode)), rB b3 33 (bkL b.conf (b.index + 1) b.room (.slice la b.live.length lc) (.slice da b.done.length dc) (b.modes.set m mode)), rS da dc 8 (b.done.map callRow), rS la lc 9 (b.live.map rowOf)]) else [rB b7 40 (chL zeroCh), rB b6 33 (bkL zeroF 0 0 (.slice none 0 0) (.slice none 0 0) ([0, 0, 0, 0])), rB b3 33 (bkL b.conf (b.index + 1) b.room (.slice la b.live.length lc) (.slice da b.done.length dc) (b.modes.set m mode)), rS da dc 8 (b.done.map callRow), rS la lc 9 (b.live.map rowOf)])) () H.out.drew ?_ (steps_al ?_) ?_ ?_
  · intro L1 L2 xx ww hL sg
    have lh6 := hL 6 (by decide)
    have lh7 := hL 7 (by decide)
    simp only [lh6, lh7] at sg
    exact sg
  · refine al_cons ?_ (al_cons ?_ (al_cons ?_ (al_cons ?_ (al_cons ?_ (al_cons ?_ (al_cons ?_ (al_cons ?_ (al_cons ?_ (al_nil)))))))))
    · intro LL xx ac wc sg hst hwant QQ hgo
      have H := Lib.hid hst
      simp only [sg.des 6 rfl, sg.des 7 rfl, cond_true, cond_false] at H
      refine hpA_load tybook_Book H rfl ((sg.free 3 (by kernel_rfl)).trans so3) hwant (by (repeat (first | exact List.Mem.head _ | apply List.Mem.tail))) (by rfl) rfl ?_
      exact hgo _ () _ (fun _ _ => rfl) rfl hst
    · intro LL xx ac wc sg hst hwant QQ hgo
      have se3 : ac.eval (.tmp 3) = _ := ((sg.free 3 (by kernel_rfl)).trans so3)
      have sg3 := gt_of se3
      exact op_val hwant hgo hst _ (by simp only [execOp, nth]; go_simp <;> omega) rfl
    · intro LL xx ac wc sg hst hwant QQ hgo
      rcases Bool.eq_false_or_eq_true (LL 6) with lh6 | lh6
      · skip
        have H := Lib.hid hst
        simp only [lh6, sg.des 7 rfl, cond_true, cond_false] at H
        refine hpA_load1 tyint H rfl (sg.slot 1 (sg.anc 1 rfl)) hwant (by (repeat (first | exact List.Mem.head _ | apply List.Mem.tail))) (by rfl) ?_
        exact hgo _ () _ (fun _ _ => rfl) rfl hst
      · skip
        have H := Lib.hid hst
        simp only [lh6, sg.des 7 rfl, cond_true, cond_false] at H
        refine hpA_load1 tyint H rfl (sg.slot 1 (sg.anc 1 rfl)) hwant (by (repeat (first | exact List.Mem.head _ | apply List.Mem.tail))) (by rfl) ?_
        exact hgo _ () _ (fun _ _ => rfl) rfl hst
    · intro LL xx ac wc sg hst hwant QQ hgo
      exact op_val hwant hgo hst _ (exec_move rfl ((sg.free 1 (by kernel_rfl)).trans so1)) rfl
    · intro LL xx ac wc sg hst hwant QQ hgo
      exact op_val hwant hgo hst _ (exec_move rfl ((sg.free 2 (by kernel_rfl)).trans so2)) rfl
    · intro LL xx ac wc sg hst hwant QQ hgo
      have se47 : ac.eval (.tmp 47) = _ := (sg.slot 2 (sg.anc 2 rfl))
      have sg47 := gt_of se47
      have se48 : ac.eval (.tmp 48) = _ := (sg.slot 3 (sg.anc 3 rfl))
      have sg48 := gt_of se48
      have se49 : ac.eval (.tmp 49) = _ := (sg.slot 4 (sg.anc 4 rfl))
      have sg49 := gt_of se49
      (try simp only [nth] at se47 sg47 se48 sg48 se49 sg49)
      (try simp only [xA, xL, cA, cL, chA, chL, bkA, bkL] at se47 sg47 se48 sg48 se49 sg49)
      exact op_val hwant hgo hst _ (by simp only [execOp, nth, xA, xL, cA, cL, chA, chL, bkA, bkL]; go_simp <;> omega) rfl
    · intro LL xx ac wc sg hst hwant QQ hgo
      have H := Lib.hid hst
      simp only [sg.self, sg.des 7 rfl, cond_true, cond_false] at H
      refine hpA_store tybook_Book H rfl rfl ((sg.free 6 (by kernel_rfl)).trans so6) (sg.slot 0 (sg.anc 0 rfl)) rfl (by repeat (first | apply Put.head | apply Put.tail)) (by simp [xA, xL, cA, cL, chA, chL, bkA, bkL]) (by simp [xA, xL, cA, cL, chA, chL, bkA, bkL, Value.oneCell']) (by first | rfl | (simp only [spl]; rfl)) rfl ?_
      intro wd H2
      exact hgo _ () _ (fun _ _ => rfl) rfl (by simp only [(show upd LL 6 6 = true from rfl), (show upd LL 6 7 = LL 7 from rfl), sg.des 7 rfl, cond_true, cond_false]; exact H2.out)
    · intro LL xx ac wc sg hst hwant QQ hgo
      have H := Lib.hid hst
      simp only [sg.anc 6 rfl, sg.self, cond_true, cond_false] at H
      refine hpA_store tyapi_Change H rfl rfl ((sg.free 7 (by kernel_rfl)).trans so7) (sg.slot 5 (sg.anc 5 rfl)) rfl (by repeat (first | apply Put.head | apply Put.tail)) (by simp [xA, xL, cA, cL, chA, chL, bkA, bkL]) (by simp [xA, xL, cA, cL, chA, chL, bkA, bkL, Value.oneCell']) (by first | rfl | (simp only [spl]; rfl)) rfl ?_
      intro wd H2
      exact hgo _ () _ (fun _ _ => rfl) rfl (by simp only [(show upd LL 7 6 = LL 6 from rfl), sg.anc 6 rfl, (show upd LL 7 7 = true from rfl), cond_true, cond_false]; exact H2.out)
    · intro LL xx ac wc sg hst hwant QQ hgo
      exact op_val hwant hgo hst _ (exec_assign rfl rfl) rfl
  · exact skips [] (by kernel_rfl) (fun _ h => by cases h)
  · intro xx ac1 wz hfr hsl hst
    exact hfin ac1 wz (hfr.size.trans hz) hfr.defers (fr_keep hfr [8, 45, 46, 47, 48, 49, 50] (by kernel_rfl)) (hsl 8 (by decide)) (Lib.hid hst)
set_option maxHeartbeats 16000000 in
set_option maxRecDepth 20000 in
theorem setC (b : BookV) (la : Option Addr) (lc : Nat) (da : Option Addr) (dc : Nat) (car : Int) (mode : Int) (w : World) (h1 : (rS la lc 9 (b.live.map rowOf)).holds w) (h2 : (rS da dc 8 (b.done.map callRow)).holds w) (hb : Hid (OkB b)) : Calls Try.prog 15 #[.agg (bkA b.conf b.index b.room (.slice la b.live.length lc) (.slice da b.done.length dc) b.modes), .int .i64 car, .int .i64 mode] w fun e w' => ∃ la' lc' da' dc', e = .returned (.tuple #[.agg #[.int .i64 ((((setV b car mode).1).conf).floors), .int .i64 ((((setV b car mode).1).conf).cars), .int .i64 ((((setV b car mode).1).conf).seats), .int .i64 ((((setV b car mode).1).conf).calls), .int .i64 ((((setV b car mode).1).conf).lines), .int .i64 ((((setV b car mode).1).conf).keys), .int .i64 ((((setV b car mode).1).conf).window), .int .i64 ((((setV b car mode).1).conf).burst), .int .i64 ((((setV b car mode).1).conf).rate), .int .i64 ((((setV b car mode).1).conf).idle), .int .i64 ((((setV b car mode).1).conf).inn), .int .i64 ((((setV b car mode).1).conf).out), .int .i64 ((((setV b car mode).1).conf).feed), .int .i64 ((((setV b car mode).1).conf).retries), .int .i64 ((((setV b car mode).1).conf).life), .int .i64 ((((setV b car mode).1).conf).door), .int .i64 ((((setV b car mode).1).conf).holds), .int .u32 ((((setV b car mode).1).conf).secret), .int .i64 (((setV b car mode).1).index), .int .i64 (((setV b car mode).1).room), .slice la' (((setV b car mode).1).live.length) lc', .slice da' (((setV b car mode).1).done.length) dc', .int .i64 (((setV b car mode).1).modes.getD 0 0), .int .i64 (((setV b car mode).1).modes.getD 1 0), .int .i64 (((setV b car mode).1).modes.getD 2 0), .int .i64 (((setV b car mode).1).modes.getD 3 0)], .agg #[.int .i64 (((setV b car mode).2.1).index), .int .i64 ((((setV b car mode).2.1).call).id), .int .i64 ((((setV b car mode).2.1).call).kind), .int .i64 ((((setV b car mode).2.1).call).src), .int .i64 ((((setV b car mode).2.1).call).dst), .int .i64 ((((setV b car mode).2.1).call).car), .int .i64 ((((setV b car mode).2.1).call).state), .int .i64 ((((setV b car mode).2.1).call).owner), .int .i64 ((((setV b car mode).2.1).call).born), .int .i64 (((setV b car mode).2.1).car), .int .i64 (((setV b car mode).2.1).mode)], .int .i64 (setV b car mode).2.2]) ∧ Gives2 w w' [rS la lc 9 (b.live.map rowOf), rS da dc 8 (b.done.map callRow)] la' lc' da' dc' (setV b car mode).1 := by
 have H := Lib.hid (Hp.start [] w)
 have H := hp_old H h1 (by decide)
 have H := hp_old H h2 (by decide)
 clear h1 h2
 refine wStart (args := [.agg (bkA b.conf b.index b.room (.slice la b.live.length lc) (.slice da b.done.length dc) b.modes), .int .i64 car, .int .i64 mode]) Try.func15 rfl rfl rfl H ?_
 clear H
 show Wk 51 _ _ [(0, .agg (bkA b.conf b.index b.room (.slice la b.live.length lc) (.slice da b.done.length dc) b.modes)), (1, .int .i64 car), (2, .int .i64 mode)] _ _
 have hbl : (b.live.length : Int) ≤ b.room ∧ b.room ≤ 65536 := hb.out.live
 have hbd : (b.done.length : Int) ≤ b.conf.calls ∧ b.conf.calls ≤ 64 := hb.out.done
 have hbi : 0 ≤ b.index ∧ b.index ≤ 1073741824 := hb.out.index
 refine wSeqK fun KK1 hK1 => ?_
 refine wReg ?_
 refine wBx rfl rfl rfl fun b3 => ?_
 refine wAl rfl rfl tybook_Book fun b6 => ?_
 refine wAl rfl rfl tyapi_Change fun b7 => ?_
 refine p_setC rfl ?_
 refine wN ?_
 refine tN (wKK hK1 ?_)
 refine wSeqK fun KK2 hK2 => ?_
 refine wBlk ?_
 refine wSeqK fun KK3 hK3 => ?_
 refine wReg ?_
 refine wLr rfl tybook_Book 2 rfl (bkL b.conf b.index b.room (.slice la b.live.length lc) (.slice da b.done.length dc) b.modes) rfl rfl ?_
 refine wQ (l := [.agg (bkA b.conf b.index b.room (.slice la b.live.length lc) (.slice da b.done.length dc) b.modes)]) Try.func46 rfl (by kernel_rfl) (.bool (b.room == 0)) (fun wc H => isNoneC b la lc da dc  wc (hp_held H (by (repeat (first | exact List.Mem.head _ | apply List.Mem.tail)))) (hp_held H (by (repeat (first | exact List.Mem.head _ | apply List.Mem.tail)))) hb) rfl rfl rfl rfl ?_
 refine p_setC rfl ?_
 refine wN ?_
 refine tN (wKK hK3 ?_)
 refine wCond (E := b.room == 0) rfl (fun z1 => ?_) (fun z1 => ?_)
 · skip
   have z1o : (b.room != 0) = false := eqq_t z1
   refine wSeqK fun KK4 hK4 => ?_
   refine wReg ?_
   refine wE (.agg (bkA zeroF 0 0 (.slice none 0 0) (.slice none 0 0) ([0, 0, 0, 0]))) rfl rfl rfl (fun aa ww hs _ => by simp only [execOp]; go_simp <;> first | rfl | omega) ?_
   refine wE (.agg (chA zeroCh)) rfl rfl rfl (fun aa ww hs _ => by simp only [execOp]; go_simp <;> first | rfl | omega) ?_
   refine wSr rfl tybook_Book 1 rfl rfl rfl rfl (bkL zeroF 0 0 (.slice none 0 0) (.slice none 0 0) ([0, 0, 0, 0])) (by first | rfl | (simp only [spl]; rfl)) ?_
   refine wSr rfl tyapi_Change 0 rfl rfl rfl rfl (chL zeroCh) (by first | rfl | (simp only [spl]; rfl)) ?_
   refine p_setC rfl ?_
   refine wN ?_
   refine tN (wKK hK4 ?_)
   refine wRet ?_
   refine bR (tR ?_)
   exact wRcct tybook_Book tyapi_Change rfl rfl rfl rfl 1 0 rfl rfl rfl rfl (fun ww H => (by simp only [setV, z1, z1o, cond_true, cond_false, Bool.not_true, Bool.not_false, Bool.true_and, Bool.and_true, Bool.false_and, Bool.and_false, Bool.true_or, Bool.or_true, Bool.false_or, Bool.or_false]; exact ⟨none, 0, none, 0, rfl, (rS_nil _ _), (rS_nil _ _), (From.none _ _ _ _ _), (From.none _ _ _ _ _), H.out.off⟩))
 · skip
   have z1o : (b.room != 0) = true := eqq_f z1
   refine wSeqK fun KK5 hK5 => ?_
   rcases Bool.eq_false_or_eq_true (carV b.conf car) with y2 | y2
   · skip
     intro aa ww nn dd hs H
     obtain ⟨m, hm, hm4⟩ := car_in y2
     have hmw : IntKind.i64.wrap (car - 1) = ((m : Nat) : Int) := by rw [hm]; exact IntWalk.i64_in _ (by omega)
     refine wIn nn dd hs H ?_
     refine wReg ?_
     refine p_setC rfl ?_
     refine wLr rfl tyapi_Config 2 rfl (cL b.conf) rfl rfl ?_
     refine p_setC rfl ?_
     refine wQ (l := [.agg (cA b.conf), .int .i64 car]) Try.func48 rfl (by kernel_rfl) (.bool true) (fun wc H => by have h := isCar b.conf car wc; rw [y2] at h; exact h) rfl rfl rfl rfl ?_
     iterate 5 refine p_setC rfl ?_
     refine wCut 3 [(26, .bool ((mode != 1) && (mode != 2))), (0, .agg (bkA b.conf b.index b.room (.slice la b.live.length lc) (.slice da b.done.length dc) b.modes)), (1, .int .i64 car), (2, .int .i64 mode), (3, .pointer (some ⟨b3, 0, none⟩)), (6, .pointer (some ⟨b6, 0, none⟩)), (7, .pointer (some ⟨b7, 0, none⟩)), (8, .int .i64 0), (9, .bool (b.room == 0)), (20, .bool false)] ?_ ?_
     · intro KK hKK
       rcases Bool.eq_false_or_eq_true (mode != 1) with u3 | u3
       · skip
         refine wB (c := true) 23 rfl u3 ?_
         iterate 2 refine p_setC rfl ?_
         refine p_setC rfl ?_
         refine wB (c := (mode != 1) && (mode != 2)) 26 rfl (by rw [u3]; rfl) ?_
         refine wN (tN ?_)
         exact fun aa ww nn dd hs H => hKK aa ww nn dd (sat_sub ⟨rfl, rfl, rfl, rfl, rfl, rfl, rfl, rfl, rfl, rfl, trivial⟩ hs) H
       · skip
         refine wB (c := false) 23 rfl u3 ?_
         iterate 2 refine p_setC rfl ?_
         refine p_setC rfl ?_
         refine wB (c := (mode != 1) && (mode != 2)) 26 rfl (by rw [u3]; rfl) ?_
         refine wN (tN ?_)
         exact fun aa ww nn dd hs H => hKK aa ww nn dd (sat_sub ⟨rfl, rfl, rfl, rfl, rfl, rfl, rfl, rfl, rfl, rfl, trivial⟩ hs) H
     iterate 2 refine p_setC rfl ?_
     refine wN ?_
     refine tN (wKK hK5 ?_)
     refine wCond (E := (mode != 1) && (mode != 2)) rfl (fun z4 => ?_) (fun z4 => ?_)
     · skip
       have z4l : (mode != 1) = true := Reg.bl z4
       have z4lo : (mode == 1) = false := neq_t z4l
       have z4r : (mode != 2) = true := Reg.br z4
       have z4ro : (mode == 2) = false := neq_t z4r
       refine wSeqK fun KK6 hK6 => ?_
       refine wReg ?_
       refine wE (.agg (bkA zeroF 0 0 (.slice none 0 0) (.slice none 0 0) ([0, 0, 0, 0]))) rfl rfl rfl (fun aa ww hs _ => by simp only [execOp]; go_simp <;> first | rfl | omega) ?_
       refine wE (.agg (chA zeroCh)) rfl rfl rfl (fun aa ww hs _ => by simp only [execOp]; go_simp <;> first | rfl | omega) ?_
       refine wSr rfl tybook_Book 1 rfl rfl rfl rfl (bkL zeroF 0 0 (.slice none 0 0) (.slice none 0 0) ([0, 0, 0, 0])) (by first | rfl | (simp only [spl]; rfl)) ?_
       refine wSr rfl tyapi_Change 0 rfl rfl rfl rfl (chL zeroCh) (by first | rfl | (simp only [spl]; rfl)) ?_
       refine p_setC rfl ?_
       refine wN ?_
       refine tN (wKK hK6 ?_)
       refine wRet ?_
       refine bR (tR ?_)
       exact wRcct tybook_Book tyapi_Change rfl rfl rfl rfl 1 0 rfl rfl rfl rfl (fun ww H => (by simp only [setV, z1, z1o, y2, z4, z4l, z4lo, z4r, z4ro, cond_true, cond_false, Bool.not_true, Bool.not_false, Bool.true_and, Bool.and_true, Bool.false_and, Bool.and_false, Bool.true_or, Bool.or_true, Bool.false_or, Bool.or_false, show (car - 1).toNat = m from by omega]; exact ⟨none, 0, none, 0, rfl, (rS_nil _ _), (rS_nil _ _), (From.none _ _ _ _ _), (From.none _ _ _ _ _), H.out.off⟩))
     · skip
       refine wSeqK fun KK7 hK7 => ?_
       refine wReg ?_
       refine p_setC rfl ?_
       refine wLd rfl tyint 2 rfl rfl ?_
       iterate 2 refine p_setC rfl ?_
       refine wN ?_
       refine tN (wKK hK7 ?_)
       refine wCond (E := decide (1073741824 ≤ b.index)) rfl (fun z5 => ?_) (fun z5 => ?_)
       · skip
         have z5d : 1073741824 ≤ b.index := of_decide_eq_true z5
         refine wSeqK fun KK8 hK8 => ?_
         refine wReg ?_
         refine wE (.agg (bkA zeroF 0 0 (.slice none 0 0) (.slice none 0 0) ([0, 0, 0, 0]))) rfl rfl rfl (fun aa ww hs _ => by simp only [execOp]; go_simp <;> first | rfl | omega) ?_
         refine wE (.agg (chA zeroCh)) rfl rfl rfl (fun aa ww hs _ => by simp only [execOp]; go_simp <;> first | rfl | omega) ?_
         refine wSr rfl tybook_Book 1 rfl rfl rfl rfl (bkL zeroF 0 0 (.slice none 0 0) (.slice none 0 0) ([0, 0, 0, 0])) (by first | rfl | (simp only [spl]; rfl)) ?_
         refine wSr rfl tyapi_Change 0 rfl rfl rfl rfl (chL zeroCh) (by first | rfl | (simp only [spl]; rfl)) ?_
         refine p_setC rfl ?_
         refine wN ?_
         refine tN (wKK hK8 ?_)
         refine wRet ?_
         refine bR (tR ?_)
         exact wRcct tybook_Book tyapi_Change rfl rfl rfl rfl 1 0 rfl rfl rfl rfl (fun ww H => (by simp only [setV, z1, z1o, y2, z4, z5, cond_true, cond_false, Bool.not_true, Bool.not_false, Bool.true_and, Bool.and_true, Bool.false_and, Bool.and_false, Bool.true_or, Bool.or_true, Bool.false_or, Bool.or_false, show (car - 1).toNat = m from by omega]; exact ⟨none, 0, none, 0, rfl, (rS_nil _ _), (rS_nil _ _), (From.none _ _ _ _ _), (From.none _ _ _ _ _), H.out.off⟩))
       · skip
         have z5d : ¬ (1073741824 ≤ b.index) := of_decide_eq_false z5
         refine wSk ?_
         refine bN (tN (wKK hK2 ?_))
         refine wSeqK fun KK9 hK9 => ?_
         refine wReg ?_
         iterate 2 refine p_setC rfl ?_
         refine wI 37 rfl hmw ?_
         iterate 2 refine p_setC rfl ?_
         refine wE (.pointer (some ⟨b3, 22 + m, none⟩)) rfl rfl rfl (fun aa ww hs _ => by have e39 := hs 39 _ rfl; have g39 := gt_of e39; have e37 := hs 37 _ rfl; have g37 := gt_of e37; simp only [execOp]; go_simp <;> first | rfl | omega) ?_
         refine wSa rfl tyint 2 rfl (by show _ < 26; omega) rfl rfl (cs' := (bkL b.conf b.index b.room (.slice la b.live.length lc) (.slice da b.done.length dc) (b.modes.set m mode))) (set4 b.modes hb.out.modes hm4 [.int .i64 b.conf.floors, .int .i64 b.conf.cars, .int .i64 b.conf.seats, .int .i64 b.conf.calls, .int .i64 b.conf.lines, .int .i64 b.conf.keys, .int .i64 b.conf.window, .int .i64 b.conf.burst, .int .i64 b.conf.rate, .int .i64 b.conf.idle, .int .i64 b.conf.inn, .int .i64 b.conf.out, .int .i64 b.conf.feed, .int .i64 b.conf.retries, .int .i64 b.conf.life, .int .i64 b.conf.door, .int .i64 b.conf.holds, .int .u32 b.conf.secret, .int .i64 b.index, .int .i64 b.room, .slice la b.live.length lc, .slice da b.done.length dc] rfl mode) ?_
         refine wN ?_
         refine tN (wKK hK9 ?_)
         refine wSeqK fun KK10 hK10 => ?_
         refine wReg ?_
         refine p_setC rfl ?_
         refine wLd rfl tyint 2 rfl rfl ?_
         refine p_setC rfl ?_
         refine wI 43 rfl (IntWalk.i64_in _ (by omega)) ?_
         refine p_setC rfl ?_
         refine wSt rfl tyint 2 rfl rfl rfl rfl ?_
         refine wN ?_
         refine tN (wKK hK10 ?_)
         refine wSeqK fun KK11 hK11 => ?_
         intro aa ww nn dd hs H
         refine setC_r9 b la lc da dc car mode hbl hbd hbi b3 b6 b7 m hm hm4 hmw z5d H aa nn (hs 1 _ rfl) (hs 2 _ rfl) (hs 3 _ rfl) (hs 6 _ rfl) (hs 7 _ rfl) ?_
         intro ab wv nn2 dd2 kp o8 H2
         refine wIn nn2 (dd2.trans dd) (Sat.cons (Sat.cons (Sat.cons (Sat.cons (Sat.cons (Sat.cons (Sat.cons (Sat.cons (Sat.cons (Sat.cons (sat_nil ab) ((kp 30 rfl).trans (hs 30 _ rfl))) ((kp 14 rfl).trans (hs 14 _ rfl))) ((kp 9 rfl).trans (hs 9 _ rfl))) ((kp 7 rfl).trans (hs 7 _ rfl))) ((kp 6 rfl).trans (hs 6 _ rfl))) ((kp 3 rfl).trans (hs 3 _ rfl))) ((kp 2 rfl).trans (hs 2 _ rfl))) ((kp 1 rfl).trans (hs 1 _ rfl))) ((kp 0 rfl).trans (hs 0 _ rfl))) o8) H2 ?_
         clear hs H kp H2 dd dd2 nn nn2 o8
         refine tN (wKK hK11 ?_)
         refine wRet ?_
         exact wRcct tybook_Book tyapi_Change rfl rfl rfl rfl 1 0 rfl rfl rfl rfl (fun ww H => (by simp only [setV, z1, z1o, y2, z4, z5, cond_true, cond_false, Bool.not_true, Bool.not_false, Bool.true_and, Bool.and_true, Bool.false_and, Bool.and_false, Bool.true_or, Bool.or_true, Bool.false_or, Bool.or_false, show (car - 1).toNat = m from by omega]; exact ⟨la, lc, da, dc, rfl, (hp_held H (by (repeat (first | exact List.Mem.head _ | apply List.Mem.tail)))), (hp_held H (by (repeat (first | exact List.Mem.head _ | apply List.Mem.tail)))), (From.same rfl _ (by (repeat (first | exact List.Mem.head _ | apply List.Mem.tail)))), (From.same rfl _ (by (repeat (first | exact List.Mem.head _ | apply List.Mem.tail)))), H.out.off⟩))
   · skip
     refine wReg ?_
     refine p_setC rfl ?_
     refine wLr rfl tyapi_Config 2 rfl (cL b.conf) rfl rfl ?_
     refine p_setC rfl ?_
     refine wQ (l := [.agg (cA b.conf), .int .i64 car]) Try.func48 rfl (by kernel_rfl) (.bool false) (fun wc H => by have h := isCar b.conf car wc; rw [y2] at h; exact h) rfl rfl rfl rfl ?_
     iterate 10 refine p_setC rfl ?_
     refine wN ?_
     refine tN (wKK hK5 ?_)
     refine wCt rfl ?_
     refine wSeqK fun KK12 hK12 => ?_
     refine wReg ?_
     refine wE (.agg (bkA zeroF 0 0 (.slice none 0 0) (.slice none 0 0) ([0, 0, 0, 0]))) rfl rfl rfl (fun aa ww hs _ => by simp only [execOp]; go_simp <;> first | rfl | omega) ?_
     refine wE (.agg (chA zeroCh)) rfl rfl rfl (fun aa ww hs _ => by simp only [execOp]; go_simp <;> first | rfl | omega) ?_
     refine wSr rfl tybook_Book 1 rfl rfl rfl rfl (bkL zeroF 0 0 (.slice none 0 0) (.slice none 0 0) ([0, 0, 0, 0])) (by first | rfl | (simp only [spl]; rfl)) ?_
     refine wSr rfl tyapi_Change 0 rfl rfl rfl rfl (chL zeroCh) (by first | rfl | (simp only [spl]; rfl)) ?_
     refine p_setC rfl ?_
     refine wN ?_
     refine tN (wKK hK12 ?_)
     refine wRet ?_
     refine bR (tR ?_)
     exact wRcct tybook_Book tyapi_Change rfl rfl rfl rfl 1 0 rfl rfl rfl rfl (fun ww H => (by simp only [setV, z1, z1o, y2, cond_true, cond_false, Bool.not_true, Bool.not_false, Bool.true_and, Bool.and_true, Bool.false_and, Bool.and_false, Bool.true_or, Bool.or_true, Bool.false_or, Bool.or_false]; exact ⟨none, 0, none, 0, rfl, (rS_nil _ _), (rS_nil _ _), (From.none _ _ _ _ _), (From.none _ _ _ _ _), H.out.off⟩))
def tab_isNextC : Wk.Tab := [(33, 0, 0), (33, 2, 19), (38, 0, 0)]
theorem p_isNextC {ops : Array Oper} {rest : List Oper} {o : Oper} {w0 : World} {Q : Exit → Act → World → Prop} {S : List Nat} {R : List Res} {K K' : Wk.Env} {N : Nat} (h : Wk.stp tab_isNextC N ops K o = some K') (n : Wk.Wk N S w0 K' R (wpList Try.prog ops Q rest)) : Wk.Wk N S w0 K R (wpList Try.prog ops Q (o :: rest)) := Wk.wP (T := tab_isNextC) (by kernel_rfl) h n
set_option maxHeartbeats 4000000 in
set_option maxRecDepth 20000 in
theorem isNextC_r4 (b : BookV) (la : Option Addr) (lc : Nat) (da : Option Addr) (dc : Nat) (x : CallV) (hbl : (b.live.length : Int) ≤ b.room ∧ b.room ≤ 65536) (hbd : (b.done.length : Int) ≤ b.conf.calls ∧ b.conf.calls ≤ 64) (hbi : 0 ≤ b.index ∧ b.index ≤ 1073741824) (b2 : Nat) (b3 : Nat) (b5 : Nat) {wa wb : World} (H : Hid (Hp [] wa wb [rB b5 38 (xL ((getV x.id b.live).1)), rB b3 38 (xL x), rB b2 33 (bkL b.conf b.index b.room (.slice la b.live.length lc) (.slice da b.done.length dc) b.modes), rS da dc 8 (b.done.map callRow), rS la lc 9 (b.live.map rowOf)])) (ac0 : Act) (hz : ac0.tmps.size = 45) (so2 : ac0.eval (.tmp 2) = .pointer (some ⟨b2, 0, none⟩)) (so3 : ac0.eval (.tmp 3) = .pointer (some ⟨b3, 0, none⟩)) {QR : Exit → Act → World → Prop} (hfin : ∀ (b7 : Nat) (ac1 : Act) (wz : World), ac1.tmps.size = 45 → ac1.defers = ac0.defers → (∀ t, ([7, 8, 23, 24, 25, 26, 27, 28, 29, 30, 31, 32, 33, 34, 35, 36, 37] : List Nat).contains t = false → ac1.eval (.tmp t) = ac0.eval (.tmp t)) → ac1.eval (.tmp 7) = .pointer (some ⟨b7, 0, none⟩) → ac1.eval (.tmp 8) = .int .i64 ((newCV b.conf (askedV x) (b.index + 1) x.owner x.born).2) →  Hid (Hp [] wa wz [rB b7 38 (xL ((newCV b.conf (askedV x) (b.index + 1) x.owner x.born).1)), rB b5 38 (xL ((getV x.id b.live).1)), rB b3 38 (xL x), rB b2 33 (bkL b.conf b.index b.room (.slice la b.live.length lc) (.slice da b.done.length dc) b.modes), rS da dc 8 (b.done.map callRow), rS la lc 9 (b.live.map rowOf)]) → QR .normal ac1 wz) : (regAt Try.f49 4).wp Try.prog QR ac0 wb := by
  refine wp_region_st mixedP ⟨[0, 1, 0, 1, 0, 1, 2, 0, 1, 0, 1, 3, 4, 5, 5, 0, 6, 7], by kernel_rfl⟩ [[], [0], [], [2], [], [4], [4, 5], [], [7], [], [9], [0, 1, 2, 3, 4, 5, 6, 7, 8, 9, 10], [0, 1, 2, 3, 4, 5, 6, 7, 8, 9, 10, 11], [0, 1, 2, 3, 4, 5, 6, 7, 8, 9, 10, 11, 12], [0, 1, 2, 3, 4, 5, 6, 7, 8, 9, 10, 11, 12], [], [0, 1, 2, 3, 4, 5, 6, 7, 8, 9, 10, 11, 12, 13, 15], [0, 1, 2, 3, 4, 5, 6, 7, 8, 9, 10, 11, 12, 13, 14, 15, 16]] (by kernel_rfl) (by kernel_rfl) 45 hz (by kernel_rfl) (fun (xx : Nat) jx => match xx with | b7 => nth [.pointer (some ⟨b2, 0, none⟩), .agg (cA b.conf), .agg (xA x), .agg (xA (askedV x)), .pointer (some ⟨b2, 18, none⟩), .int .i64 b.index, .int .i64 (b.index + 1), .pointer (some ⟨b3, 6, none⟩), .int .i64 x.owner, .pointer (some ⟨b3, 7, none⟩), .int .i64 x.born, .tuple #[.agg (xA ((newCV b.conf (askedV x) (b.index + 1) x.owner x.born).1)), .int .i64 ((newCV b.conf (askedV x) (b.index + 1) x.owner x.born).2)], .tuple #[.agg (xA ((newCV b.conf (askedV x) (b.index + 1) x.owner x.born).1)), .int .i64 ((newCV b.conf (askedV x) (b.index + 1) x.owner x.born).2)], .agg (xA ((newCV b.conf (askedV x) (b.index + 1) x.owner x.born).1)), .int .i64 ((newCV b.conf (askedV x) (b.index + 1) x.owner x.born).2), .pointer (some ⟨b7, 0, none⟩), undef, .int .i64 ((newCV b.conf (askedV x) (b.index + 1) x.owner x.born).2)] jx) (fun (LL : Nat → Bool) (xx : Nat) ww => match xx with | b7 => Hp [] wa ww (bif LL 15 then (bif LL 16 then [rB b7 38 (xL ((newCV b.conf (askedV x) (b.index + 1) x.owner x.born).1)), rB b5 38 (xL ((getV x.id b.live).1)), rB b3 38 (xL x), rB b2 33 (bkL b.conf b.index b.room (.slice la b.live.length lc) (.slice da b.done.length dc) b.modes), rS da dc 8 (b.done.map callRow), rS la lc 9 (b.live.map rowOf)] else [rB b7 38 (xL zeroC), rB b5 38 (xL ((getV x.id b.live).1)), rB b3 38 (xL x), rB b2 33 (bkL b.conf b.index b.room (.slice la b.live.length lc) (.slice da b.done.length dc) b.modes), rS da dc 8 (b.done.map callRow), rS la lc 9 (b.live.map rowOf)]) else [rB b5 38 (xL ((getV x.id b.live).1)), rB b3 38 (xL x), rB b2 33 (bkL b.conf b.index b.room (.slice la b.live.length lc) (.slice da b.done.length dc) b.modes), rS da dc 8 (b.done.map callRow), rS la lc 9 (b.live.map rowOf)])) default H.out.drew ?_ (steps_al ?_) ?_ ?_
  · intro L1 L2 xx ww hL sg
    have lh15 := hL 15 (by decide)
    have lh16 := hL 16 (by decide)
    simp only [lh15, lh16] at sg
    exact sg
  · refine al_cons ?_ (al_cons ?_ (al_cons ?_ (al_cons ?_ (al_cons ?_ (al_cons ?_ (al_cons ?_ (al_cons ?_ (al_cons ?_ (al_cons ?_ (al_cons ?_ (al_cons ?_ (al_cons ?_ (al_cons ?_ (al_cons ?_ (al_cons ?_ (al_cons ?_ (al_cons ?_ (al_nil))))))))))))))))))
    · intro LL xx ac wc sg hst hwant QQ hgo
      revert sg hst hgo; revert xx; intro b7 sg hst hgo
      have se2 : ac.eval (.tmp 2) = _ := ((sg.free 2 (by kernel_rfl)).trans so2)
      have sg2 := gt_of se2
      exact op_val hwant hgo hst _ (by simp only [execOp, nth]; go_simp <;> omega) rfl
    · intro LL xx ac wc sg hst hwant QQ hgo
      revert sg hst hgo; revert xx; intro b7 sg hst hgo
      rcases Bool.eq_false_or_eq_true (LL 15) with lh15 | lh15
      · skip
        have H := Lib.hid hst
        simp only [lh15, sg.des 16 rfl, cond_true, cond_false] at H
        refine hpA_load tyapi_Config H rfl (sg.slot 0 (sg.anc 0 rfl)) hwant (by (repeat (first | exact List.Mem.head _ | apply List.Mem.tail))) (by rfl) rfl ?_
        exact hgo _ b7 _ (fun _ _ => rfl) rfl hst
      · skip
        have H := Lib.hid hst
        simp only [lh15, sg.des 16 rfl, cond_true, cond_false] at H
        refine hpA_load tyapi_Config H rfl (sg.slot 0 (sg.anc 0 rfl)) hwant (by (repeat (first | exact List.Mem.head _ | apply List.Mem.tail))) (by rfl) rfl ?_
        exact hgo _ b7 _ (fun _ _ => rfl) rfl hst
    · intro LL xx ac wc sg hst hwant QQ hgo
      revert sg hst hgo; revert xx; intro b7 sg hst hgo
      rcases Bool.eq_false_or_eq_true (LL 15) with lh15 | lh15
      · skip
        have H := Lib.hid hst
        simp only [lh15, sg.des 16 rfl, cond_true, cond_false] at H
        refine hpA_load tyapi_Call H rfl ((sg.free 3 (by kernel_rfl)).trans so3) hwant (by (repeat (first | exact List.Mem.head _ | apply List.Mem.tail))) (by rfl) rfl ?_
        exact hgo _ b7 _ (fun _ _ => rfl) rfl hst
      · skip
        have H := Lib.hid hst
        simp only [lh15, sg.des 16 rfl, cond_true, cond_false] at H
        refine hpA_load tyapi_Call H rfl ((sg.free 3 (by kernel_rfl)).trans so3) hwant (by (repeat (first | exact List.Mem.head _ | apply List.Mem.tail))) (by rfl) rfl ?_
        exact hgo _ b7 _ (fun _ _ => rfl) rfl hst
    · intro LL xx ac wc sg hst hwant QQ hgo
      revert sg hst hgo; revert xx; intro b7 sg hst hgo
      have se26 : ac.eval (.tmp 26) = _ := (sg.slot 2 (sg.anc 2 rfl))
      have sg26 := gt_of se26
      (try simp only [nth] at se26 sg26)
      refine op_call hwant hgo 73 #[.agg (xA x)] (by simp only [execOp]; go_simp) (askedC x wc) ?_
      rintro er wd ⟨rfl, hof⟩
      exact ⟨_, b7, rfl, fun _ _ => rfl, rfl, Hp.quiet hst hof⟩
    · intro LL xx ac wc sg hst hwant QQ hgo
      revert sg hst hgo; revert xx; intro b7 sg hst hgo
      have se2 : ac.eval (.tmp 2) = _ := ((sg.free 2 (by kernel_rfl)).trans so2)
      have sg2 := gt_of se2
      exact op_val hwant hgo hst _ (by simp only [execOp, nth]; go_simp <;> omega) rfl
    · intro LL xx ac wc sg hst hwant QQ hgo
      revert sg hst hgo; revert xx; intro b7 sg hst hgo
      rcases Bool.eq_false_or_eq_true (LL 15) with lh15 | lh15
      · skip
        have H := Lib.hid hst
        simp only [lh15, sg.des 16 rfl, cond_true, cond_false] at H
        refine hpA_load1 tyint H rfl (sg.slot 4 (sg.anc 4 rfl)) hwant (by (repeat (first | exact List.Mem.head _ | apply List.Mem.tail))) (by rfl) ?_
        exact hgo _ b7 _ (fun _ _ => rfl) rfl hst
      · skip
        have H := Lib.hid hst
        simp only [lh15, sg.des 16 rfl, cond_true, cond_false] at H
        refine hpA_load1 tyint H rfl (sg.slot 4 (sg.anc 4 rfl)) hwant (by (repeat (first | exact List.Mem.head _ | apply List.Mem.tail))) (by rfl) ?_
        exact hgo _ b7 _ (fun _ _ => rfl) rfl hst
    · intro LL xx ac wc sg hst hwant QQ hgo
      revert sg hst hgo; revert xx; intro b7 sg hst hgo
      have se29 : ac.eval (.tmp 29) = _ := (sg.slot 5 (sg.anc 5 rfl))
      have sg29 := gt_of se29
      (try simp only [nth] at se29 sg29)
      have hnw : IntKind.i64.wrap (b.index + 1 : Int) = b.index + 1 := IntWalk.i64_in _ (by omega)
      exact op_val hwant hgo hst _ (by simp only [execOp, nth]; go_simp <;> omega) rfl
    · intro LL xx ac wc sg hst hwant QQ hgo
      revert sg hst hgo; revert xx; intro b7 sg hst hgo
      have se3 : ac.eval (.tmp 3) = _ := ((sg.free 3 (by kernel_rfl)).trans so3)
      have sg3 := gt_of se3
      exact op_val hwant hgo hst _ (by simp only [execOp, nth]; go_simp <;> omega) rfl
    · intro LL xx ac wc sg hst hwant QQ hgo
      revert sg hst hgo; revert xx; intro b7 sg hst hgo
      rcases Bool.eq_false_or_eq_true (LL 15) with lh15 | lh15
      · skip
        have H := Lib.hid hst
        simp only [lh15, sg.des 16 rfl, cond_true, cond_false] at H
        refine hpA_load1 tyint H rfl (sg.slot 7 (sg.anc 7 rfl)) hwant (by (repeat (first | exact List.Mem.head _ | apply List.Mem.tail))) (by rfl) ?_
        exact hgo _ b7 _ (fun _ _ => rfl) rfl hst
      · skip
        have H := Lib.hid hst
        simp only [lh15, sg.des 16 rfl, cond_true, cond_false] at H
        refine hpA_load1 tyint H rfl (sg.slot 7 (sg.anc 7 rfl)) hwant (by (repeat (first | exact List.Mem.head _ | apply List.Mem.tail))) (by rfl) ?_
        exact hgo _ b7 _ (fun _ _ => rfl) rfl hst
    · intro LL xx ac wc sg hst hwant QQ hgo
      revert sg hst hgo; revert xx; intro b7 sg hst hgo
      have se3 : ac.eval (.tmp 3) = _ := ((sg.free 3 (by kernel_rfl)).trans so3)
      have sg3 := gt_of se3
      exact op_val hwant hgo hst _ (by simp only [execOp, nth]; go_simp <;> omega) rfl
    · intro LL xx ac wc sg hst hwant QQ hgo
      revert sg hst hgo; revert xx; intro b7 sg hst hgo
      rcases Bool.eq_false_or_eq_true (LL 15) with lh15 | lh15
      · skip
        have H := Lib.hid hst
        simp only [lh15, sg.des 16 rfl, cond_true, cond_false] at H
        refine hpA_load1 tyint H rfl (sg.slot 9 (sg.anc 9 rfl)) hwant (by (repeat (first | exact List.Mem.head _ | apply List.Mem.tail))) (by rfl) ?_
        exact hgo _ b7 _ (fun _ _ => rfl) rfl hst
      · skip
        have H := Lib.hid hst
        simp only [lh15, sg.des 16 rfl, cond_true, cond_false] at H
        refine hpA_load1 tyint H rfl (sg.slot 9 (sg.anc 9 rfl)) hwant (by (repeat (first | exact List.Mem.head _ | apply List.Mem.tail))) (by rfl) ?_
        exact hgo _ b7 _ (fun _ _ => rfl) rfl hst
    · intro LL xx ac wc sg hst hwant QQ hgo
      revert sg hst hgo; revert xx; intro b7 sg hst hgo
      have se25 : ac.eval (.tmp 25) = _ := (sg.slot 1 (sg.anc 1 rfl))
      have sg25 := gt_of se25
      have se27 : ac.eval (.tmp 27) = _ := (sg.slot 3 (sg.anc 3 rfl))
      have sg27 := gt_of se27
      have se30 : ac.eval (.tmp 30) = _ := (sg.slot 6 (sg.anc 6 rfl))
      have sg30 := gt_of se30
      have se32 : ac.eval (.tmp 32) = _ := (sg.slot 8 (sg.anc 8 rfl))
      have sg32 := gt_of se32
      have se34 : ac.eval (.tmp 34) = _ := (sg.slot 10 (sg.anc 10 rfl))
      have sg34 := gt_of se34
      (try simp only [nth] at se25 sg25 se27 sg27 se30 sg30 se32 sg32 se34 sg34)
      refine op_call hwant hgo 44 #[.agg (cA b.conf), .agg (xA (askedV x)), .int .i64 (b.index + 1), .int .i64 x.owner, .int .i64 x.born] (by simp only [execOp]; go_simp) (newCallC b.conf (askedV x) (b.index + 1) x.owner x.born wc) ?_
      rintro er wd ⟨rfl, hof⟩
      exact ⟨_, b7, rfl, fun _ _ => rfl, rfl, Hp.quiet hst hof⟩
    · intro LL xx ac wc sg hst hwant QQ hgo
      revert sg hst hgo; revert xx; intro b7 sg hst hgo
      exact op_val hwant hgo hst _ (exec_move rfl (sg.slot 11 (sg.anc 11 rfl))) rfl
    · intro LL xx ac wc sg hst hwant QQ hgo
      revert sg hst hgo; revert xx; intro b7 sg hst hgo
      have se23 : ac.eval (.tmp 23) = _ := (sg.slot 12 (sg.anc 12 rfl))
      have sg23 := gt_of se23
      (try simp only [nth] at se23 sg23)
      exact op_val hwant hgo hst _ (by simp only [execOp, nth]; go_simp <;> omega) rfl
    · intro LL xx ac wc sg hst hwant QQ hgo
      revert sg hst hgo; revert xx; intro b7 sg hst hgo
      have se23 : ac.eval (.tmp 23) = _ := (sg.slot 12 (sg.anc 12 rfl))
      have sg23 := gt_of se23
      (try simp only [nth] at se23 sg23)
      exact op_val hwant hgo hst _ (by simp only [execOp, nth]; go_simp <;> omega) rfl
    · intro LL xx ac wc sg hst hwant QQ hgo
      revert sg hst hgo; revert xx; intro xold sg hst hgo
      have H := Lib.hid hst
      simp only [sg.self, sg.des 16 rfl, cond_true, cond_false] at H
      refine hpA_alloc tyapi_Call H rfl rfl ?_
      intro wd b7 H2
      exact hgo _ b7 _ (sg.agree (x' := b7) (n := 18) rfl (by (iterate 18 (refine ix_cons (by first | exact fun _ => rfl | exact no sg.self | exact no (sg.des _ rfl)) ?_)); exact ix_nil)) rfl (by simp only [(show upd LL 15 15 = true from rfl), (show upd LL 15 16 = LL 16 from rfl), sg.des 16 rfl, cond_true, cond_false]; exact H2.out)
    · intro LL xx ac wc sg hst hwant QQ hgo
      revert sg hst hgo; revert xx; intro b7 sg hst hgo
      have H := Lib.hid hst
      simp only [sg.anc 15 rfl, sg.self, cond_true, cond_false] at H
      refine hpA_store tyapi_Call H rfl rfl (sg.slot 15 (sg.anc 15 rfl)) (sg.slot 13 (sg.anc 13 rfl)) rfl (by repeat (first | apply Put.head | apply Put.tail)) (by simp [xA, xL, cA, cL, chA, chL, bkA, bkL]) (by simp [xA, xL, cA, cL, chA, chL, bkA, bkL, Value.oneCell']) (by first | rfl | (simp only [spl]; rfl)) rfl ?_
      intro wd H2
      exact hgo _ b7 _ (sg.agree (x' := b7) (n := 18) rfl (by (iterate 18 (refine ix_cons (by first | exact fun _ => rfl | exact no sg.self | exact no (sg.des _ rfl)) ?_)); exact ix_nil)) rfl (by simp only [(show upd LL 16 15 = LL 15 from rfl), sg.anc 15 rfl, (show upd LL 16 16 = true from rfl), cond_true, cond_false]; exact H2.out)
    · intro LL xx ac wc sg hst hwant QQ hgo
      revert sg hst hgo; revert xx; intro b7 sg hst hgo
      exact op_val hwant hgo hst _ (exec_assign rfl (sg.slot 14 (sg.anc 14 rfl))) rfl
  · exact skips [] (by kernel_rfl) (fun _ h => by cases h)
  · intro xx ac1 wz hfr hsl hst
    revert hsl hst; revert xx; intro b7 hsl hst
    exact hfin b7 ac1 wz (hfr.size.trans hz) hfr.defers (fr_keep hfr [7, 8, 23, 24, 25, 26, 27, 28, 29, 30, 31, 32, 33, 34, 35, 36, 37] (by kernel_rfl)) (hsl 15 (by decide)) (hsl 17 (by decide)) (Lib.hid hst)
set_option maxHeartbeats 16000000 in
set_option maxRecDepth 20000 in
theorem isNextC (b : BookV) (la : Option Addr) (lc : Nat) (da : Option Addr) (dc : Nat) (x : CallV) (w : World) (h1 : (rS la lc 9 (b.live.map rowOf)).holds w) (h2 : (rS da dc 8 (b.done.map callRow)).holds w) (hb : Hid (OkB b)) : Calls Try.prog 49 #[.agg (bkA b.conf b.index b.room (.slice la b.live.length lc) (.slice da b.done.length dc) b.modes), .agg (xA x)] w fun e w' => e = .returned (.bool (isNextV b x)) ∧ Off [] w w' := by
 have H := Lib.hid (Hp.start [] w)
 have H := hp_old H h1 (by decide)
 have H := hp_old H h2 (by decide)
 clear h1 h2
 refine wStart (args := [.agg (bkA b.conf b.index b.room (.slice la b.live.length lc) (.slice da b.done.length dc) b.modes), .agg (xA x)]) Try.func49 rfl rfl rfl H ?_
 clear H
 show Wk 45 _ _ [(0, .agg (bkA b.conf b.index b.room (.slice la b.live.length lc) (.slice da b.done.length dc) b.modes)), (1, .agg (xA x))] _ _
 have hbl : (b.live.length : Int) ≤ b.room ∧ b.room ≤ 65536 := hb.out.live
 have hbd : (b.done.length : Int) ≤ b.conf.calls ∧ b.conf.calls ≤ 64 := hb.out.done
 have hbi : 0 ≤ b.index ∧ b.index ≤ 1073741824 := hb.out.index
 refine wSeqK fun KK1 hK1 => ?_
 refine wReg ?_
 refine wBx rfl rfl rfl fun b2 => ?_
 refine wBx rfl rfl rfl fun b3 => ?_
 refine p_isNextC rfl ?_
 refine wN ?_
 refine tN (wKK hK1 ?_)
 refine wSeqK fun KK2 hK2 => ?_
 refine wSeqK fun KK3 hK3 => ?_
 refine wReg ?_
 refine p_isNextC rfl ?_
 refine wLr rfl tyshelf_Shelf_int__api_Call_ 1 rfl [.int .i64 b.room, .slice la b.live.length lc] rfl rfl ?_
 refine p_isNextC rfl ?_
 refine wLd rfl tyint 0 rfl rfl ?_
 refine wQ (l := [.agg #[.int .i64 b.room, .slice la b.live.length lc], .int .i64 x.id]) Try.func53 rfl (by kernel_rfl) (.tuple #[.agg (xA ((getV x.id b.live).1)), .bool ((getV x.id b.live).2)]) (fun wc H => getC b.room la lc b.live x.id wc (hp_held H (by (repeat (first | exact List.Mem.head _ | apply List.Mem.tail)))) hb.out.sorted (by omega)) rfl rfl rfl rfl ?_
 iterate 3 refine p_isNextC rfl ?_
 refine wAl rfl rfl tyapi_Call fun b5 => ?_
 refine wSr rfl tyapi_Call 0 rfl rfl rfl rfl (xL ((getV x.id b.live).1)) (by first | rfl | (simp only [spl]; rfl)) ?_
 refine p_isNextC rfl ?_
 refine wN ?_
 refine tN (wKK hK3 ?_)
 refine wSeqK fun KK4 hK4 => ?_
 refine wReg ?_
 refine p_isNextC rfl ?_
 refine wN ?_
 refine tN (wKK hK4 ?_)
 refine wCond (E := (getV x.id b.live).2) rfl (fun z1 => ?_) (fun z1 => ?_)
 · skip
   refine wSeqK fun KK5 hK5 => ?_
   refine wReg ?_
   refine p_isNextC rfl ?_
   refine wLr rfl tyapi_Config 2 rfl (cL b.conf) rfl rfl ?_
   refine wLr rfl tyapi_Call 0 rfl (xL ((getV x.id b.live).1)) rfl rfl ?_
   refine wLr rfl tyapi_Call 1 rfl (xL x) rfl rfl ?_
   refine wQ (l := [.agg (cA b.conf), .agg (xA ((getV x.id b.live).1)), .agg (xA x)]) Try.func72 rfl (by kernel_rfl) (.bool (mayV b.conf ((getV x.id b.live).1) x)) (fun wc H => mayC b.conf ((getV x.id b.live).1) x wc) rfl rfl rfl rfl ?_
   refine p_isNextC rfl ?_
   refine wN ?_
   refine tN (wKK hK5 ?_)
   refine wRet ?_
   refine tR ?_
   exact wR1 rfl rfl (fun ww H => ⟨by simp only [isNextV, z1, cond_true, cond_false, Bool.not_true, Bool.not_false, Bool.true_and, Bool.and_true, Bool.false_and, Bool.and_false, Bool.true_or, Bool.or_true, Bool.false_or, Bool.or_false] <;> rfl, H.out.off⟩)
 · skip
   refine wSk ?_
   refine tN (wKK hK2 ?_)
   refine wSeqK fun KK6 hK6 => ?_
   intro aa ww nn dd hs H
   refine isNextC_r4 b la lc da dc x hbl hbd hbi b2 b3 b5 H aa nn (hs 2 _ rfl) (hs 3 _ rfl) ?_
   intro b7 ab wv nn2 dd2 kp o7 o8 H2
   refine wIn nn2 (dd2.trans dd) (Sat.cons (Sat.cons (Sat.cons (Sat.cons (Sat.cons (Sat.cons (Sat.cons (Sat.cons (Sat.cons (Sat.cons (sat_nil ab) ((kp 17 rfl).trans (hs 17 _ rfl))) ((kp 6 rfl).trans (hs 6 _ rfl))) ((kp 5 rfl).trans (hs 5 _ rfl))) ((kp 4 rfl).trans (hs 4 _ rfl))) ((kp 3 rfl).trans (hs 3 _ rfl))) ((kp 2 rfl).trans (hs 2 _ rfl))) ((kp 1 rfl).trans (hs 1 _ rfl))) ((kp 0 rfl).trans (hs 0 _ rfl))) o8) o7) H2 ?_
   clear hs H kp H2 dd dd2 nn nn2 o7 o8
   refine tN (wKK hK6 ?_)
   refine wSeqK fun KK7 hK7 => ?_
   refine wReg ?_
   iterate 3 refine p_isNextC rfl ?_
   refine wCut 4 [(44, .bool ((((newCV b.conf (askedV x) (b.index + 1) x.owner x.born).2) == 0) && (decide (((newCV b.conf (askedV x) (b.index + 1) x.owner x.born).1) = x)))), (0, .agg (bkA b.conf b.index b.room (.slice la b.live.length lc) (.slice da b.done.length dc) b.modes)), (1, .agg (xA x)), (2, .pointer (some ⟨b2, 0, none⟩)), (3, .pointer (some ⟨b3, 0, none⟩)), (4, .bool false), (5, .pointer (some ⟨b5, 0, none⟩)), (6, .bool ((getV x.id b.live).2)), (7, .pointer (some ⟨b7, 0, none⟩)), (8, .int .i64 ((newCV b.conf (askedV x) (b.index + 1) x.owner x.born).2)), (17, .bool ((getV x.id b.live).2))] ?_ ?_
   · intro KK hKK
     rcases Bool.eq_false_or_eq_true (((newCV b.conf (askedV x) (b.index + 1) x.owner x.born).2) == 0) with u2 | u2
     · skip
       refine wB (c := true) 40 rfl u2 ?_
       refine wLr rfl tyapi_Call 0 rfl (xL ((newCV b.conf (askedV x) (b.index + 1) x.owner x.born).1)) rfl rfl ?_
       refine wLr rfl tyapi_Call 2 rfl (xL x) rfl rfl ?_
       refine wE (.bool ((decide (((newCV b.conf (askedV x) (b.index + 1) x.owner x.born).1) = x)))) rfl rfl rfl (fun aa wc hs H => exec_eql rfl (hs _ _ rfl) (hs _ _ rfl) (by kernel_rfl) (run_eq_call ((newCV b.conf (askedV x) (b.index + 1) x.owner x.born).1) x wc)) ?_
       refine p_isNextC rfl ?_
       refine wB (c := (((newCV b.conf (askedV x) (b.index + 1) x.owner x.born).2) == 0) && (decide (((newCV b.conf (askedV x) (b.index + 1) x.owner x.born).1) = x))) 44 rfl (by rw [u2]; rfl) ?_
       refine wN (tN ?_)
       exact fun aa ww nn dd hs H => hKK aa ww nn dd (sat_sub ⟨rfl, rfl, rfl, rfl, rfl, rfl, rfl, rfl, rfl, rfl, rfl, trivial⟩ hs) H
     · skip
       refine wB (c := false) 40 rfl u2 ?_
       iterate 3 refine p_isNextC rfl ?_
       refine p_isNextC rfl ?_
       refine wB (c := (((newCV b.conf (askedV x) (b.index + 1) x.owner x.born).2) == 0) && (decide (((newCV b.conf (askedV x) (b.index + 1) x.owner x.born).1) = x))) 44 rfl (by rw [u2]; rfl) ?_
       refine wN (tN ?_)
       exact fun aa ww nn dd hs H => hKK aa ww nn dd (sat_sub ⟨rfl, rfl, rfl, rfl, rfl, rfl, rfl, rfl, rfl, rfl, rfl, trivial⟩ hs) H
   refine p_isNextC rfl ?_
   refine wN ?_
   refine tN (wKK hK7 ?_)
   refine wRet ?_
   exact wR1 rfl rfl (fun ww H => ⟨by simp only [isNextV, z1, cond_true, cond_false, Bool.not_true, Bool.not_false, Bool.true_and, Bool.and_true, Bool.false_and, Bool.and_false, Bool.true_or, Bool.or_true, Bool.false_or, Bool.or_false] <;> rfl, H.out.off⟩)
def tab_applyC : Wk.Tab := [(33, 1, 18), (40, 0, 0), (40, 1, 1), (40, 2, 9), (40, 3, 10)]
theorem p_applyC {ops : Array Oper} {rest : List Oper} {o : Oper} {w0 : World} {Q : Exit → Act → World → Prop} {S : List Nat} {R : List Res} {K K' : Wk.Env} {N : Nat} (h : Wk.stp tab_applyC N ops K o = some K') (n : Wk.Wk N S w0 K' R (wpList Try.prog ops Q rest)) : Wk.Wk N S w0 K R (wpList Try.prog ops Q (o :: rest)) := Wk.wP (T := tab_applyC) (by kernel_rfl) h n
set_option maxHeartbeats 16000000 in
set_option maxRecDepth 20000 in
theorem applyC (b : BookV) (la : Option Addr) (lc : Nat) (da : Option Addr) (dc : Nat) (ch : ChgV) (w : World) (h1 : (rS la lc 9 (b.live.map rowOf)).holds w) (h2 : (rS da dc 8 (b.done.map callRow)).holds w) (hb : Hid (OkB b)) : Calls Try.prog 16 #[.agg (bkA b.conf b.index b.room (.slice la b.live.length lc) (.slice da b.done.length dc) b.modes), .agg (chA ch)] w fun e w' => ∃ la' lc' da' dc', e = .returned (.tuple #[.agg #[.int .i64 ((((applyV b ch).1).conf).floors), .int .i64 ((((applyV b ch).1).conf).cars), .int .i64 ((((applyV b ch).1).conf).seats), .int .i64 ((((applyV b ch).1).conf).calls), .int .i64 ((((applyV b ch).1).conf).lines), .int .i64 ((((applyV b ch).1).conf).keys), .int .i64 ((((applyV b ch).1).conf).window), .int .i64 ((((applyV b ch).1).conf).burst), .int .i64 ((((applyV b ch).1).conf).rate), .int .i64 ((((applyV b ch).1).conf).idle), .int .i64 ((((applyV b ch).1).conf).inn), .int .i64 ((((applyV b ch).1).conf).out), .int .i64 ((((applyV b ch).1).conf).feed), .int .i64 ((((applyV b ch).1).conf).retries), .int .i64 ((((applyV b ch).1).conf).life), .int .i64 ((((applyV b ch).1).conf).door), .int .i64 ((((applyV b ch).1).conf).holds), .int .u32 ((((applyV b ch).1).conf).secret), .int .i64 (((applyV b ch).1).index), .int .i64 (((applyV b ch).1).room), .slice la' (((applyV b ch).1).live.length) lc', .slice da' (((applyV b ch).1).done.length) dc', .int .i64 (((applyV b ch).1).modes.getD 0 0), .int .i64 (((applyV b ch).1).modes.getD 1 0), .int .i64 (((applyV b ch).1).modes.getD 2 0), .int .i64 (((applyV b ch).1).modes.getD 3 0)], .int .i64 (applyV b ch).2]) ∧ Gives2 w w' [rS la lc 9 (b.live.map rowOf), rS da dc 8 (b.done.map callRow)] la' lc' da' dc' (applyV b ch).1 := by
 have H := Lib.hid (Hp.start [] w)
 have H := hp_old H h1 (by decide)
 have H := hp_old H h2 (by decide)
 clear h1 h2
 refine wStart (args := [.agg (bkA b.conf b.index b.room (.slice la b.live.length lc) (.slice da b.done.length dc) b.modes), .agg (chA ch)]) Try.func16 rfl rfl rfl H ?_
 clear H
 show Wk 72 _ _ [(0, .agg (bkA b.conf b.index b.room (.slice la b.live.length lc) (.slice da b.done.length dc) b.modes)), (1, .agg (chA ch))] _ _
 have hbl : (b.live.length : Int) ≤ b.room ∧ b.room ≤ 65536 := hb.out.live
 have hbd : (b.done.length : Int) ≤ b.conf.calls ∧ b.conf.calls ≤ 64 := hb.out.done
 have hbi : 0 ≤ b.index ∧ b.index ≤ 1073741824 := hb.out.index
 refine wSeqK fun KK1 hK1 => ?_
 refine wReg ?_
 refine wBx rfl rfl rfl fun b2 => ?_
 refine wBx rfl rfl rfl fun b3 => ?_
 refine wAl rfl rfl tybook_Book fun b4 => ?_
 refine p_applyC rfl ?_
 refine wN ?_
 refine tN (wKK hK1 ?_)
 refine wSeqK fun KK2 hK2 => ?_
 refine wSeqK fun KK3 hK3 => ?_
 refine wReg ?_
 refine wLr rfl tybook_Book 2 rfl (bkL b.conf b.index b.room (.slice la b.live.length lc) (.slice da b.done.length dc) b.modes) rfl rfl ?_
 refine wQ (l := [.agg (bkA b.conf b.index b.room (.slice la b.live.length lc) (.slice da b.done.length dc) b.modes)]) Try.func46 rfl (by kernel_rfl) (.bool (b.room == 0)) (fun wc H => isNoneC b la lc da dc  wc (hp_held H (by (repeat (first | exact List.Mem.head _ | apply List.Mem.tail)))) (hp_held H (by (repeat (first | exact List.Mem.head _ | apply List.Mem.tail)))) hb) rfl rfl rfl rfl ?_
 refine wN ?_
 refine tN (wKK hK3 ?_)
 refine wCond (E := b.room == 0) rfl (fun z1 => ?_) (fun z1 => ?_)
 · skip
   have z1o : (b.room != 0) = false := eqq_t z1
   refine wSeqK fun KK4 hK4 => ?_
   refine wReg ?_
   refine wE (.agg (bkA zeroF 0 0 (.slice none 0 0) (.slice none 0 0) ([0, 0, 0, 0]))) rfl rfl rfl (fun aa ww hs _ => by simp only [execOp]; go_simp <;> first | rfl | omega) ?_
   refine wSr rfl tybook_Book 0 rfl rfl rfl rfl (bkL zeroF 0 0 (.slice none 0 0) (.slice none 0 0) ([0, 0, 0, 0])) (by first | rfl | (simp only [spl]; rfl)) ?_
   refine p_applyC rfl ?_
   refine wN ?_
   refine tN (wKK hK4 ?_)
   refine wRet ?_
   refine tR ?_
   exact wRct tybook_Book rfl rfl rfl 0 rfl rfl (fun ww H => (by simp only [applyV, z1, z1o, cond_true, cond_false, Bool.not_true, Bool.not_false, Bool.true_and, Bool.and_true, Bool.false_and, Bool.and_false, Bool.true_or, Bool.or_true, Bool.false_or, Bool.or_false]; exact ⟨none, 0, none, 0, rfl, (rS_nil _ _), (rS_nil _ _), (From.none _ _ _ _ _), (From.none _ _ _ _ _), H.out.off⟩))
 · skip
   have z1o : (b.room != 0) = true := eqq_f z1
   refine wSk ?_
   refine tN (wKK hK2 ?_)
   refine wSeqK fun KK5 hK5 => ?_
   refine wSeqK fun KK6 hK6 => ?_
   refine wReg ?_
   refine p_applyC rfl ?_
   refine wLr rfl tyapi_Call 1 rfl (xL ch.call) rfl rfl ?_
   refine wE (.agg (xA zeroC)) rfl rfl rfl (fun aa ww hs _ => by simp only [execOp]; go_simp <;> first | rfl | omega) ?_
   refine wE (.bool ((decide (ch.call = (⟨0, 0, 0, 0, 0, 0, 0, 0⟩ : CallV))))) rfl rfl rfl (fun aa wc hs H => exec_eql rfl (hs _ _ rfl) (hs _ _ rfl) (by kernel_rfl) (run_eq_call ch.call (⟨0, 0, 0, 0, 0, 0, 0, 0⟩ : CallV) wc)) ?_
   refine wN ?_
   refine tN (wKK hK6 ?_)
   refine wCond (E := decide (ch.call = (⟨0, 0, 0, 0, 0, 0, 0, 0⟩ : CallV))) rfl (fun z2 => ?_) (fun z2 => ?_)
   · skip
     refine wSeqK fun KK7 hK7 => ?_
     refine wSeqK fun KK8 hK8 => ?_
     refine wReg ?_
     refine p_applyC rfl ?_
     refine wLd rfl tyint 1 rfl rfl ?_
     iterate 2 refine p_applyC rfl ?_
     refine wLd rfl tyint 2 rfl rfl ?_
     refine p_applyC rfl ?_
     refine wN ?_
     refine tN (wKK hK8 ?_)
     refine wCond (E := (IntKind.i64.wrap (ch.index - 1)) != b.index) rfl (fun z3 => ?_) (fun z3 => ?_)
     · skip
       have z3o : ((IntKind.i64.wrap (ch.index - 1)) == b.index) = false := neq_t z3
       refine wSeqK fun KK9 hK9 => ?_
       refine wReg ?_
       refine wE (.agg (bkA zeroF 0 0 (.slice none 0 0) (.slice none 0 0) ([0, 0, 0, 0]))) rfl rfl rfl (fun aa ww hs _ => by simp only [execOp]; go_simp <;> first | rfl | omega) ?_
       refine wSr rfl tybook_Book 0 rfl rfl rfl rfl (bkL zeroF 0 0 (.slice none 0 0) (.slice none 0 0) ([0, 0, 0, 0])) (by first | rfl | (simp only [spl]; rfl)) ?_
       refine p_applyC rfl ?_
       refine wN ?_
       refine tN (wKK hK9 ?_)
       refine wRet ?_
       refine tR (tR ?_)
       exact wRct tybook_Book rfl rfl rfl 0 rfl rfl (fun ww H => (by simp only [applyV, z1, z1o, z2, z3, z3o, cond_true, cond_false, Bool.not_true, Bool.not_false, Bool.true_and, Bool.and_true, Bool.false_and, Bool.and_false, Bool.true_or, Bool.or_true, Bool.false_or, Bool.or_false]; exact ⟨none, 0, none, 0, rfl, (rS_nil _ _), (rS_nil _ _), (From.none _ _ _ _ _), (From.none _ _ _ _ _), H.out.off⟩))
     · skip
       have z3o : ((IntKind.i64.wrap (ch.index - 1)) == b.index) = true := neq_f z3
       refine wSk ?_
       refine tN (wKK hK7 ?_)
       refine wSeqK fun KK10 hK10 => ?_
       refine wReg ?_
       refine wLr rfl tybook_Book 2 rfl (bkL b.conf b.index b.room (.slice la b.live.length lc) (.slice da b.done.length dc) b.modes) rfl rfl ?_
       refine p_applyC rfl ?_
       refine wLd rfl tyint 1 rfl rfl ?_
       refine p_applyC rfl ?_
       refine wLd rfl tyint 1 rfl rfl ?_
       refine wC (l := [.agg (bkA b.conf b.index b.room (.slice la b.live.length lc) (.slice da b.done.length dc) b.modes), .int .i64 ch.car, .int .i64 ch.mode]) Try.func15 rfl (by kernel_rfl) (fun wc H => setC b la lc da dc ch.car ch.mode wc (hp_held H (by (repeat (first | exact List.Mem.head _ | apply List.Mem.tail)))) (hp_held H (by (repeat (first | exact List.Mem.head _ | apply List.Mem.tail)))) hb ) rfl rfl rfl rfl ?_
       intro wc H
       rintro er wd ⟨la6_5, lc6_5, da6_5, dc6_5, rfl, hg⟩
       have H2 := hp_gotB H hg.2.2.2.2 hg.1 hg.2.1 (by decide) (by decide) hg.2.2.1 hg.2.2.2.1 (List.forall_mem_cons.2 ⟨(by (repeat (first | exact List.Mem.head _ | apply List.Mem.tail))), List.forall_mem_cons.2 ⟨(by (repeat (first | exact List.Mem.head _ | apply List.Mem.tail))), fun _ h => by cases h⟩⟩)
       replace H2 := hp_fact H2 (p := From w [rS la lc 9 (b.live.map rowOf), rS da dc 8 (b.done.map callRow)] (rS la6_5 lc6_5 9 (((setV b ch.car ch.mode).1).live.map rowOf)).foot) (from_trans hg.2.2.1 H.out.off (List.forall_mem_cons.2 ⟨(From.same rfl _ (by (repeat (first | exact List.Mem.head _ | apply List.Mem.tail)))), List.forall_mem_cons.2 ⟨(From.same rfl _ (by (repeat (first | exact List.Mem.head _ | apply List.Mem.tail)))), fun _ h => by cases h⟩⟩))
       replace H2 := hp_fact H2 (p := From w [rS la lc 9 (b.live.map rowOf), rS da dc 8 (b.done.map callRow)] (rS da6_5 dc6_5 8 (((setV b ch.car ch.mode).1).done.map callRow)).foot) (from_trans hg.2.2.2.1 H.out.off (List.forall_mem_cons.2 ⟨(From.same rfl _ (by (repeat (first | exact List.Mem.head _ | apply List.Mem.tail)))), List.forall_mem_cons.2 ⟨(From.same rfl _ (by (repeat (first | exact List.Mem.head _ | apply List.Mem.tail)))), fun _ h => by cases h⟩⟩))
       refine ⟨_, rfl, wkAt H2 ?_⟩
       clear H H2
       iterate 4 refine p_applyC rfl ?_
       refine wAl rfl rfl tybook_Book fun b6 => ?_
       refine wAl rfl rfl tyapi_Change fun b7 => ?_
       refine wSr rfl tybook_Book 1 rfl rfl rfl rfl (bkL (((setV b ch.car ch.mode).1).conf) (((setV b ch.car ch.mode).1).index) (((setV b ch.car ch.mode).1).room) (.slice la6_5 (((setV b ch.car ch.mode).1).live.length) lc6_5) (.slice da6_5 (((setV b ch.car ch.mode).1).done.length) dc6_5) (((setV b ch.car ch.mode).1).modes)) (by first | rfl | (simp only [spl]; rfl)) ?_
       refine wSr rfl tyapi_Change 0 rfl rfl rfl rfl (chL ((setV b ch.car ch.mode).2.1)) (by first | rfl | (simp only [spl]; rfl)) ?_
       refine p_applyC rfl ?_
       refine wN ?_
       refine tN (wKK hK10 ?_)
       refine wSeqK fun KK11 hK11 => ?_
       refine wReg ?_
       refine wLr rfl tybook_Book 1 rfl (bkL (((setV b ch.car ch.mode).1).conf) (((setV b ch.car ch.mode).1).index) (((setV b ch.car ch.mode).1).room) (.slice la6_5 (((setV b ch.car ch.mode).1).live.length) lc6_5) (.slice da6_5 (((setV b ch.car ch.mode).1).done.length) dc6_5) (((setV b ch.car ch.mode).1).modes)) rfl rfl ?_
       refine p_applyC rfl ?_
       refine wSr rfl tybook_Book 6 rfl rfl rfl rfl (bkL (((setV b ch.car ch.mode).1).conf) (((setV b ch.car ch.mode).1).index) (((setV b ch.car ch.mode).1).room) (.slice la6_5 (((setV b ch.car ch.mode).1).live.length) lc6_5) (.slice da6_5 (((setV b ch.car ch.mode).1).done.length) dc6_5) (((setV b ch.car ch.mode).1).modes)) (by first | rfl | (simp only [spl]; rfl)) ?_
       refine p_applyC rfl ?_
       refine wN ?_
       refine tN (wKK hK11 ?_)
       refine wRet ?_
       refine tR ?_
       exact wRct tybook_Book rfl rfl rfl 6 rfl rfl (fun ww H => (by simp only [applyV, z1, z1o, z2, z3, z3o, cond_true, cond_false, Bool.not_true, Bool.not_false, Bool.true_and, Bool.and_true, Bool.false_and, Bool.and_false, Bool.true_or, Bool.or_true, Bool.false_or, Bool.or_false]; exact ⟨la6_5, lc6_5, da6_5, dc6_5, rfl, (hp_held H (by (repeat (first | exact List.Mem.head _ | apply List.Mem.tail)))), (hp_held H (by (repeat (first | exact List.Mem.head _ | apply List.Mem.tail)))), (hp_told H (by (repeat (first | exact List.Mem.head _ | apply List.Mem.tail)))), (hp_told H (by (repeat (first | exact List.Mem.head _ | apply List.Mem.tail)))), H.out.off⟩))
   · skip
     refine wSk ?_
     refine tN (wKK hK5 ?_)
     refine wSeqK fun KK12 hK12 => ?_
     refine wSeqK fun KK13 hK13 => ?_
     refine wReg ?_
     refine p_applyC rfl ?_
     refine wLd rfl tyint 1 rfl rfl ?_
     iterate 2 refine p_applyC rfl ?_
     refine wLd rfl tyint 2 rfl rfl ?_
     iterate 2 refine p_applyC rfl ?_
     refine wCut 4 [(48, .bool (((IntKind.i64.wrap (ch.index - 1)) != b.index) || (ch.car != 0))), (0, .agg (bkA b.conf b.index b.room (.slice la b.live.length lc) (.slice da b.done.length dc) b.modes)), (1, .agg (chA ch)), (2, .pointer (some ⟨b2, 0, none⟩)), (3, .pointer (some ⟨b3, 0, none⟩)), (4, .pointer (some ⟨b4, 0, none⟩)), (5, .int .i64 0), (13, .bool (b.room == 0)), (18, .bool (decide (ch.call = (⟨0, 0, 0, 0, 0, 0, 0, 0⟩ : CallV))))] ?_ ?_
     · intro KK hKK
       rcases Bool.eq_false_or_eq_true ((IntKind.i64.wrap (ch.index - 1)) != b.index) with u4 | u4
       · skip
         refine wB (c := true) 44 rfl u4 ?_
         iterate 3 refine p_applyC rfl ?_
         refine p_applyC rfl ?_
         refine wB (c := ((IntKind.i64.wrap (ch.index - 1)) != b.index) || (ch.car != 0)) 48 rfl (by rw [u4]; rfl) ?_
         refine wN (tN ?_)
         exact fun aa ww nn dd hs H => hKK aa ww nn dd (sat_sub ⟨rfl, rfl, rfl, rfl, rfl, rfl, rfl, rfl, rfl, trivial⟩ hs) H
       · skip
         refine wB (c := false) 44 rfl u4 ?_
         refine p_applyC rfl ?_
         refine wLd rfl tyint 1 rfl rfl ?_
         refine p_applyC rfl ?_
         refine p_applyC rfl ?_
         refine wB (c := ((IntKind.i64.wrap (ch.index - 1)) != b.index) || (ch.car != 0)) 48 rfl (by rw [u4]; rfl) ?_
         refine wN (tN ?_)
         exact fun aa ww nn dd hs H => hKK aa ww nn dd (sat_sub ⟨rfl, rfl, rfl, rfl, rfl, rfl, rfl, rfl, rfl, trivial⟩ hs) H
     refine p_applyC rfl ?_
     refine wCut 4 [(53, .bool ((((IntKind.i64.wrap (ch.index - 1)) != b.index) || (ch.car != 0)) || (ch.mode != 0))), (0, .agg (bkA b.conf b.index b.room (.slice la b.live.length lc) (.slice da b.done.length dc) b.modes)), (1, .agg (chA ch)), (2, .pointer (some ⟨b2, 0, none⟩)), (3, .pointer (some ⟨b3, 0, none⟩)), (4, .pointer (some ⟨b4, 0, none⟩)), (5, .int .i64 0), (13, .bool (b.room == 0)), (18, .bool (decide (ch.call = (⟨0, 0, 0, 0, 0, 0, 0, 0⟩ : CallV))))] ?_ ?_
     · intro KK hKK
       rcases Bool.eq_false_or_eq_true (((IntKind.i64.wrap (ch.index - 1)) != b.index) || (ch.car != 0)) with u5 | u5
       · skip
         refine wB (c := true) 49 rfl u5 ?_
         iterate 3 refine p_applyC rfl ?_
         refine p_applyC rfl ?_
         refine wB (c := (((IntKind.i64.wrap (ch.index - 1)) != b.index) || (ch.car != 0)) || (ch.mode != 0)) 53 rfl (by rw [u5]; rfl) ?_
         refine wN (tN ?_)
         exact fun aa ww nn dd hs H => hKK aa ww nn dd (sat_sub ⟨rfl, rfl, rfl, rfl, rfl, rfl, rfl, rfl, rfl, trivial⟩ hs) H
       · skip
         refine wB (c := false) 49 rfl u5 ?_
         refine p_applyC rfl ?_
         refine wLd rfl tyint 1 rfl rfl ?_
         refine p_applyC rfl ?_
         refine p_applyC rfl ?_
         refine wB (c := (((IntKind.i64.wrap (ch.index - 1)) != b.index) || (ch.car != 0)) || (ch.mode != 0)) 53 rfl (by rw [u5]; rfl) ?_
         refine wN (tN ?_)
         exact fun aa ww nn dd hs H => hKK aa ww nn dd (sat_sub ⟨rfl, rfl, rfl, rfl, rfl, rfl, rfl, rfl, rfl, trivial⟩ hs) H
     refine p_applyC rfl ?_
     refine wCut 6 [(60, .bool (((((IntKind.i64.wrap (ch.index - 1)) != b.index) || (ch.car != 0)) || (ch.mode != 0)) || (!(isNextV b ch.call)))), (0, .agg (bkA b.conf b.index b.room (.slice la b.live.length lc) (.slice da b.done.length dc) b.modes)), (1, .agg (chA ch)), (2, .pointer (some ⟨b2, 0, none⟩)), (3, .pointer (some ⟨b3, 0, none⟩)), (4, .pointer (some ⟨b4, 0, none⟩)), (5, .int .i64 0), (13, .bool (b.room == 0)), (18, .bool (decide (ch.call = (⟨0, 0, 0, 0, 0, 0, 0, 0⟩ : CallV))))] ?_ ?_
     · intro KK hKK
       rcases Bool.eq_false_or_eq_true ((((IntKind.i64.wrap (ch.index - 1)) != b.index) || (ch.car != 0)) || (ch.mode != 0)) with u6 | u6
       · skip
         refine wB (c := true) 54 rfl u6 ?_
         iterate 5 refine p_applyC rfl ?_
         refine p_applyC rfl ?_
         refine wB (c := ((((IntKind.i64.wrap (ch.index - 1)) != b.index) || (ch.car != 0)) || (ch.mode != 0)) || (!(isNextV b ch.call))) 60 rfl (by rw [u6]; rfl) ?_
         refine wN (tN ?_)
         exact fun aa ww nn dd hs H => hKK aa ww nn dd (sat_sub ⟨rfl, rfl, rfl, rfl, rfl, rfl, rfl, rfl, rfl, trivial⟩ hs) H
       · skip
         refine wB (c := false) 54 rfl u6 ?_
         refine wLr rfl tybook_Book 2 rfl (bkL b.conf b.index b.room (.slice la b.live.length lc) (.slice da b.done.length dc) b.modes) rfl rfl ?_
         refine p_applyC rfl ?_
         refine wLr rfl tyapi_Call 1 rfl (xL ch.call) rfl rfl ?_
         refine wQ (l := [.agg (bkA b.conf b.index b.room (.slice la b.live.length lc) (.slice da b.done.length dc) b.modes), .agg (xA ch.call)]) Try.func49 rfl (by kernel_rfl) (.bool (isNextV b ch.call)) (fun wc H => isNextC b la lc da dc ch.call wc (hp_held H (by (repeat (first | exact List.Mem.head _ | apply List.Mem.tail)))) (hp_held H (by (repeat (first | exact List.Mem.head _ | apply List.Mem.tail)))) hb) rfl rfl rfl rfl ?_
         refine p_applyC rfl ?_
         refine p_applyC rfl ?_
         refine wB (c := ((((IntKind.i64.wrap (ch.index - 1)) != b.index) || (ch.car != 0)) || (ch.mode != 0)) || (!(isNextV b ch.call))) 60 rfl (by rw [u6]; rfl) ?_
         refine wN (tN ?_)
         exact fun aa ww nn dd hs H => hKK aa ww nn dd (sat_sub ⟨rfl, rfl, rfl, rfl, rfl, rfl, rfl, rfl, rfl, trivial⟩ hs) H
     refine wN ?_
     refine tN (wKK hK13 ?_)
     refine wCond (E := ((((IntKind.i64.wrap (ch.index - 1)) != b.index) || (ch.car != 0)) || (ch.mode != 0)) || (!(isNextV b ch.call))) rfl (fun z7 => ?_) (fun z7 => ?_)
     · skip
       refine wSeqK fun KK14 hK14 => ?_
       refine wReg ?_
       refine wE (.agg (bkA zeroF 0 0 (.slice none 0 0) (.slice none 0 0) ([0, 0, 0, 0]))) rfl rfl rfl (fun aa ww hs _ => by simp only [execOp]; go_simp <;> first | rfl | omega) ?_
       refine wSr rfl tybook_Book 0 rfl rfl rfl rfl (bkL zeroF 0 0 (.slice none 0 0) (.slice none 0 0) ([0, 0, 0, 0])) (by first | rfl | (simp only [spl]; rfl)) ?_
       refine p_applyC rfl ?_
       refine wN ?_
       refine tN (wKK hK14 ?_)
       refine wRet ?_
       refine tR ?_
       exact wRct tybook_Book rfl rfl rfl 0 rfl rfl (fun ww H => (by simp only [applyV, z1, z1o, z2, z7, cond_true, cond_false, Bool.not_true, Bool.not_false, Bool.true_and, Bool.and_true, Bool.false_and, Bool.and_false, Bool.true_or, Bool.or_true, Bool.false_or, Bool.or_false]; exact ⟨none, 0, none, 0, rfl, (rS_nil _ _), (rS_nil _ _), (From.none _ _ _ _ _), (From.none _ _ _ _ _), H.out.off⟩))
     · skip
       have z7l : ((((IntKind.i64.wrap (ch.index - 1)) != b.index) || (ch.car != 0)) || (ch.mode != 0)) = false := Reg.ol z7
       have z7ll : (((IntKind.i64.wrap (ch.index - 1)) != b.index) || (ch.car != 0)) = false := Reg.ol z7l
       have z7lll : ((IntKind.i64.wrap (ch.index - 1)) != b.index) = false := Reg.ol z7ll
       have z7lllo : ((IntKind.i64.wrap (ch.index - 1)) == b.index) = true := neq_f z7lll
       have z7llr : (ch.car != 0) = false := Reg.orr z7ll
       have z7llro : (ch.car == 0) = true := neq_f z7llr
       have z7lr : (ch.mode != 0) = false := Reg.orr z7l
       have z7lro : (ch.mode == 0) = true := neq_f z7lr
       have z7r : (!(isNextV b ch.call)) = false := Reg.orr z7
       have z7rn : (isNextV b ch.call) = true := Reg.bt z7r
       refine wSk ?_
       refine tN (wKK hK12 ?_)
       refine wSeqK fun KK15 hK15 => ?_
       refine wReg ?_
       refine wLr rfl tybook_Book 2 rfl (bkL b.conf b.index b.room (.slice la b.live.length lc) (.slice da b.done.length dc) b.modes) rfl rfl ?_
       refine p_applyC rfl ?_
       refine wLr rfl tyapi_Call 1 rfl (xL ch.call) rfl rfl ?_
       refine wC (l := [.agg (bkA b.conf b.index b.room (.slice la b.live.length lc) (.slice da b.done.length dc) b.modes), .agg (xA ch.call)]) Try.func45 rfl (by kernel_rfl) (fun wc H => nextC b la lc da dc ch.call wc (hp_held H (by (repeat (first | exact List.Mem.head _ | apply List.Mem.tail)))) (hp_held H (by (repeat (first | exact List.Mem.head _ | apply List.Mem.tail)))) hb ) rfl rfl rfl rfl ?_
       intro wc H
       rintro er wd ⟨la10_3, lc10_3, da10_3, dc10_3, rfl, hg⟩
       have H2 := hp_gotB H hg.2.2.2.2 hg.1 hg.2.1 (by decide) (by decide) hg.2.2.1 hg.2.2.2.1 (List.forall_mem_cons.2 ⟨(by (repeat (first | exact List.Mem.head _ | apply List.Mem.tail))), List.forall_mem_cons.2 ⟨(by (repeat (first | exact List.Mem.head _ | apply List.Mem.tail))), fun _ h => by cases h⟩⟩)
       replace H2 := hp_fact H2 (p := From w [rS la lc 9 (b.live.map rowOf), rS da dc 8 (b.done.map callRow)] (rS la10_3 lc10_3 9 (((nextV b ch.call).1).live.map rowOf)).foot) (from_trans hg.2.2.1 H.out.off (List.forall_mem_cons.2 ⟨(From.same rfl _ (by (repeat (first | exact List.Mem.head _ | apply List.Mem.tail)))), List.forall_mem_cons.2 ⟨(From.same rfl _ (by (repeat (first | exact List.Mem.head _ | apply List.Mem.tail)))), fun _ h => by cases h⟩⟩))
       replace H2 := hp_fact H2 (p := From w [rS la lc 9 (b.live.map rowOf), rS da dc 8 (b.done.map callRow)] (rS da10_3 dc10_3 8 (((nextV b ch.call).1).done.map callRow)).foot) (from_trans hg.2.2.2.1 H.out.off (List.forall_mem_cons.2 ⟨(From.same rfl _ (by (repeat (first | exact List.Mem.head _ | apply List.Mem.tail)))), List.forall_mem_cons.2 ⟨(From.same rfl _ (by (repeat (first | exact List.Mem.head _ | apply List.Mem.tail)))), fun _ h => by cases h⟩⟩))
       refine ⟨_, rfl, wkAt H2 ?_⟩
       clear H H2
       iterate 4 refine p_applyC rfl ?_
       refine wAl rfl rfl tybook_Book fun b9 => ?_
       refine wAl rfl rfl tyapi_Change fun b10 => ?_
       refine wSr rfl tybook_Book 1 rfl rfl rfl rfl (bkL (((nextV b ch.call).1).conf) (((nextV b ch.call).1).index) (((nextV b ch.call).1).room) (.slice la10_3 (((nextV b ch.call).1).live.length) lc10_3) (.slice da10_3 (((nextV b ch.call).1).done.length) dc10_3) (((nextV b ch.call).1).modes)) (by first | rfl | (simp only [spl]; rfl)) ?_
       refine wSr rfl tyapi_Change 0 rfl rfl rfl rfl (chL ((nextV b ch.call).2.1)) (by first | rfl | (simp only [spl]; rfl)) ?_
       refine p_applyC rfl ?_
       refine wN ?_
       refine tN (wKK hK15 ?_)
       refine wSeqK fun KK16 hK16 => ?_
       refine wReg ?_
       refine wLr rfl tybook_Book 1 rfl (bkL (((nextV b ch.call).1).conf) (((nextV b ch.call).1).index) (((nextV b ch.call).1).room) (.slice la10_3 (((nextV b ch.call).1).live.length) lc10_3) (.slice da10_3 (((nextV b ch.call).1).done.length) dc10_3) (((nextV b ch.call).1).modes)) rfl rfl ?_
       refine p_applyC rfl ?_
       refine wSr rfl tybook_Book 6 rfl rfl rfl rfl (bkL (((nextV b ch.call).1).conf) (((nextV b ch.call).1).index) (((nextV b ch.call).1).room) (.slice la10_3 (((nextV b ch.call).1).live.length) lc10_3) (.slice da10_3 (((nextV b ch.call).1).done.length) dc10_3) (((nextV b ch.call).1).modes)) (by first | rfl | (simp only [spl]; rfl)) ?_
       refine p_applyC rfl ?_
       refine wN ?_
       refine tN (wKK hK16 ?_)
       refine wRet ?_
       exact wRct tybook_Book rfl rfl rfl 6 rfl rfl (fun ww H => (by simp only [applyV, z1, z1o, z2, z7, z7l, z7ll, z7lll, z7lllo, z7llr, z7llro, z7lr, z7lro, z7r, z7rn, cond_true, cond_false, Bool.not_true, Bool.not_false, Bool.true_and, Bool.and_true, Bool.false_and, Bool.and_false, Bool.true_or, Bool.or_true, Bool.false_or, Bool.or_false]; exact ⟨la10_3, lc10_3, da10_3, dc10_3, rfl, (hp_held H (by (repeat (first | exact List.Mem.head _ | apply List.Mem.tail)))), (hp_held H (by (repeat (first | exact List.Mem.head _ | apply List.Mem.tail)))), (hp_told H (by (repeat (first | exact List.Mem.head _ | apply List.Mem.tail)))), (hp_told H (by (repeat (first | exact List.Mem.head _ | apply List.Mem.tail)))), H.out.off⟩))
end Go.Proofs.Ytnanihffljpdbaa.Bk
