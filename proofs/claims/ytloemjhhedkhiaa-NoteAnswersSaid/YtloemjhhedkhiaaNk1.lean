/- Layer 15: what is fixed by number. -/
import Derived.Test.YtloemjhhedkhiaaProg
import Derived.Below
import Derived.WalkKit
import Derived.KernelRfl
import Derived.RowKit3
import Derived.Deep.LoopGhost
import Derived.Deep.QuietTactic
import Derived.BigQuiet
import Derived.WideLaws
import Derived.Deep.DeepCutAuto
import Derived.Deep.CutBlock
import Derived.Lib.Hide
import Derived.Laws.BitsLemmas
import Derived.Laws.Bits64
import Derived.Laws.BitsAllLaws
import Derived.IntWalk
import Derived.Outline
import Derived.WalkSpells
import Derived.Test.YtloemjhhedkhiaaMem
import Derived.Test.YtloemjhhedkhiaaNd3
namespace Go.Proofs.Ytloemjhhedkhiaa.Nt
open Go.RowKit Go.Proofs.Ytloemjhhedkhiaa.Mem Go.Proofs.Ytloemjhhedkhiaa.Pk Go.Proofs.Ytloemjhhedkhiaa.Reg Go.Proofs.Ytloemjhhedkhiaa.Wk
set_option linter.unusedVariables false
set_option linter.unusedSimpArgs false

theorem tell5 : tellV (⟨5, (⟨0, (⟨0, 0, 0, 0, 0, 0, 0, 0⟩ : CallV), 0, 0⟩ : ChgV)⟩ : NoteV) = ((⟨#[129, 0, 0, 0, 5, 0]⟩ : ByteArray), 0) := by kernel_rfl
theorem enc13 : encodeV (⟨1, 3, 0, 0, 0, []⟩ : AnsV) = ((⟨#[128, 0, 0, 0, 1, 3, 0, 0, 0, 0, 0, 0, 0, 0, 0, 0, 0, 0, 0, 0]⟩ : ByteArray), 0) := by kernel_rfl
theorem pay13 : payloadV (⟨1, 3, 0, 0, 0, []⟩ : AnsV) = (⟨#[3, 0, 0, 0, 0, 0, 0, 0, 0, 0, 0, 0, 0, 0, 0]⟩ : ByteArray) := by kernel_rfl
theorem told6 : toldV (⟨#[129, 0, 0, 0, 6, 2, 1, 2]⟩ : ByteArray) = ((⟨6, ⟨6, zeroC, 1, 2⟩⟩ : NoteV), 0) := told_back (n := (⟨6, ⟨6, zeroC, 1, 2⟩⟩ : NoteV)) (l := [129, 0, 0, 0, 6, 2, 1, 2]) (by kernel_rfl)
theorem dec5 : decodeV (⟨#[129, 0, 0, 0, 5, 0]⟩ : ByteArray) = (zeroA, 4) := decode_note (n := (⟨5, (⟨0, (⟨0, 0, 0, 0, 0, 0, 0, 0⟩ : CallV), 0, 0⟩ : ChgV)⟩ : NoteV)) (l := [129, 0, 0, 0, 5, 0]) (by kernel_rfl)
theorem isA1 : isAnsV (⟨#[128, 0, 0, 0, 1, 3, 0, 0, 0, 0, 0, 0, 0, 0, 0, 0, 0, 0, 0, 0]⟩ : ByteArray) = true := by
  unfold isAnsV
  rw [ByteArray.toList_eq]
  rfl
theorem isA5 : isAnsV (⟨#[129, 0, 0, 0, 5, 0]⟩ : ByteArray) = false := by
  unfold isAnsV
  rw [ByteArray.toList_eq]
  rfl
theorem cut13 : (([3, 0, 0, 0, 0, 0, 0, 0, 0, 0, 0, 0, 0, 0, 0] : List UInt8) == (((⟨#[128, 0, 0, 0, 1, 3, 0, 0, 0, 0, 0, 0, 0, 0, 0, 0, 0, 0, 0, 0]⟩ : ByteArray).extract 5 (⟨#[128, 0, 0, 0, 1, 3, 0, 0, 0, 0, 0, 0, 0, 0, 0, 0, 0, 0, 0, 0]⟩ : ByteArray).size)).toList) = true := by
  rw [ByteArray.toList_eq]
  rfl
theorem chg6 : decide ((⟨6, (⟨0, 0, 0, 0, 0, 0, 0, 0⟩ : CallV), 1, 2⟩ : ChgV) = (⟨6, (⟨0, 0, 0, 0, 0, 0, 0, 0⟩ : CallV), 1, 2⟩ : ChgV)) = true := by simp
theorem rS_no (w : World) : (rS none 0 8 (((⟨1, 3, 0, 0, 0, []⟩ : AnsV)).calls.map callRow)).holds w := (rS_none w).1
def tab_awake15 : Wk.Tab := []
theorem p_awake15 {ops : Array Oper} {rest : List Oper} {o : Oper} {w0 : World} {Q : Exit → Act → World → Prop} {S : List Nat} {R : List Res} {K K' : Wk.Env} {N : Nat} (h : Wk.stp tab_awake15 N ops K o = some K') (n : Wk.Wk N S w0 K' R (wpList Try.prog ops Q rest)) : Wk.Wk N S w0 K R (wpList Try.prog ops Q (o :: rest)) := Wk.wP (T := tab_awake15) (by kernel_rfl) h n
set_option maxHeartbeats 4000000 in
set_option maxRecDepth 20000 in
theorem awake15_r5 (hcut : (([3, 0, 0, 0, 0, 0, 0, 0, 0, 0, 0, 0, 0, 0, 0] : List UInt8) == (((⟨#[128, 0, 0, 0, 1, 3, 0, 0, 0, 0, 0, 0, 0, 0, 0, 0, 0, 0, 0, 0]⟩ : ByteArray).extract 5 (⟨#[128, 0, 0, 0, 1, 3, 0, 0, 0, 0, 0, 0, 0, 0, 0, 0, 0, 0, 0, 0]⟩ : ByteArray).size)).toList) = true) (hchg : decide ((⟨6, (⟨0, 0, 0, 0, 0, 0, 0, 0⟩ : CallV), 1, 2⟩ : ChgV) = (⟨6, (⟨0, 0, 0, 0, 0, 0, 0, 0⟩ : CallV), 1, 2⟩ : ChgV)) = true) (hsz : (((⟨#[128, 0, 0, 0, 1, 3, 0, 0, 0, 0, 0, 0, 0, 0, 0, 0, 0, 0, 0, 0]⟩ : ByteArray).size : Int) == 20) = true) (b5 : Nat) (a4_1 : Option Addr) (c4_1 : Nat) (b7 : Nat) {wa wb : World} (H : Hid (Hp [] wa wb [rB b7 64 [.int .i64 0, .int .i64 0, .int .i64 0, .int .i64 0, .int .u32 0, .slice a4_1 (([] : List CallV).length) c4_1], rS a4_1 c4_1 8 (([] : List CallV).map callRow), rB b5 50 [.int .i64 6, .int .i64 6, .int .i64 0, .int .i64 0, .int .i64 0, .int .i64 0, .int .i64 0, .int .i64 0, .int .i64 0, .int .i64 0, .int .i64 1, .int .i64 2]])) (ac0 : Act) (hz : ac0.tmps.size = 73) (so1 : ac0.eval (.tmp 1) = .string (⟨#[129, 0, 0, 0, 5, 0]⟩ : ByteArray)) (so2 : ac0.eval (.tmp 2) = .int .i64 0) (so3 : ac0.eval (.tmp 3) = .string (⟨#[128, 0, 0, 0, 1, 3, 0, 0, 0, 0, 0, 0, 0, 0, 0, 0, 0, 0, 0, 0]⟩ : ByteArray)) (so4 : ac0.eval (.tmp 4) = .int .i64 0) (so5 : ac0.eval (.tmp 5) = .pointer (some ⟨b5, 0, none⟩)) (so6 : ac0.eval (.tmp 6) = .int .i64 0) (so8 : ac0.eval (.tmp 8) = .int .i64 4) {QR : Exit → Act → World → Prop} (hfin : ∀ (ac1 : Act) (wz : World), ac1.tmps.size = 73 → ac1.defers = ac0.defers → (∀ t, ([0, 28, 29, 30, 31, 32, 33, 34, 35, 36, 37, 38, 39, 40, 41, 42, 43, 44, 45, 46, 47, 48, 49, 50, 51, 52, 53, 54, 55, 56, 57, 58, 59, 60, 61, 62, 63, 64, 65, 66, 67, 68, 69, 70, 71, 72] : List Nat).contains t = false → ac1.eval (.tmp t) = ac0.eval (.tmp t)) → ac1.eval (.tmp 0) = .bool true →  Hid (Hp [] wa wz [rB b7 64 [.int .i64 0, .int .i64 0, .int .i64 0, .int .i64 0, .int .u32 0, .slice a4_1 (([] : List CallV).length) c4_1], rS a4_1 c4_1 8 (([] : List CallV).map callRow), rB b5 50 [.int .i64 6, .int .i64 6, .int .i64 0, .int .i64 0, .int .i64 0, .int .i64 0, .int .i64 0, .int .i64 0, .int .i64 0, .int .i64 0, .int .i64 1, .int .i64 2]]) → QR .normal ac1 wz) : (regAt Try.f18 5).wp Try.prog QR ac0 wb := by
  refine wp_region_st mixedP ⟨[0, 1, 2, 3, 4, 5, 6, 7, 8, 9, 10, 11, 12, 13, 14, 15, 16, 17, 18, 19, 20, 21, 22, 23, 24, 25, 26, 27, 28, 29, 30, 29, 31, 32, 33, 34, 35, 36, 37, 38, 39, 38, 39, 40, 41, 42], by kernel_rfl⟩ [[], [0], [0, 1], [0, 1, 2], [0, 1, 2, 3], [0, 1, 2, 3, 4], [0, 1, 2, 3, 4, 5], [0, 1, 2, 3, 4, 5, 6], [0, 1, 2, 3, 4, 5, 6, 7], [0, 1, 2, 3, 4, 5, 6, 7, 8], [0, 1, 2, 3, 4, 5, 6, 7, 8, 9], [0, 1, 2, 3, 4, 5, 6, 7, 8, 9, 10], [0, 1, 2, 3, 4, 5, 6, 7, 8, 9, 10, 11], [0, 1, 2, 3, 4, 5, 6, 7, 8, 9, 10, 11, 12], [0, 1, 2, 3, 4, 5, 6, 7, 8, 9, 10, 11, 12, 13], [0, 1, 2, 3, 4, 5, 6, 7, 8, 9, 10, 11, 12, 13, 14], [0, 1, 2, 3, 4, 5, 6, 7, 8, 9, 10, 11, 12, 13, 14, 15], [0, 1, 2, 3, 4, 5, 6, 7, 8, 9, 10, 11, 12, 13, 14, 15, 16], [0, 1, 2, 3, 4, 5, 6, 7, 8, 9, 10, 11, 12, 13, 14, 15, 16, 17], [0, 1, 2, 3, 4, 5, 6, 7, 8, 9, 10, 11, 12, 13, 14, 15, 16, 17, 18], [0, 1, 2, 3, 4, 5, 6, 7, 8, 9, 10, 11, 12, 13, 14, 15, 16, 17, 18, 19], [0, 1, 2, 3, 4, 5, 6, 7, 8, 9, 10, 11, 12, 13, 14, 15, 16, 17, 18, 19, 20], [0, 1, 2, 3, 4, 5, 6, 7, 8, 9, 10, 11, 12, 13, 14, 15, 16, 17, 18, 19, 20, 21], [0, 1, 2, 3, 4, 5, 6, 7, 8, 9, 10, 11, 12, 13, 14, 15, 16, 17, 18, 19, 20, 21, 22], [0, 1, 2, 3, 4, 5, 6, 7, 8, 9, 10, 11, 12, 13, 14, 15, 16, 17, 18, 19, 20, 21, 22, 23], [0, 1, 2, 3, 4, 5, 6, 7, 8, 9, 10, 11, 12, 13, 14, 15, 16, 17, 18, 19, 20, 21, 22, 23, 24], [0, 1, 2, 3, 4, 5, 6, 7, 8, 9, 10, 11, 12, 13, 14, 15, 16, 17, 18, 19, 20, 21, 22, 23, 24, 25], [0, 1, 2, 3, 4, 5, 6, 7, 8, 9, 10, 11, 12, 13, 14, 15, 16, 17, 18, 19, 20, 21, 22, 23, 24, 25, 26], [0, 1, 2, 3, 4, 5, 6, 7, 8, 9, 10, 11, 12, 13, 14, 15, 16, 17, 18, 19, 20, 21, 22, 23, 24, 25, 26, 27], [0, 1, 2, 3, 4, 5, 6, 7, 8, 9, 10, 11, 12, 13, 14, 15, 16, 17, 18, 19, 20, 21, 22, 23, 24, 25, 26, 27, 28], [0, 1, 2, 3, 4, 5, 6, 7, 8, 9, 10, 11, 12, 13, 14, 15, 16, 17, 18, 19, 20, 21, 22, 23, 24, 25, 26, 27, 28, 29], [0, 1, 2, 3, 4, 5, 6, 7, 8, 9, 10, 11, 12, 13, 14, 15, 16, 17, 18, 19, 20, 21, 22, 23, 24, 25, 26, 27, 28], [0, 1, 2, 3, 4, 5, 6, 7, 8, 9, 10, 11, 12, 13, 14, 15, 16, 17, 18, 19, 20, 21, 22, 23, 24, 25, 26, 27, 28, 29, 30, 31], [0, 1, 2, 3, 4, 5, 6, 7, 8, 9, 10, 11, 12, 13, 14, 15, 16, 17, 18, 19, 20, 21, 22, 23, 24, 25, 26, 27, 28, 29, 30, 31, 32], [0, 1, 2, 3, 4, 5, 6, 7, 8, 9, 10, 11, 12, 13, 14, 15, 16, 17, 18, 19, 20, 21, 22, 23, 24, 25, 26, 27, 28, 29, 30, 31, 32, 33], [0, 1, 2, 3, 4, 5, 6, 7, 8, 9, 10, 11, 12, 13, 14, 15, 16, 17, 18, 19, 20, 21, 22, 23, 24, 25, 26, 27, 28, 29, 30, 31, 32, 33, 34], [0, 1, 2, 3, 4, 5, 6, 7, 8, 9, 10, 11, 12, 13, 14, 15, 16, 17, 18, 19, 20, 21, 22, 23, 24, 25, 26, 27, 28, 29, 30, 31, 32, 33, 34, 35], [0, 1, 2, 3, 4, 5, 6, 7, 8, 9, 10, 11, 12, 13, 14, 15, 16, 17, 18, 19, 20, 21, 22, 23, 24, 25, 26, 27, 28, 29, 30, 31, 32, 33, 34, 35, 36], [0, 1, 2, 3, 4, 5, 6, 7, 8, 9, 10, 11, 12, 13, 14, 15, 16, 17, 18, 19, 20, 21, 22, 23, 24, 25, 26, 27, 28, 29, 30, 31, 32, 33, 34, 35, 36, 37], [0, 1, 2, 3, 4, 5, 6, 7, 8, 9, 10, 11, 12, 13, 14, 15, 16, 17, 18, 19, 20, 21, 22, 23, 24, 25, 26, 27, 28, 29, 30, 31, 32, 33, 34, 35, 36, 37, 38], [0, 1, 2, 3, 4, 5, 6, 7, 8, 9, 10, 11, 12, 13, 14, 15, 16, 17, 18, 19, 20, 21, 22, 23, 24, 25, 26, 27, 28, 29, 30, 31, 32, 33, 34, 35, 36, 37, 38, 39], [0, 1, 2, 3, 4, 5, 6, 7, 8, 9, 10, 11, 12, 13, 14, 15, 16, 17, 18, 19, 20, 21, 22, 23, 24, 25, 26, 27, 28, 29, 30, 31, 32, 33, 34, 35, 36, 37, 38], [0, 1, 2, 3, 4, 5, 6, 7, 8, 9, 10, 11, 12, 13, 14, 15, 16, 17, 18, 19, 20, 21, 22, 23, 24, 25, 26, 27, 28, 29, 30, 31, 32, 33, 34, 35, 36, 37, 38, 41], [0, 1, 2, 3, 4, 5, 6, 7, 8, 9, 10, 11, 12, 13, 14, 15, 16, 17, 18, 19, 20, 21, 22, 23, 24, 25, 26, 27, 28, 29, 30, 31, 32, 33, 34, 35, 36, 37, 38, 39, 40, 41, 42], [0, 1, 2, 3, 4, 5, 6, 7, 8, 9, 10, 11, 12, 13, 14, 15, 16, 17, 18, 19, 20, 21, 22, 23, 24, 25, 26, 27, 28, 29, 30, 31, 32, 33, 34, 35, 36, 37, 38, 39, 40, 41, 42, 43], [0, 1, 2, 3, 4, 5, 6, 7, 8, 9, 10, 11, 12, 13, 14, 15, 16, 17, 18, 19, 20, 21, 22, 23, 24, 25, 26, 27, 28, 29, 30, 31, 32, 33, 34, 35, 36, 37, 38, 39, 40, 41, 42, 43, 44]] (by kernel_rfl) (by kernel_rfl) 73 hz (by kernel_rfl) (fun (xx : Unit) jx => nth [.int .i64 0, .bool true, .bool true, .string (⟨#[129, 0, 0, 0, 5, 0]⟩ : ByteArray), .bool true, .bool true, .bool true, .int .i64 0, .bool true, .bool true, .bool true, .string (⟨#[128, 0, 0, 0, 1, 3, 0, 0, 0, 0, 0, 0, 0, 0, 0, 0, 0, 0, 0, 0]⟩ : ByteArray), .int .i64 ((⟨#[128, 0, 0, 0, 1, 3, 0, 0, 0, 0, 0, 0, 0, 0, 0, 0, 0, 0, 0, 0]⟩ : ByteArray).size), .bool true, .bool true, .bool true, .string (⟨#[128, 0, 0, 0, 1, 3, 0, 0, 0, 0, 0, 0, 0, 0, 0, 0, 0, 0, 0, 0]⟩ : ByteArray), .bool true, .bool true, .bool true, .string (⟨#[129, 0, 0, 0, 5, 0]⟩ : ByteArray), .bool false, .bool true, .bool true, .bool true, .int .i64 0, .bool true, .bool true, .bool true, .pointer (some ⟨b5, 1, none⟩), .agg #[.int .i64 6, .int .i64 0, .int .i64 0, .int .i64 0, .int .i64 0, .int .i64 0, .int .i64 0, .int .i64 0, .int .i64 0, .int .i64 1, .int .i64 2], .agg #[.int .i64 6, .int .i64 0, .int .i64 0, .int .i64 0, .int .i64 0, .int .i64 0, .int .i64 0, .int .i64 0, .int .i64 0, .int .i64 1, .int .i64 2], .bool true, .bool true, .bool true, .int .i64 4, .bool true, .bool true, .bool true, .agg #[.int .i64 1, .int .i64 3, .int .i64 0, .int .i64 0, .int .u32 0, .slice none 0 0], .string (⟨#[3, 0, 0, 0, 0, 0, 0, 0, 0, 0, 0, 0, 0, 0, 0]⟩ : ByteArray), .string (⟨#[128, 0, 0, 0, 1, 3, 0, 0, 0, 0, 0, 0, 0, 0, 0, 0, 0, 0, 0, 0]⟩ : ByteArray), .string ((⟨#[128, 0, 0, 0, 1, 3, 0, 0, 0, 0, 0, 0, 0, 0, 0, 0, 0, 0, 0, 0]⟩ : ByteArray).extract 5 (⟨#[128, 0, 0, 0, 1, 3, 0, 0, 0, 0, 0, 0, 0, 0, 0, 0, 0, 0, 0, 0]⟩ : ByteArray).size), .bool true, .bool true, .bool true] jx) (fun (LL : Nat → Bool) (xx : Unit) ww => Hp [] wa ww [rB b7 64 [.int .i64 0, .int .i64 0, .int .i64 0, .int .i64 0, .int .u32 0, .slice a4_1 (([] : List CallV).length) c4_1], rS a4_1 c4_1 8 (([] : List CallV).map callRow), rB b5 50 [.int .i64 6, .int .i64 6, .int .i64 0, .int .i64 0, .int .i64 0, .int .i64 0, .int .i64 0, .int .i64 0, .int .i64 0, .int .i64 0, .int .i64 1, .int .i64 2]]) () H.out.drew ?_ (steps_al ?_) ?_ ?_
  · exact fun _ _ _ _ _ h => h
  · refine al_cons ?_ (al_cons ?_ (al_cons ?_ (al_cons ?_ (al_cons ?_ (al_cons ?_ (al_cons ?_ (al_cons ?_ (al_cons ?_ (al_cons ?_ (al_cons ?_ (al_cons ?_ (al_cons ?_ (al_cons ?_ (al_cons ?_ (al_cons ?_ (al_cons ?_ (al_cons ?_ (al_cons ?_ (al_cons ?_ (al_cons ?_ (al_cons ?_ (al_cons ?_ (al_cons ?_ (al_cons ?_ (al_cons ?_ (al_cons ?_ (al_cons ?_ (al_cons ?_ (al_cons ?_ (al_cons ?_ (al_cons ?_ (al_cons ?_ (al_cons ?_ (al_cons ?_ (al_cons ?_ (al_cons ?_ (al_cons ?_ (al_cons ?_ (al_cons ?_ (al_cons ?_ (al_cons ?_ (al_cons ?_ (al_cons ?_ (al_cons ?_ (al_cons ?_ (al_nil))))))))))))))))))))))))))))))))))))))))))))))
    · intro LL xx ac wc sg hst hwant QQ hgo
      exact op_val hwant hgo hst _ (exec_move rfl ((sg.free 2 (by kernel_rfl)).trans so2)) rfl
    · intro LL xx ac wc sg hst hwant QQ hgo
      have se28 : ac.eval (.tmp 28) = _ := (sg.slot 0 (sg.anc 0 rfl))
      have sg28 := gt_of se28
      (try simp only [nth] at se28 sg28)
      exact op_val hwant hgo hst _ (by simp only [execOp, nth]; go_simp <;> omega) rfl
    · intro LL xx ac wc sg hst hwant QQ hgo
      exact op_val hwant hgo hst _ (exec_move rfl (sg.slot 1 (sg.anc 1 rfl))) rfl
    · intro LL xx ac wc sg hst hwant QQ hgo
      exact op_val hwant hgo hst _ (exec_move rfl ((sg.free 1 (by kernel_rfl)).trans so1)) rfl
    · intro LL xx ac wc sg hst hwant QQ hgo
      have se31 : ac.eval (.tmp 31) = _ := (sg.slot 3 (sg.anc 3 rfl))
      have sg31 := gt_of se31
      (try simp only [nth] at se31 sg31)
      exact op_val hwant hgo hst _ (by simp only [execOp, nth]; go_simp <;> omega) rfl
    · intro LL xx ac wc sg hst hwant QQ hgo
      exact op_val hwant hgo hst (.bool true) (exec_pick (B := true) (U := .bool true) (V := undef) rfl (sg.slot 2 (sg.anc 2 rfl)) (fun _ => (sg.slot 4 (sg.anc 4 rfl))) (fun h => by cases h)) rfl
    · intro LL xx ac wc sg hst hwant QQ hgo
      exact op_val hwant hgo hst _ (exec_move rfl (sg.slot 5 (sg.anc 5 rfl))) rfl
    · intro LL xx ac wc sg hst hwant QQ hgo
      exact op_val hwant hgo hst _ (exec_move rfl ((sg.free 4 (by kernel_rfl)).trans so4)) rfl
    · intro LL xx ac wc sg hst hwant QQ hgo
      have se35 : ac.eval (.tmp 35) = _ := (sg.slot 7 (sg.anc 7 rfl))
      have sg35 := gt_of se35
      (try simp only [nth] at se35 sg35)
      exact op_val hwant hgo hst _ (by simp only [execOp, nth]; go_simp <;> omega) rfl
    · intro LL xx ac wc sg hst hwant QQ hgo
      exact op_val hwant hgo hst (.bool true) (exec_pick (B := true) (U := .bool true) (V := undef) rfl (sg.slot 6 (sg.anc 6 rfl)) (fun _ => (sg.slot 8 (sg.anc 8 rfl))) (fun h => by cases h)) rfl
    · intro LL xx ac wc sg hst hwant QQ hgo
      exact op_val hwant hgo hst _ (exec_move rfl (sg.slot 9 (sg.anc 9 rfl))) rfl
    · intro LL xx ac wc sg hst hwant QQ hgo
      exact op_val hwant hgo hst _ (exec_move rfl ((sg.free 3 (by kernel_rfl)).trans so3)) rfl
    · intro LL xx ac wc sg hst hwant QQ hgo
      have se39 : ac.eval (.tmp 39) = _ := (sg.slot 11 (sg.anc 11 rfl))
      have sg39 := gt_of se39
      (try simp only [nth] at se39 sg39)
      exact op_val hwant hgo hst _ (by simp only [execOp, nth]; go_simp <;> omega) rfl
    · intro LL xx ac wc sg hst hwant QQ hgo
      have se40 : ac.eval (.tmp 40) = _ := (sg.slot 12 (sg.anc 12 rfl))
      have sg40 := gt_of se40
      (try simp only [nth] at se40 sg40)
      exact op_val hwant hgo hst _ (by simp only [execOp, nth]; go_simp <;> omega) rfl
    · intro LL xx ac wc sg hst hwant QQ hgo
      exact op_val hwant hgo hst (.bool true) (exec_pick (B := true) (U := .bool true) (V := undef) rfl (sg.slot 10 (sg.anc 10 rfl)) (fun _ => (sg.slot 13 (sg.anc 13 rfl))) (fun h => by cases h)) rfl
    · intro LL xx ac wc sg hst hwant QQ hgo
      exact op_val hwant hgo hst _ (exec_move rfl (sg.slot 14 (sg.anc 14 rfl))) rfl
    · intro LL xx ac wc sg hst hwant QQ hgo
      exact op_val hwant hgo hst _ (exec_move rfl ((sg.free 3 (by kernel_rfl)).trans so3)) rfl
    · intro LL xx ac wc sg hst hwant QQ hgo
      have se44 : ac.eval (.tmp 44) = _ := (sg.slot 16 (sg.anc 16 rfl))
      have sg44 := gt_of se44
      (try simp only [nth] at se44 sg44)
      refine op_call hwant hgo 21 #[.string (⟨#[128, 0, 0, 0, 1, 3, 0, 0, 0, 0, 0, 0, 0, 0, 0, 0, 0, 0, 0, 0]⟩ : ByteArray)] (by simp only [execOp]; go_simp) (by have h := isAnsC (⟨#[128, 0, 0, 0, 1, 3, 0, 0, 0, 0, 0, 0, 0, 0, 0, 0, 0, 0, 0, 0]⟩ : ByteArray) wc; rw [isA1] at h; exact h) ?_
      rintro er wd ⟨rfl, rfl⟩
      exact ⟨_, (), rfl, fun _ _ => rfl, rfl, hst⟩
    · intro LL xx ac wc sg hst hwant QQ hgo
      exact op_val hwant hgo hst (.bool true) (exec_pick (B := true) (U := .bool true) (V := undef) rfl (sg.slot 15 (sg.anc 15 rfl)) (fun _ => (sg.slot 17 (sg.anc 17 rfl))) (fun h => by cases h)) rfl
    · intro LL xx ac wc sg hst hwant QQ hgo
      exact op_val hwant hgo hst _ (exec_move rfl (sg.slot 18 (sg.anc 18 rfl))) rfl
    · intro LL xx ac wc sg hst hwant QQ hgo
      exact op_val hwant hgo hst _ (exec_move rfl ((sg.free 1 (by kernel_rfl)).trans so1)) rfl
    · intro LL xx ac wc sg hst hwant QQ hgo
      have se48 : ac.eval (.tmp 48) = _ := (sg.slot 20 (sg.anc 20 rfl))
      have sg48 := gt_of se48
      (try simp only [nth] at se48 sg48)
      refine op_call hwant hgo 21 #[.string (⟨#[129, 0, 0, 0, 5, 0]⟩ : ByteArray)] (by simp only [execOp]; go_simp) (by have h := isAnsC (⟨#[129, 0, 0, 0, 5, 0]⟩ : ByteArray) wc; rw [isA5] at h; exact h) ?_
      rintro er wd ⟨rfl, rfl⟩
      exact ⟨_, (), rfl, fun _ _ => rfl, rfl, hst⟩
    · intro LL xx ac wc sg hst hwant QQ hgo
      have se49 : ac.eval (.tmp 49) = _ := (sg.slot 21 (sg.anc 21 rfl))
      have sg49 := gt_of se49
      (try simp only [nth] at se49 sg49)
      exact op_val hwant hgo hst _ (by simp only [execOp, nth]; go_simp <;> omega) rfl
    · intro LL xx ac wc sg hst hwant QQ hgo
      exact op_val hwant hgo hst (.bool true) (exec_pick (B := true) (U := .bool true) (V := undef) rfl (sg.slot 19 (sg.anc 19 rfl)) (fun _ => (sg.slot 22 (sg.anc 22 rfl))) (fun h => by cases h)) rfl
    · intro LL xx ac wc sg hst hwant QQ hgo
      exact op_val hwant hgo hst _ (exec_move rfl (sg.slot 23 (sg.anc 23 rfl))) rfl
    · intro LL xx ac wc sg hst hwant QQ hgo
      exact op_val hwant hgo hst _ (exec_move rfl ((sg.free 6 (by kernel_rfl)).trans so6)) rfl
    · intro LL xx ac wc sg hst hwant QQ hgo
      have se53 : ac.eval (.tmp 53) = _ := (sg.slot 25 (sg.anc 25 rfl))
      have sg53 := gt_of se53
      (try simp only [nth] at se53 sg53)
      exact op_val hwant hgo hst _ (by simp only [execOp, nth]; go_simp <;> omega) rfl
    · intro LL xx ac wc sg hst hwant QQ hgo
      exact op_val hwant hgo hst (.bool true) (exec_pick (B := true) (U := .bool true) (V := undef) rfl (sg.slot 24 (sg.anc 24 rfl)) (fun _ => (sg.slot 26 (sg.anc 26 rfl))) (fun h => by cases h)) rfl
    · intro LL xx ac wc sg hst hwant QQ hgo
      exact op_val hwant hgo hst _ (exec_move rfl (sg.slot 27 (sg.anc 27 rfl))) rfl
    · intro LL xx ac wc sg hst hwant QQ hgo
      have se5 : ac.eval (.tmp 5) = _ := ((sg.free 5 (by kernel_rfl)).trans so5)
      have sg5 := gt_of se5
      exact op_val hwant hgo hst _ (by simp only [execOp, nth]; go_simp <;> omega) rfl
    · intro LL xx ac wc sg hst hwant QQ hgo
      have H := Lib.hid hst
      refine hpA_load tyapi_Change H rfl (sg.slot 29 (sg.anc 29 rfl)) hwant (by (repeat (first | exact List.Mem.head _ | apply List.Mem.tail))) (by rfl) rfl ?_
      exact hgo _ () _ (fun _ _ => rfl) rfl hst
    · intro LL xx ac wc sg hst hwant QQ hgo
      exact op_val hwant hgo hst _ (by simp only [execOp, nth]; go_simp <;> omega) rfl
    · intro LL xx ac wc sg hst hwant QQ hgo
      exact op_val hwant hgo hst (.bool ((decide ((⟨6, (⟨0, 0, 0, 0, 0, 0, 0, 0⟩ : CallV), 1, 2⟩ : ChgV) = (⟨6, (⟨0, 0, 0, 0, 0, 0, 0, 0⟩ : CallV), 1, 2⟩ : ChgV))))) (exec_eql rfl (sg.slot 30 (sg.anc 30 rfl)) (sg.slot 31 (sg.anc 31 rfl)) (by kernel_rfl) (run_eq_chg (⟨6, (⟨0, 0, 0, 0, 0, 0, 0, 0⟩ : CallV), 1, 2⟩ : ChgV) (⟨6, (⟨0, 0, 0, 0, 0, 0, 0, 0⟩ : CallV), 1, 2⟩ : ChgV) wc)) (congrArg Value.bool (by simp [hchg]))
    · intro LL xx ac wc sg hst hwant QQ hgo
      exact op_val hwant hgo hst (.bool true) (exec_pick (B := true) (U := .bool true) (V := undef) rfl (sg.slot 28 (sg.anc 28 rfl)) (fun _ => (sg.slot 32 (sg.anc 32 rfl))) (fun h => by cases h)) rfl
    · intro LL xx ac wc sg hst hwant QQ hgo
      exact op_val hwant hgo hst _ (exec_move rfl (sg.slot 33 (sg.anc 33 rfl))) rfl
    · intro LL xx ac wc sg hst hwant QQ hgo
      exact op_val hwant hgo hst _ (exec_move rfl ((sg.free 8 (by kernel_rfl)).trans so8)) rfl
    · intro LL xx ac wc sg hst hwant QQ hgo
      have se63 : ac.eval (.tmp 63) = _ := (sg.slot 35 (sg.anc 35 rfl))
      have sg63 := gt_of se63
      (try simp only [nth] at se63 sg63)
      exact op_val hwant hgo hst _ (by simp only [execOp, nth]; go_simp <;> omega) rfl
    · intro LL xx ac wc sg hst hwant QQ hgo
      exact op_val hwant hgo hst (.bool true) (exec_pick (B := true) (U := .bool true) (V := undef) rfl (sg.slot 34 (sg.anc 34 rfl)) (fun _ => (sg.slot 36 (sg.anc 36 rfl))) (fun h => by cases h)) rfl
    · intro LL xx ac wc sg hst hwant QQ hgo
      exact op_val hwant hgo hst _ (exec_move rfl (sg.slot 37 (sg.anc 37 rfl))) rfl
    · intro LL xx ac wc sg hst hwant QQ hgo
      exact op_val hwant hgo hst _ (by simp only [execOp, nth]; go_simp <;> omega) rfl
    · intro LL xx ac wc sg hst hwant QQ hgo
      have se67 : ac.eval (.tmp 67) = _ := (sg.slot 39 (sg.anc 39 rfl))
      have sg67 := gt_of se67
      (try simp only [nth] at se67 sg67)
      refine op_call hwant hgo 32 #[.agg #[.int .i64 1, .int .i64 3, .int .i64 0, .int .i64 0, .int .u32 0, .slice none 0 0]] (by simp only [execOp]; go_simp) (by have h := payloadC (⟨1, 3, 0, 0, 0, []⟩ : AnsV) none 0 wc (rS_no wc) (by decide); rw [pay13] at h; exact h) ?_
      rintro er wd ⟨rfl, hof⟩
      exact ⟨_, (), rfl, fun _ _ => rfl, rfl, Hp.quiet hst hof⟩
    · intro LL xx ac wc sg hst hwant QQ hgo
      exact op_val hwant hgo hst _ (exec_move rfl ((sg.free 3 (by kernel_rfl)).trans so3)) rfl
    · intro LL xx ac wc sg hst hwant QQ hgo
      have se69 : ac.eval (.tmp 69) = _ := (sg.slot 41 (sg.anc 41 rfl))
      have sg69 := gt_of se69
      (try simp only [nth] at se69 sg69)
      exact op_val hwant hgo hst _ (by simp only [execOp, nth]; go_simp <;> omega) rfl
    · intro LL xx ac wc sg hst hwant QQ hgo
      exact op_val hwant hgo hst (.bool true) (exec_seq (c := true) rfl (sg.slot 40 (sg.anc 40 rfl)) (sg.slot 42 (sg.anc 42 rfl)) (by first | exact hcut | (rw [ByteArray.toList_eq]; exact hcut) | (simpa [ByteArray.toList_eq] using hcut))) rfl
    · intro LL xx ac wc sg hst hwant QQ hgo
      exact op_val hwant hgo hst (.bool true) (exec_pick (B := true) (U := .bool true) (V := undef) rfl (sg.slot 38 (sg.anc 38 rfl)) (fun _ => (sg.slot 43 (sg.anc 43 rfl))) (fun h => by cases h)) rfl
    · intro LL xx ac wc sg hst hwant QQ hgo
      exact op_val hwant hgo hst _ (exec_assign rfl (sg.slot 44 (sg.anc 44 rfl))) rfl
  · refine skips [3, 4, 7, 8, 11, 12, 13, 16, 17, 20, 21, 22, 25, 26, 29, 30, 31, 32, 35, 36, 39, 40, 41, 42, 43] (by kernel_rfl) ?_
    refine List.forall_mem_cons.2 ⟨?_, List.forall_mem_cons.2 ⟨?_, List.forall_mem_cons.2 ⟨?_, List.forall_mem_cons.2 ⟨?_, List.forall_mem_cons.2 ⟨?_, List.forall_mem_cons.2 ⟨?_, List.forall_mem_cons.2 ⟨?_, List.forall_mem_cons.2 ⟨?_, List.forall_mem_cons.2 ⟨?_, List.forall_mem_cons.2 ⟨?_, List.forall_mem_cons.2 ⟨?_, List.forall_mem_cons.2 ⟨?_, List.forall_mem_cons.2 ⟨?_, List.forall_mem_cons.2 ⟨?_, List.forall_mem_cons.2 ⟨?_, List.forall_mem_cons.2 ⟨?_, List.forall_mem_cons.2 ⟨?_, List.forall_mem_cons.2 ⟨?_, List.forall_mem_cons.2 ⟨?_, List.forall_mem_cons.2 ⟨?_, List.forall_mem_cons.2 ⟨?_, List.forall_mem_cons.2 ⟨?_, List.forall_mem_cons.2 ⟨?_, List.forall_mem_cons.2 ⟨?_, List.forall_mem_cons.2 ⟨?_, fun _ h => by cases h⟩⟩⟩⟩⟩⟩⟩⟩⟩⟩⟩⟩⟩⟩⟩⟩⟩⟩⟩⟩⟩⟩⟩⟩⟩
    · intro oo hop LL xx ac sg hwant
      cases Option.some.inj hop
      exact absurd ((want_t rfl rfl (sg.slot 2 (sg.anc 2 rfl))).symm.trans hwant) (by decide)
    · intro oo hop LL xx ac sg hwant
      cases Option.some.inj hop
      exact absurd ((want_t rfl rfl (sg.slot 2 (sg.anc 2 rfl))).symm.trans hwant) (by decide)
    · intro oo hop LL xx ac sg hwant
      cases Option.some.inj hop
      exact absurd ((want_t rfl rfl (sg.slot 6 (sg.anc 6 rfl))).symm.trans hwant) (by decide)
    · intro oo hop LL xx ac sg hwant
      cases Option.some.inj hop
      exact absurd ((want_t rfl rfl (sg.slot 6 (sg.anc 6 rfl))).symm.trans hwant) (by decide)
    · intro oo hop LL xx ac sg hwant
      cases Option.some.inj hop
      exact absurd ((want_t rfl rfl (sg.slot 10 (sg.anc 10 rfl))).symm.trans hwant) (by decide)
    · intro oo hop LL xx ac sg hwant
      cases Option.some.inj hop
      exact absurd ((want_t rfl rfl (sg.slot 10 (sg.anc 10 rfl))).symm.trans hwant) (by decide)
    · intro oo hop LL xx ac sg hwant
      cases Option.some.inj hop
      exact absurd ((want_t rfl rfl (sg.slot 10 (sg.anc 10 rfl))).symm.trans hwant) (by decide)
    · intro oo hop LL xx ac sg hwant
      cases Option.some.inj hop
      exact absurd ((want_t rfl rfl (sg.slot 15 (sg.anc 15 rfl))).symm.trans hwant) (by decide)
    · intro oo hop LL xx ac sg hwant
      cases Option.some.inj hop
      exact absurd ((want_t rfl rfl (sg.slot 15 (sg.anc 15 rfl))).symm.trans hwant) (by decide)
    · intro oo hop LL xx ac sg hwant
      cases Option.some.inj hop
      exact absurd ((want_t rfl rfl (sg.slot 19 (sg.anc 19 rfl))).symm.trans hwant) (by decide)
    · intro oo hop LL xx ac sg hwant
      cases Option.some.inj hop
      exact absurd ((want_t rfl rfl (sg.slot 19 (sg.anc 19 rfl))).symm.trans hwant) (by decide)
    · intro oo hop LL xx ac sg hwant
      cases Option.some.inj hop
      exact absurd ((want_t rfl rfl (sg.slot 19 (sg.anc 19 rfl))).symm.trans hwant) (by decide)
    · intro oo hop LL xx ac sg hwant
      cases Option.some.inj hop
      exact absurd ((want_t rfl rfl (sg.slot 24 (sg.anc 24 rfl))).symm.trans hwant) (by decide)
    · intro oo hop LL xx ac sg hwant
      cases Option.some.inj hop
      exact absurd ((want_t rfl rfl (sg.slot 24 (sg.anc 24 rfl))).symm.trans hwant) (by decide)
    · intro oo hop LL xx ac sg hwant
      cases Option.some.inj hop
      exact absurd ((want_t rfl rfl (sg.slot 28 (sg.anc 28 rfl))).symm.trans hwant) (by decide)
    · intro oo hop LL xx ac sg hwant
      cases Option.some.inj hop
      exact absurd ((want_t rfl rfl (sg.slot 28 (sg.anc 28 rfl))).symm.trans hwant) (by decide)
    · intro oo hop LL xx ac sg hwant
      cases Option.some.inj hop
      exact absurd ((want_t rfl rfl (sg.slot 28 (sg.anc 28 rfl))).symm.trans hwant) (by decide)
    · intro oo hop LL xx ac sg hwant
      cases Option.some.inj hop
      exact absurd ((want_t rfl rfl (sg.slot 28 (sg.anc 28 rfl))).symm.trans hwant) (by decide)
    · intro oo hop LL xx ac sg hwant
      cases Option.some.inj hop
      exact absurd ((want_t rfl rfl (sg.slot 34 (sg.anc 34 rfl))).symm.trans hwant) (by decide)
    · intro oo hop LL xx ac sg hwant
      cases Option.some.inj hop
      exact absurd ((want_t rfl rfl (sg.slot 34 (sg.anc 34 rfl))).symm.trans hwant) (by decide)
    · intro oo hop LL xx ac sg hwant
      cases Option.some.inj hop
      exact absurd ((want_t rfl rfl (sg.slot 38 (sg.anc 38 rfl))).symm.trans hwant) (by decide)
    · intro oo hop LL xx ac sg hwant
      cases Option.some.inj hop
      exact absurd ((want_t rfl rfl (sg.slot 38 (sg.anc 38 rfl))).symm.trans hwant) (by decide)
    · intro oo hop LL xx ac sg hwant
      cases Option.some.inj hop
      exact absurd ((want_t rfl rfl (sg.slot 38 (sg.anc 38 rfl))).symm.trans hwant) (by decide)
    · intro oo hop LL xx ac sg hwant
      cases Option.some.inj hop
      exact absurd ((want_t rfl rfl (sg.slot 38 (sg.anc 38 rfl))).symm.trans hwant) (by decide)
    · intro oo hop LL xx ac sg hwant
      cases Option.some.inj hop
      exact absurd ((want_t rfl rfl (sg.slot 38 (sg.anc 38 rfl))).symm.trans hwant) (by decide)
  · intro xx ac1 wz hfr hsl hst
    exact hfin ac1 wz (hfr.size.trans hz) hfr.defers (fr_keep hfr [0, 28, 29, 30, 31, 32, 33, 34, 35, 36, 37, 38, 39, 40, 41, 42, 43, 44, 45, 46, 47, 48, 49, 50, 51, 52, 53, 54, 55, 56, 57, 58, 59, 60, 61, 62, 63, 64, 65, 66, 67, 68, 69, 70, 71, 72] (by kernel_rfl)) (hsl 45 (by decide)) (Lib.hid hst)
set_option maxHeartbeats 16000000 in
set_option maxRecDepth 20000 in
theorem awake15  (w : World) : Calls Try.prog 18 #[] w fun e w' => e = .returned (.bool true) ∧ Off [] w w' := by
 have H := Lib.hid (Hp.start [] w)
 refine wStart (args := []) Try.func18 rfl rfl rfl H ?_
 clear H
 show Wk 73 _ _ [] _ _
 have hcut : (([3, 0, 0, 0, 0, 0, 0, 0, 0, 0, 0, 0, 0, 0, 0] : List UInt8) == (((⟨#[128, 0, 0, 0, 1, 3, 0, 0, 0, 0, 0, 0, 0, 0, 0, 0, 0, 0, 0, 0]⟩ : ByteArray).extract 5 (⟨#[128, 0, 0, 0, 1, 3, 0, 0, 0, 0, 0, 0, 0, 0, 0, 0, 0, 0, 0, 0]⟩ : ByteArray).size)).toList) = true := cut13
 have hchg : decide ((⟨6, (⟨0, 0, 0, 0, 0, 0, 0, 0⟩ : CallV), 1, 2⟩ : ChgV) = (⟨6, (⟨0, 0, 0, 0, 0, 0, 0, 0⟩ : CallV), 1, 2⟩ : ChgV)) = true := chg6
 have hsz : (((⟨#[128, 0, 0, 0, 1, 3, 0, 0, 0, 0, 0, 0, 0, 0, 0, 0, 0, 0, 0, 0]⟩ : ByteArray).size : Int) == 20) = true := rfl
 refine wSeqK fun KK1 hK1 => ?_
 refine wReg ?_
 refine p_awake15 rfl ?_
 refine wN ?_
 refine tN (wKK hK1 ?_)
 refine wSeqK fun KK2 hK2 => ?_
 refine wReg ?_
 refine wE (.agg #[.int .i64 5, .int .i64 0, .int .i64 0, .int .i64 0, .int .i64 0, .int .i64 0, .int .i64 0, .int .i64 0, .int .i64 0, .int .i64 0, .int .i64 0, .int .i64 0]) rfl rfl rfl (fun aa ww hs _ => by simp only [execOp]; go_simp <;> omega) ?_
 refine wQ (l := [.agg #[.int .i64 5, .int .i64 0, .int .i64 0, .int .i64 0, .int .i64 0, .int .i64 0, .int .i64 0, .int .i64 0, .int .i64 0, .int .i64 0, .int .i64 0, .int .i64 0]]) Try.func19 rfl (by kernel_rfl) (.tuple #[.string (⟨#[129, 0, 0, 0, 5, 0]⟩ : ByteArray), .int .i64 0]) (fun wc H => by have h := tellC (⟨5, (⟨0, (⟨0, 0, 0, 0, 0, 0, 0, 0⟩ : CallV), 0, 0⟩ : ChgV)⟩ : NoteV) wc; rw [tell5] at h; exact h) rfl rfl rfl rfl ?_
 iterate 5 refine p_awake15 rfl ?_
 refine wN ?_
 refine tN (wKK hK2 ?_)
 refine wSeqK fun KK3 hK3 => ?_
 refine wReg ?_
 refine wE (.agg #[.int .i64 1, .int .i64 3, .int .i64 0, .int .i64 0, .int .u32 0, .slice none 0 0]) rfl rfl rfl (fun aa ww hs _ => by simp only [execOp]; go_simp <;> omega) ?_
 refine wQ (l := [.agg #[.int .i64 1, .int .i64 3, .int .i64 0, .int .i64 0, .int .u32 0, .slice none 0 0]]) Try.func30 rfl (by kernel_rfl) (.tuple #[.string (⟨#[128, 0, 0, 0, 1, 3, 0, 0, 0, 0, 0, 0, 0, 0, 0, 0, 0, 0, 0, 0]⟩ : ByteArray), .int .i64 0]) (fun wc H => by have h := encodeC (⟨1, 3, 0, 0, 0, []⟩ : AnsV) none 0 wc (rS_no wc) (by decide); rw [enc13] at h; exact h) rfl rfl rfl rfl ?_
 iterate 5 refine p_awake15 rfl ?_
 refine wN ?_
 refine tN (wKK hK3 ?_)
 refine wSeqK fun KK4 hK4 => ?_
 refine wReg ?_
 refine wQ (l := [.string (⟨#[129, 0, 0, 0, 6, 2, 1, 2]⟩ : ByteArray)]) Try.func22 rfl (by kernel_rfl) (.tuple #[.agg #[.int .i64 6, .int .i64 6, .int .i64 0, .int .i64 0, .int .i64 0, .int .i64 0, .int .i64 0, .int .i64 0, .int .i64 0, .int .i64 0, .int .i64 1, .int .i64 2], .int .i64 0]) (fun wc H => by have h := toldC (⟨#[129, 0, 0, 0, 6, 2, 1, 2]⟩ : ByteArray) wc; rw [told6] at h; exact h) rfl rfl rfl rfl ?_
 iterate 3 refine p_awake15 rfl ?_
 refine wAl rfl rfl tynote_Notice fun b5 => ?_
 refine wSr rfl tynote_Notice 0 rfl rfl rfl rfl [.int .i64 6, .int .i64 6, .int .i64 0, .int .i64 0, .int .i64 0, .int .i64 0, .int .i64 0, .int .i64 0, .int .i64 0, .int .i64 0, .int .i64 1, .int .i64 2] (by first | rfl | (simp only [spl]; rfl)) ?_
 refine p_awake15 rfl ?_
 refine wN ?_
 refine tN (wKK hK4 ?_)
 refine wSeqK fun KK5 hK5 => ?_
 refine wReg ?_
 refine p_awake15 rfl ?_
 refine wC (l := [.string (⟨#[129, 0, 0, 0, 5, 0]⟩ : ByteArray)]) Try.func33 rfl (by kernel_rfl) (fun wc H => by have h := decodeC (⟨#[129, 0, 0, 0, 5, 0]⟩ : ByteArray) wc; rw [dec5] at h; exact h) rfl rfl rfl rfl ?_
 intro wc H
 rintro er wd ⟨a4_1, c4_1, rfl, hs1, hf1, hof⟩
 have H2 := hp_newS H hof hs1 hf1
 refine ⟨_, rfl, wkAt H2 ?_⟩
 clear H H2 hof
 iterate 3 refine p_awake15 rfl ?_
 refine wAl rfl rfl tynote_Answer fun b7 => ?_
 refine wSr rfl tynote_Answer 0 rfl rfl rfl rfl [.int .i64 0, .int .i64 0, .int .i64 0, .int .i64 0, .int .u32 0, .slice a4_1 (([] : List CallV).length) c4_1] (by first | rfl | (simp only [spl]; rfl)) ?_
 refine p_awake15 rfl ?_
 refine wN ?_
 refine tN (wKK hK5 ?_)
 refine wSeqK fun KK6 hK6 => ?_
 intro aa ww nn dd hs H
 refine awake15_r5 hcut hchg hsz b5 a4_1 c4_1 b7 H aa nn (hs 1 _ rfl) (hs 2 _ rfl) (hs 3 _ rfl) (hs 4 _ rfl) (hs 5 _ rfl) (hs 6 _ rfl) (hs 8 _ rfl) ?_
 intro ab wv nn2 dd2 kp o0 H2
 refine wIn nn2 (dd2.trans dd) (Sat.cons (Sat.cons (Sat.cons (Sat.cons (Sat.cons (Sat.cons (Sat.cons (Sat.cons (sat_nil ab) ((kp 8 rfl).trans (hs 8 _ rfl))) ((kp 6 rfl).trans (hs 6 _ rfl))) ((kp 5 rfl).trans (hs 5 _ rfl))) ((kp 4 rfl).trans (hs 4 _ rfl))) ((kp 3 rfl).trans (hs 3 _ rfl))) ((kp 2 rfl).trans (hs 2 _ rfl))) ((kp 1 rfl).trans (hs 1 _ rfl))) o0) H2 ?_
 clear hs H kp H2 dd dd2 nn nn2 o0
 refine tN (wKK hK6 ?_)
 refine wRet ?_
 exact wR1 rfl rfl (fun ww H => ⟨rfl, H.out.off⟩)
end Go.Proofs.Ytloemjhhedkhiaa.Nt
