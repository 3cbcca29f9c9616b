/- Layer 35: what is fixed by number. -/
import Derived.Test.YthflkhalipkdgaaGreatProg
import Derived.Below
import Derived.WalkKit
import Derived.KernelRfl
import Derived.RowKit3
import Derived.Deep.LoopGhost
import Derived.Deep.QuietTactic
import Derived.BigQuiet
import Derived.WideLaws
import Derived.Deep.DeepCutAuto
import Derived.Deep.CutBlock
import Derived.Lib.Hide
import Derived.Laws.BitsLemmas
import Derived.Laws.Bits64
import Derived.Laws.BitsAllLaws
import Derived.IntWalk
import Derived.Outline
import Derived.WalkSpells
import Derived.Test.YthflkhalipkdgaaGreatGA
import Derived.Test.YthflkhalipkdgaaGreatMn6
namespace Go.Proofs.YthflkhalipkdgaaGreat.Mn
set_option maxRecDepth 20000
open Go.RowKit Go.Proofs.YthflkhalipkdgaaGreat.Mem Go.Proofs.YthflkhalipkdgaaGreat.Reg Go.Proofs.YthflkhalipkdgaaGreat.Wk Go.Proofs.YthflkhalipkdgaaGreat.Si Go.Proofs.YthflkhalipkdgaaGreat.Ca Go.Proofs.YthflkhalipkdgaaGreat.Ms Go.Proofs.YthflkhalipkdgaaGreat.Fr Go.Proofs.YthflkhalipkdgaaGreat.Bld
set_option linter.unusedVariables false
set_option linter.unusedSimpArgs false

theorem evAll_len {s : Nat} {c : Cfg} {n : Int} (hc : (checkV c != 0) = false) (h : 0 ≤ n ∧ n ≤ 16384) : (evAll s c n).length = n.toNat := by
  unfold evAll
  rw [hc, show decide (n < 0) = false from decide_eq_false (by omega), show decide (16384 < n) = false from decide_eq_false (by omega)]
  show ((evsV c s (n.toNat - (hellosV c).length)).take n.toNat).length = n.toNat
  rw [List.length_take, evsV_len]
  omega
theorem small_ok : (checkV smallV != 0) = false := by kernel_rfl
theorem evs7 : ∃ l, (evAll (seedV 7) smallV 30) = ⟨1, 1, ⟨#[]⟩⟩ :: askV 1 [helloV smallV 1 3] :: ⟨1, 2, ⟨#[]⟩⟩ :: l := ⟨_, rfl⟩
def tab_awake35 : Wk.Tab := []
theorem p_awake35 {ops : Array Oper} {rest : List Oper} {o : Oper} {w0 : World} {Q : Exit → Act → World → Prop} {S : List Nat} {R : List Res} {K K' : Wk.Env} {N : Nat} (h : Wk.stp tab_awake35 N ops K o = some K') (n : Wk.Wk N S w0 K' R (wpList Tryz.prog ops Q rest)) : Wk.Wk N S w0 K R (wpList Tryz.prog ops Q (o :: rest)) := Wk.wP (T := tab_awake35) (by kernel_rfl) h n
set_option maxHeartbeats 4000000 in
set_option maxRecDepth 20000 in
theorem awake35_r5 (b1_0 : Nat) (c2_2 : Nat) (b3 : Nat) (b13 : Nat) (b4 : Nat) (y : Addr) (q8 : (decide (askV 1 [(⟨0, 0, 0, 0, 0, 0, (⟨0, 0, 0, 0, 0, 0, 0, 0⟩ : CallV), 0, 0, 0, (⟨0, 0⟩ : FilterV)⟩ : ReqV)] = (⟨0, 0, (⟨#[]⟩ : ByteArray)⟩ : EvV))) = true) (q1 : (((nextN (seedV 1)) : Int) == 1082269761) = true) (q2 : (((belN (seedV 3) 1) : Int) == 0) = true) (q3 : (((evAll (seedV 7) smallV 30).length : Int) == 30) = true) (q4 : ((askV 1 [helloV smallV 1 3]).kind == 2) = true) (q5 : (((helloV smallV 5 1).token) == (tokV 7 5 1)) = true) (q6 : (((askV 2 [(helloV smallV 5 1), (helloV smallV 5 1)]).n) == 2) = true) (q7 : ((((askV 2 [(helloV smallV 5 1), (helloV smallV 5 1)]).data).size : Int) == 40) = true) (hl30 : (evAll (seedV 7) smallV 30).length = 30) (HE0 : Hid (((evAll (seedV 7) smallV 30).map evRow)[0]? = some [.int .i64 1, .int .i64 1, .string (⟨#[]⟩ : ByteArray)])) (HE1 : Hid (((evAll (seedV 7) smallV 30).map evRow)[1]? = some [.int .i64 (askV 1 [helloV smallV 1 3]).kind, .int .i64 (askV 1 [helloV smallV 1 3]).n, .string (askV 1 [helloV smallV 1 3]).data])) (HE2 : Hid (((evAll (seedV 7) smallV 30).map evRow)[2]? = some [.int .i64 1, .int .i64 2, .string (⟨#[]⟩ : ByteArray)])) {wa wb : World} (H : Hid (Hp [] wa wb [rB b4 53 [.int .i64 ((askV 2 [(helloV smallV 5 1), (helloV smallV 5 1)]).kind), .int .i64 ((askV 2 [(helloV smallV 5 1), (helloV smallV 5 1)]).n), .string ((askV 2 [(helloV smallV 5 1), (helloV smallV 5 1)]).data)], rB b13 43 [.int .i64 ((helloV smallV 5 1).kind), .int .i64 ((helloV smallV 5 1).seq), .int .i64 ((helloV smallV 5 1).who), .int .i64 ((helloV smallV 5 1).role), .int .u32 ((helloV smallV 5 1).token), .int .u64 ((helloV smallV 5 1).key), .int .i64 (((helloV smallV 5 1).call).id), .int .i64 (((helloV smallV 5 1).call).kind), .int .i64 (((helloV smallV 5 1).call).src), .int .i64 (((helloV smallV 5 1).call).dst), .int .i64 (((helloV smallV 5 1).call).car), .int .i64 (((helloV smallV 5 1).call).state), .int .i64 (((helloV smallV 5 1).call).owner), .int .i64 (((helloV smallV 5 1).call).born), .int .i64 ((helloV smallV 5 1).id), .int .i64 ((helloV smallV 5 1).car), .int .i64 ((helloV smallV 5 1).mode), .int .i64 (((helloV smallV 5 1).filter).kind), .int .i64 (((helloV smallV 5 1).filter).n), .int .i64 ((helloV smallV 5 1).kind), .int .i64 ((helloV smallV 5 1).seq), .int .i64 ((helloV smallV 5 1).who), .int .i64 ((helloV smallV 5 1).role), .int .u32 ((helloV smallV 5 1).token), .int .u64 ((helloV smallV 5 1).key), .int .i64 (((helloV smallV 5 1).call).id), .int .i64 (((helloV smallV 5 1).call).kind), .int .i64 (((helloV smallV 5 1).call).src), .int .i64 (((helloV smallV 5 1).call).dst), .int .i64 (((helloV smallV 5 1).call).car), .int .i64 (((helloV smallV 5 1).call).state), .int .i64 (((helloV smallV 5 1).call).owner), .int .i64 (((helloV smallV 5 1).call).born), .int .i64 ((helloV smallV 5 1).id), .int .i64 ((helloV smallV 5 1).car), .int .i64 ((helloV smallV 5 1).mode), .int .i64 (((helloV smallV 5 1).filter).kind), .int .i64 (((helloV smallV 5 1).filter).n)], rB b3 43 [.int .i64 ((helloV smallV 5 1).kind), .int .i64 ((helloV smallV 5 1).seq), .int .i64 ((helloV smallV 5 1).who), .int .i64 ((helloV smallV 5 1).role), .int .u32 ((helloV smallV 5 1).token), .int .u64 ((helloV smallV 5 1).key), .int .i64 (((helloV smallV 5 1).call).id), .int .i64 (((helloV smallV 5 1).call).kind), .int .i64 (((helloV smallV 5 1).call).src), .int .i64 (((helloV smallV 5 1).call).dst), .int .i64 (((helloV smallV 5 1).call).car), .int .i64 (((helloV smallV 5 1).call).state), .int .i64 (((helloV smallV 5 1).call).owner), .int .i64 (((helloV smallV 5 1).call).born), .int .i64 ((helloV smallV 5 1).id), .int .i64 ((helloV smallV 5 1).car), .int .i64 ((helloV smallV 5 1).mode), .int .i64 (((helloV smallV 5 1).filter).kind), .int .i64 (((helloV smallV 5 1).filter).n)], rS (some y) c2_2 3 ((evAll (seedV 7) smallV 30).map evRow), rB b1_0 61 [.int .u64 (seedV 1)]])) (ac0 : Act) (hz : ac0.tmps.size = 73) (so1 : ac0.eval (.tmp 1) = .pointer (some ⟨b1_0, 0, none⟩)) (so2 : ac0.eval (.tmp 2) = .slice (some y) ((evAll (seedV 7) smallV 30).length) c2_2) (so3 : ac0.eval (.tmp 3) = .pointer (some ⟨b3, 0, none⟩)) (so4 : ac0.eval (.tmp 4) = .pointer (some ⟨b4, 0, none⟩)) {QR : Exit → Act → World → Prop} (hfin : ∀ (b5_4 : Nat) (b68 : Nat) (ac1 : Act) (wz : World), ac1.tmps.size = 73 → ac1.defers = ac0.defers → (∀ t, ([0, 15, 16, 17, 18, 19, 20, 21, 22, 23, 24, 25, 26, 27, 28, 29, 30, 31, 32, 33, 34, 35, 36, 37, 38, 39, 40, 41, 42, 43, 44, 45, 46, 47, 48, 49, 50, 51, 52, 53, 54, 55, 56, 57, 58, 59, 60, 61, 62, 63, 64, 65, 66, 67, 68, 69, 70, 71, 72] : List Nat).contains t = false → ac1.eval (.tmp t) = ac0.eval (.tmp t)) → ac1.eval (.tmp 0) = .bool true →  Hid (Hp [] wa wz [rB b68 43 [.int .i64 0, .int .i64 0, .int .i64 0, .int .i64 0, .int .u32 0, .int .u64 0, .int .i64 0, .int .i64 0, .int .i64 0, .int .i64 0, .int .i64 0, .int .i64 0, .int .i64 0, .int .i64 0, .int .i64 0, .int .i64 0, .int .i64 0, .int .i64 0, .int .i64 0], rB b5_4 61 [.int .u64 (nextN (seedV 3))], rB b4 53 [.int .i64 ((askV 2 [(helloV smallV 5 1), (helloV smallV 5 1)]).kind), .int .i64 ((askV 2 [(helloV smallV 5 1), (helloV smallV 5 1)]).n), .string ((askV 2 [(helloV smallV 5 1), (helloV smallV 5 1)]).data)], rB b13 43 [.int .i64 ((helloV smallV 5 1).kind), .int .i64 ((helloV smallV 5 1).seq), .int .i64 ((helloV smallV 5 1).who), .int .i64 ((helloV smallV 5 1).role), .int .u32 ((helloV smallV 5 1).token), .int .u64 ((helloV smallV 5 1).key), .int .i64 (((helloV smallV 5 1).call).id), .int .i64 (((helloV smallV 5 1).call).kind), .int .i64 (((helloV smallV 5 1).call).src), .int .i64 (((helloV smallV 5 1).call).dst), .int .i64 (((helloV smallV 5 1).call).car), .int .i64 (((helloV smallV 5 1).call).state), .int .i64 (((helloV smallV 5 1).call).owner), .int .i64 (((helloV smallV 5 1).call).born), .int .i64 ((helloV smallV 5 1).id), .int .i64 ((helloV smallV 5 1).car), .int .i64 ((helloV smallV 5 1).mode), .int .i64 (((helloV smallV 5 1).filter).kind), .int .i64 (((helloV smallV 5 1).filter).n), .int .i64 ((helloV smallV 5 1).kind), .int .i64 ((helloV smallV 5 1).seq), .int .i64 ((helloV smallV 5 1).who), .int .i64 ((helloV smallV 5 1).role), .int .u32 ((helloV smallV 5 1).token), .int .u64 ((helloV smallV 5 1).key), .int .i64 (((helloV smallV 5 1).call).id), .int .i64 (((helloV smallV 5 1).call).kind), .int .i64 (((helloV smallV 5 1).call).src), .int .i64 (((helloV smallV 5 1).call).dst), .int .i64 (((helloV smallV 5 1).call).car), .int .i64 (((helloV smallV 5 1).call).state), .int .i64 (((helloV smallV 5 1).call).owner), .int .i64 (((helloV smallV 5 1).call).born), .int .i64 ((helloV smallV 5 1).id), .int .i64 ((helloV smallV 5 1).car), .int .i64 ((helloV smallV 5 1).mode), .int .i64 (((helloV smallV 5 1).filter).kind), .int .i64 (((helloV smallV 5 1).filter).n)], rB b3 43 [.int .i64 ((helloV smallV 5 1).kind), .int .i64 ((helloV smallV 5 1).seq), .int .i64 ((helloV smallV 5 1).who), .int .i64 ((helloV smallV 5 1).role), .int .u32 ((helloV smallV 5 1).token), .int .u64 ((helloV smallV 5 1).key), .int .i64 (((helloV smallV 5 1).call).id), .int .i64 (((helloV smallV 5 1).call).kind), .int .i64 (((helloV smallV 5 1).call).src), .int .i64 (((helloV smallV 5 1).call).dst), .int .i64 (((helloV smallV 5 1).call).car), .int .i64 (((helloV smallV 5 1).call).state), .int .i64 (((helloV smallV 5 1).call).owner), .int .i64 (((helloV smallV 5 1).call).born), .int .i64 ((helloV smallV 5 1).id), .int .i64 ((helloV smallV 5 1).car), .int .i64 ((helloV smallV 5 1).mode), .int .i64 (((helloV smallV 5 1).filter).kind), .int .i64 (((helloV smallV 5 1).filter).n)], rS (some y) c2_2 3 ((evAll (seedV 7) smallV 30).map evRow), rB b1_0 61 [.int .u64 (nextN (seedV 1))]]) → QR .normal ac1 wz) : (regAt Tryz.f5 5).wp Tryz.prog QR ac0 wb := by
  refine wp_region_st mixedP ⟨[0, 1, 2, 3, 4, 5, 6, 7, 8, 9, 10, 11, 12, 13, 14, 15, 16, 14, 17, 18, 19, 20, 21, 22, 23, 24, 25, 26, 27, 28, 29, 30, 31, 32, 33, 34, 35, 34, 36, 37, 38, 39, 40, 41, 42, 43, 44, 45, 46, 47, 48, 49, 50, 51, 52, 50, 53, 54, 55], by kernel_rfl⟩ [[], [0], [0, 1], [0, 1, 2], [0, 1, 2, 3], [0, 1, 2, 3, 4], [0, 1, 2, 3, 4, 5], [0, 1, 2, 3, 4, 5, 6], [0, 1, 2, 3, 4, 5, 6, 7], [0, 1, 2, 3, 4, 5, 6, 7, 8], [0, 1, 2, 3, 4, 5, 6, 7, 8, 9], [0, 1, 2, 3, 4, 5, 6, 7, 8, 9, 10], [0, 1, 2, 3, 4, 5, 6, 7, 8, 9, 10, 11], [0, 1, 2, 3, 4, 5, 6, 7, 8, 9, 10, 11, 12], [0, 1, 2, 3, 4, 5, 6, 7, 8, 9, 10, 11, 12, 13], [0, 1, 2, 3, 4, 5, 6, 7, 8, 9, 10, 11, 12, 13, 14], [0, 1, 2, 3, 4, 5, 6, 7, 8, 9, 10, 11, 12, 13, 14, 15], [0, 1, 2, 3, 4, 5, 6, 7, 8, 9, 10, 11, 12, 13], [0, 1, 2, 3, 4, 5, 6, 7, 8, 9, 10, 11, 12, 13, 14, 15, 16, 17], [0, 1, 2, 3, 4, 5, 6, 7, 8, 9, 10, 11, 12, 13, 14, 15, 16, 17, 18], [0, 1, 2, 3, 4, 5, 6, 7, 8, 9, 10, 11, 12, 13, 14, 15, 16, 17, 18, 19], [0, 1, 2, 3, 4, 5, 6, 7, 8, 9, 10, 11, 12, 13, 14, 15, 16, 17, 18, 19, 20], [0, 1, 2, 3, 4, 5, 6, 7, 8, 9, 10, 11, 12, 13, 14, 15, 16, 17, 18, 19, 20, 21], [0, 1, 2, 3, 4, 5, 6, 7, 8, 9, 10, 11, 12, 13, 14, 15, 16, 17, 18, 19, 20, 21, 22], [0, 1, 2, 3, 4, 5, 6, 7, 8, 9, 10, 11, 12, 13, 14, 15, 16, 17, 18, 19, 20, 21, 22, 23], [0, 1, 2, 3, 4, 5, 6, 7, 8, 9, 10, 11, 12, 13, 14, 15, 16, 17, 18, 19, 20, 21, 22, 23, 24], [0, 1, 2, 3, 4, 5, 6, 7, 8, 9, 10, 11, 12, 13, 14, 15, 16, 17, 18, 19, 20, 21, 22, 23, 24, 25], [0, 1, 2, 3, 4, 5, 6, 7, 8, 9, 10, 11, 12, 13, 14, 15, 16, 17, 18, 19, 20, 21, 22, 23, 24, 25, 26], [0, 1, 2, 3, 4, 5, 6, 7, 8, 9, 10, 11, 12, 13, 14, 15, 16, 17, 18, 19, 20, 21, 22, 23, 24, 25, 26, 27], [0, 1, 2, 3, 4, 5, 6, 7, 8, 9, 10, 11, 12, 13, 14, 15, 16, 17, 18, 19, 20, 21, 22, 23, 24, 25, 26, 27, 28], [0, 1, 2, 3, 4, 5, 6, 7, 8, 9, 10, 11, 12, 13, 14, 15, 16, 17, 18, 19, 20, 21, 22, 23, 24, 25, 26, 27, 28, 29], [0, 1, 2, 3, 4, 5, 6, 7, 8, 9, 10, 11, 12, 13, 14, 15, 16, 17, 18, 19, 20, 21, 22, 23, 24, 25, 26, 27, 28, 29, 30], [0, 1, 2, 3, 4, 5, 6, 7, 8, 9, 10, 11, 12, 13, 14, 15, 16, 17, 18, 19, 20, 21, 22, 23, 24, 25, 26, 27, 28, 29, 30, 31], [0, 1, 2, 3, 4, 5, 6, 7, 8, 9, 10, 11, 12, 13, 14, 15, 16, 17, 18, 19, 20, 21, 22, 23, 24, 25, 26, 27, 28, 29, 30, 31, 32], [0, 1, 2, 3, 4, 5, 6, 7, 8, 9, 10, 11, 12, 13, 14, 15, 16, 17, 18, 19, 20, 21, 22, 23, 24, 25, 26, 27, 28, 29, 30, 31, 32, 33], [0, 1, 2, 3, 4, 5, 6, 7, 8, 9, 10, 11, 12, 13, 14, 15, 16, 17, 18, 19, 20, 21, 22, 23, 24, 25, 26, 27, 28, 29, 30, 31, 32, 33, 34], [0, 1, 2, 3, 4, 5, 6, 7, 8, 9, 10, 11, 12, 13, 14, 15, 16, 17, 18, 19, 20, 21, 22, 23, 24, 25, 26, 27, 28, 29, 30, 31, 32, 33, 34, 35], [0, 1, 2, 3, 4, 5, 6, 7, 8, 9, 10, 11, 12, 13, 14, 15, 16, 17, 18, 19, 20, 21, 22, 23, 24, 25, 26, 27, 28, 29, 30, 31, 32, 33, 34], [0, 1, 2, 3, 4, 5, 6, 7, 8, 9, 10, 11, 12, 13, 14, 15, 16, 17, 18, 19, 20, 21, 22, 23, 24, 25, 26, 27, 28, 29, 30, 31, 32, 33, 34, 35, 36, 37], [0, 1, 2, 3, 4, 5, 6, 7, 8, 9, 10, 11, 12, 13, 14, 15, 16, 17, 18, 19, 20, 21, 22, 23, 24, 25, 26, 27, 28, 29, 30, 31, 32, 33, 34, 35, 36, 37, 38], [0, 1, 2, 3, 4, 5, 6, 7, 8, 9, 10, 11, 12, 13, 14, 15, 16, 17, 18, 19, 20, 21, 22, 23, 24, 25, 26, 27, 28, 29, 30, 31, 32, 33, 34, 35, 36, 37, 38, 39], [0, 1, 2, 3, 4, 5, 6, 7, 8, 9, 10, 11, 12, 13, 14, 15, 16, 17, 18, 19, 20, 21, 22, 23, 24, 25, 26, 27, 28, 29, 30, 31, 32, 33, 34, 35, 36, 37, 38, 39, 40], [0, 1, 2, 3, 4, 5, 6, 7, 8, 9, 10, 11, 12, 13, 14, 15, 16, 17, 18, 19, 20, 21, 22, 23, 24, 25, 26, 27, 28, 29, 30, 31, 32, 33, 34, 35, 36, 37, 38, 39, 40, 41], [0, 1, 2, 3, 4, 5, 6, 7, 8, 9, 10, 11, 12, 13, 14, 15, 16, 17, 18, 19, 20, 21, 22, 23, 24, 25, 26, 27, 28, 29, 30, 31, 32, 33, 34, 35, 36, 37, 38, 39, 40, 41, 42], [0, 1, 2, 3, 4, 5, 6, 7, 8, 9, 10, 11, 12, 13, 14, 15, 16, 17, 18, 19, 20, 21, 22, 23, 24, 25, 26, 27, 28, 29, 30, 31, 32, 33, 34, 35, 36, 37, 38, 39, 40, 41, 42, 43], [0, 1, 2, 3, 4, 5, 6, 7, 8, 9, 10, 11, 12, 13, 14, 15, 16, 17, 18, 19, 20, 21, 22, 23, 24, 25, 26, 27, 28, 29, 30, 31, 32, 33, 34, 35, 36, 37, 38, 39, 40, 41, 42, 43, 44], [0, 1, 2, 3, 4, 5, 6, 7, 8, 9, 10, 11, 12, 13, 14, 15, 16, 17, 18, 19, 20, 21, 22, 23, 24, 25, 26, 27, 28, 29, 30, 31, 32, 33, 34, 35, 36, 37, 38, 39, 40, 41, 42, 43, 44, 45], [0, 1, 2, 3, 4, 5, 6, 7, 8, 9, 10, 11, 12, 13, 14, 15, 16, 17, 18, 19, 20, 21, 22, 23, 24, 25, 26, 27, 28, 29, 30, 31, 32, 33, 34, 35, 36, 37, 38, 39, 40, 41, 42, 43, 44, 45, 46], [0, 1, 2, 3, 4, 5, 6, 7, 8, 9, 10, 11, 12, 13, 14, 15, 16, 17, 18, 19, 20, 21, 22, 23, 24, 25, 26, 27, 28, 29, 30, 31, 32, 33, 34, 35, 36, 37, 38, 39, 40, 41, 42, 43, 44, 45, 46, 47], [0, 1, 2, 3, 4, 5, 6, 7, 8, 9, 10, 11, 12, 13, 14, 15, 16, 17, 18, 19, 20, 21, 22, 23, 24, 25, 26, 27, 28, 29, 30, 31, 32, 33, 34, 35, 36, 37, 38, 39, 40, 41, 42, 43, 44, 45, 46, 47, 48], [0, 1, 2, 3, 4, 5, 6, 7, 8, 9, 10, 11, 12, 13, 14, 15, 16, 17, 18, 19, 20, 21, 22, 23, 24, 25, 26, 27, 28, 29, 30, 31, 32, 33, 34, 35, 36, 37, 38, 39, 40, 41, 42, 43, 44, 45, 46, 47, 48, 49], [0, 1, 2, 3, 4, 5, 6, 7, 8, 9, 10, 11, 12, 13, 14, 15, 16, 17, 18, 19, 20, 21, 22, 23, 24, 25, 26, 27, 28, 29, 30, 31, 32, 33, 34, 35, 36, 37, 38, 39, 40, 41, 42, 43, 44, 45, 46, 47, 48, 49, 50], [0, 1, 2, 3, 4, 5, 6, 7, 8, 9, 10, 11, 12, 13, 14, 15, 16, 17, 18, 19, 20, 21, 22, 23, 24, 25, 26, 27, 28, 29, 30, 31, 32, 33, 34, 35, 36, 37, 38, 39, 40, 41, 42, 43, 44, 45, 46, 47, 48, 49, 50, 51], [0, 1, 2, 3, 4, 5, 6, 7, 8, 9, 10, 11, 12, 13, 14, 15, 16, 17, 18, 19, 20, 21, 22, 23, 24, 25, 26, 27, 28, 29, 30, 31, 32, 33, 34, 35, 36, 37, 38, 39, 40, 41, 42, 43, 44, 45, 46, 47, 48, 49, 50, 51, 52], [0, 1, 2, 3, 4, 5, 6, 7, 8, 9, 10, 11, 12, 13, 14, 15, 16, 17, 18, 19, 20, 21, 22, 23, 24, 25, 26, 27, 28, 29, 30, 31, 32, 33, 34, 35, 36, 37, 38, 39, 40, 41, 42, 43, 44, 45, 46, 47, 48, 49, 50, 51, 52, 53], [0, 1, 2, 3, 4, 5, 6, 7, 8, 9, 10, 11, 12, 13, 14, 15, 16, 17, 18, 19, 20, 21, 22, 23, 24, 25, 26, 27, 28, 29, 30, 31, 32, 33, 34, 35, 36, 37, 38, 39, 40, 41, 42, 43, 44, 45, 46, 47, 48, 49, 50, 51], [0, 1, 2, 3, 4, 5, 6, 7, 8, 9, 10, 11, 12, 13, 14, 15, 16, 17, 18, 19, 20, 21, 22, 23, 24, 25, 26, 27, 28, 29, 30, 31, 32, 33, 34, 35, 36, 37, 38, 39, 40, 41, 42, 43, 44, 45, 46, 47, 48, 49, 50, 51, 52, 53, 54, 55], [0, 1, 2, 3, 4, 5, 6, 7, 8, 9, 10, 11, 12, 13, 14, 15, 16, 17, 18, 19, 20, 21, 22, 23, 24, 25, 26, 27, 28, 29, 30, 31, 32, 33, 34, 35, 36, 37, 38, 39, 40, 41, 42, 43, 44, 45, 46, 47, 48, 49, 50, 51, 52, 53, 54, 55, 56], [0, 1, 2, 3, 4, 5, 6, 7, 8, 9, 10, 11, 12, 13, 14, 15, 16, 17, 18, 19, 20, 21, 22, 23, 24, 25, 26, 27, 28, 29, 30, 31, 32, 33, 34, 35, 36, 37, 38, 39, 40, 41, 42, 43, 44, 45, 46, 47, 48, 49, 50, 51, 52, 53, 54, 55, 56, 57]] (by kernel_rfl) (by kernel_rfl) 73 hz (by kernel_rfl) (fun (xx : Nat × Nat) jx => match xx with | (b5_4, b68) => nth [.pointer (some ⟨b1_0, 0, none⟩), .int .u64 (nextN (seedV 1)), .bool true, .bool true, .pointer (some ⟨b5_4, 0, none⟩), .int .i64 (belN (seedV 3) 1), .bool true, .bool true, .bool true, .slice (some y) ((evAll (seedV 7) smallV 30).length) c2_2, .int .i64 ((evAll (seedV 7) smallV 30).length), .bool true, .bool true, .bool true, .slice (some y) ((evAll (seedV 7) smallV 30).length) c2_2, .pointer (some (y.add (0 * 3))), .agg #[.int .i64 1, .int .i64 1, .string (⟨#[]⟩ : ByteArray)], .agg #[.int .i64 1, .int .i64 1, .string (⟨#[]⟩ : ByteArray)], .bool true, .bool true, .bool true, .slice (some y) ((evAll (seedV 7) smallV 30).length) c2_2, .pointer (some (y.add (1 * 3))), .pointer (some (y.add (1 * 3))), .int .i64 ((askV 1 [helloV smallV 1 3]).kind), .bool true, .bool true, .bool true, .slice (some y) ((evAll (seedV 7) smallV 30).length) c2_2, .pointer (some (y.add (2 * 3))), .pointer (some ⟨(y.add (2 * 3)).block, (y.add (2 * 3)).off + 1, none⟩), .int .i64 2, .bool true, .bool true, .bool true, .pointer (some ⟨b3, 4, none⟩), .int .u32 ((helloV smallV 5 1).token), .int .u32 (tokV 7 5 1), .bool true, .bool true, .bool true, .pointer (some ⟨b4, 1, none⟩), .int .i64 ((askV 2 [(helloV smallV 5 1), (helloV smallV 5 1)]).n), .bool true, .bool true, .bool true, .pointer (some ⟨b4, 2, none⟩), .string ((askV 2 [(helloV smallV 5 1), (helloV smallV 5 1)]).data), .int .i64 (((askV 2 [(helloV smallV 5 1), (helloV smallV 5 1)]).data).size), .bool true, .bool true, .bool true, .agg #[.int .i64 0, .int .i64 0, .int .i64 0, .int .i64 0, .int .u32 0, .int .u64 0, .int .i64 0, .int .i64 0, .int .i64 0, .int .i64 0, .int .i64 0, .int .i64 0, .int .i64 0, .int .i64 0, .int .i64 0, .int .i64 0, .int .i64 0, .int .i64 0, .int .i64 0], .slice (some ⟨b68, 0, none⟩) 1 1, .agg #[.int .i64 ((askV 1 [(⟨0, 0, 0, 0, 0, 0, (⟨0, 0, 0, 0, 0, 0, 0, 0⟩ : CallV), 0, 0, 0, (⟨0, 0⟩ : FilterV)⟩ : ReqV)]).kind), .int .i64 ((askV 1 [(⟨0, 0, 0, 0, 0, 0, (⟨0, 0, 0, 0, 0, 0, 0, 0⟩ : CallV), 0, 0, 0, (⟨0, 0⟩ : FilterV)⟩ : ReqV)]).n), .string ((askV 1 [(⟨0, 0, 0, 0, 0, 0, (⟨0, 0, 0, 0, 0, 0, 0, 0⟩ : CallV), 0, 0, 0, (⟨0, 0⟩ : FilterV)⟩ : ReqV)]).data)], .agg #[.int .i64 0, .int .i64 0, .string (⟨#[]⟩ : ByteArray)], .bool true, .bool true, .bool true] jx) (fun (LL : Nat → Bool) (xx : Nat × Nat) ww => match xx with | (b5_4, b68) => Hp [] wa ww (bif LL 1 then (bif LL 4 then (bif LL 5 then (bif LL 53 then [rB b68 43 [.int .i64 0, .int .i64 0, .int .i64 0, .int .i64 0, .int .u32 0, .int .u64 0, .int .i64 0, .int .i64 0, .int .i64 0, .int .i64 0, .int .i64 0, .int .i64 0, .int .i64 0, .int .i64 0, .int .i64 0, .int .i64 0, .int .i64 0, .int .i64 0, .int .i64 0], rB b5_4 61 [.int .u64 (nextN (seedV 3))], rB b4 53 [.int .i64 ((askV 2 [(helloV smallV 5 1), (helloV smallV 5 1)]).kind), .int .i64 ((askV 2 [(helloV smallV 5 1), (helloV smallV 5 1)]).n), .string ((askV 2 [(helloV smallV 5 1), (helloV smallV 5 1)]).data)], rB b13 43 [.int .i64 ((helloV smallV 5 1).kind), .int .i64 ((helloV smallV 5 1).seq), .int .i64 ((helloV smallV 5 1).who), .int .i64 ((helloV smallV 5 1).role), .int .u32 ((helloV smallV 5 1).token), .int .u64 ((helloV smallV 5 1).key), .int .i64 (((helloV smallV 5 1).call).id), .int .i64 (((helloV smallV 5 1).call).kind), .int .i64 (((helloV smallV 5 1).call).src), .int .i64 (((helloV smallV 5 1).call).dst), .int .i64 (((helloV smallV 5 1).call).car), .int .i64 (((helloV smallV 5 1).call).state), .int .i64 (((helloV smallV 5 1).call).owner), .int .i64 (((helloV smallV 5 1).call).born), .int .i64 ((helloV smallV 5 1).id), .int .i64 ((helloV smallV 5 1).car), .int .i64 ((helloV smallV 5 1).mode), .int .i64 (((helloV smallV 5 1).filter).kind), .int .i64 (((helloV smallV 5 1).filter).n), .int .i64 ((helloV smallV 5 1).kind), .int .i64 ((helloV smallV 5 1).seq), .int .i64 ((helloV smallV 5 1).who), .int .i64 ((helloV smallV 5 1).role), .int .u32 ((helloV smallV 5 1).token), .int .u64 ((helloV smallV 5 1).key), .int .i64 (((helloV smallV 5 1).call).id), .int .i64 (((helloV smallV 5 1).call).kind), .int .i64 (((helloV smallV 5 1).call).src), .int .i64 (((helloV smallV 5 1).call).dst), .int .i64 (((helloV smallV 5 1).call).car), .int .i64 (((helloV smallV 5 1).call).state), .int .i64 (((helloV smallV 5 1).call).owner), .int .i64 (((helloV smallV 5 1).call).born), .int .i64 ((helloV smallV 5 1).id), .int .i64 ((helloV smallV 5 1).car), .int .i64 ((helloV smallV 5 1).mode), .int .i64 (((helloV smallV 5 1).filter).kind), .int .i64 (((helloV smallV 5 1).filter).n)], rB b3 43 [.int .i64 ((helloV smallV 5 1).kind), .int .i64 ((helloV smallV 5 1).seq), .int .i64 ((helloV smallV 5 1).who), .int .i64 ((helloV smallV 5 1).role), .int .u32 ((helloV smallV 5 1).token), .int .u64 ((helloV smallV 5 1).key), .int .i64 (((helloV smallV 5 1).call).id), .int .i64 (((helloV smallV 5 1).call).kind), .int .i64 (((helloV smallV 5 1).call).src), .int .i64 (((helloV smallV 5 1).call).dst), .int .i64 (((helloV smallV 5 1).call).car), .int .i64 (((helloV smallV 5 1).call).state), .int .i64 (((helloV smallV 5 1).call).owner), .int .i64 (((helloV smallV 5 1).call).born), .int .i64 ((helloV smallV 5 1).id), .int .i64 ((helloV smallV 5 1).car), .int .i64 ((helloV smallV 5 1).mode), .int .i64 (((helloV smallV 5 1).filter).kind), .int .i64 (((helloV smallV 5 1).filter).n)], rS (some y) c2_2 3 ((evAll (seedV 7) smallV 30).map evRow), rB b1_0 61 [.int .u64 (nextN (seedV 1))]] else [rB b5_4 61 [.int .u64 (nextN (seedV 3))], rB b4 53 [.int .i64 ((askV 2 [(helloV smallV 5 1), (helloV smallV 5 1)]).kind), .int .i64 ((askV 2 [(helloV smallV 5 1), (helloV smallV 5 1)]).n), .string ((askV 2 [(helloV smallV 5 1), (helloV smallV 5 1)]).data)], rB b13 43 [.int .i64 ((helloV smallV 5 1).kind), .int .i64 ((helloV smallV 5 1).seq), .int .i64 ((helloV smallV 5 1).who), .int .i64 ((helloV smallV 5 1).role), .int .u32 ((helloV smallV 5 1).token), .int .u64 ((helloV smallV 5 1).key), .int .i64 (((helloV smallV 5 1).call).id), .int .i64 (((helloV smallV 5 1).call).kind), .int .i64 (((helloV smallV 5 1).call).src), .int .i64 (((helloV smallV 5 1).call).dst), .int .i64 (((helloV smallV 5 1).call).car), .int .i64 (((helloV smallV 5 1).call).state), .int .i64 (((helloV smallV 5 1).call).owner), .int .i64 (((helloV smallV 5 1).call).born), .int .i64 ((helloV smallV 5 1).id), .int .i64 ((helloV smallV 5 1).car), .int .i64 ((helloV smallV 5 1).mode), .int .i64 (((helloV smallV 5 1).filter).kind), .int .i64 (((helloV smallV 5 1).filter).n), .int .i64 ((helloV smallV 5 1).kind), .int .i64 ((helloV smallV 5 1).seq), .int .i64 ((helloV smallV 5 1).who), .int .i64 ((helloV smallV 5 1).role), .int .u32 ((helloV smallV 5 1).token), .int .u64 ((helloV smallV 5 1).key), .int .i64 (((helloV smallV 5 1).call).id), .int .i64 (((helloV smallV 5 1).call).kind), .int .i64 (((helloV smallV 5 1).call).src), .int .i64 (((helloV smallV 5 1).call).dst), .int .i64 (((helloV smallV 5 1).call).car), .int .i64 (((helloV smallV 5 1).call).state), .int .i64 (((helloV smallV 5 1).call).owner), .int .i64 (((helloV smallV 5 1).call).born), .int .i64 ((helloV smallV 5 1).id), .int .i64 ((helloV smallV 5 1).car), .int .i64 ((helloV smallV 5 1).mode), .int .i64 (((helloV smallV 5 1).filter).kind), .int .i64 (((helloV smallV 5 1).filter).n)], rB b3 43 [.int .i64 ((helloV smallV 5 1).kind), .int .i64 ((helloV smallV 5 1).seq), .int .i64 ((helloV smallV 5 1).who), .int .i64 ((helloV smallV 5 1).role), .int .u32 ((helloV smallV 5 1).token), .int .u64 ((helloV smallV 5 1).key), .int .i64 (((helloV smallV 5 1).call).id), .int .i64 (((helloV smallV 5 1).call).kind), .int .i64 (((helloV smallV 5 1).call).src), .int .i64 (((helloV smallV 5 1).call).dst), .int .i64 (((helloV smallV 5 1).call).car), .int .i64 (((helloV smallV 5 1).call).state), .int .i64 (((helloV smallV 5 1).call).owner), .int .i64 (((helloV smallV 5 1).call).born), .int .i64 ((helloV smallV 5 1).id), .int .i64 ((helloV smallV 5 1).car), .int .i64 ((helloV smallV 5 1).mode), .int .i64 (((helloV smallV 5 1).filter).kind), .int .i64 (((helloV smallV 5 1).filter).n)], rS (some y) c2_2 3 ((evAll (seedV 7) smallV 30).map evRow), rB b1_0 61 [.int .u64 (nextN (seedV 1))]]) else [rB b5_4 61 [.int .u64 (seedV 3)], rB b4 53 [.int .i64 ((askV 2 [(helloV smallV 5 1), (helloV smallV 5 1)]).kind), .int .i64 ((askV 2 [(helloV smallV 5 1), (helloV smallV 5 1)]).n), .string ((askV 2 [(helloV smallV 5 1), (helloV smallV 5 1)]).data)], rB b13 43 [.int .i64 ((helloV smallV 5 1).kind), .int .i64 ((helloV smallV 5 1).seq), .int .i64 ((helloV smallV 5 1).who), .int .i64 ((helloV smallV 5 1).role), .int .u32 ((helloV smallV 5 1).token), .int .u64 ((helloV smallV 5 1).key), .int .i64 (((helloV smallV 5 1).call).id), .int .i64 (((helloV smallV 5 1).call).kind), .int .i64 (((helloV smallV 5 1).call).src), .int .i64 (((helloV smallV 5 1).call).dst), .int .i64 (((helloV smallV 5 1).call).car), .int .i64 (((helloV smallV 5 1).call).state), .int .i64 (((helloV smallV 5 1).call).owner), .int .i64 (((helloV smallV 5 1).call).born), .int .i64 ((helloV smallV 5 1).id), .int .i64 ((helloV smallV 5 1).car), .int .i64 ((helloV smallV 5 1).mode), .int .i64 (((helloV smallV 5 1).filter).kind), .int .i64 (((helloV smallV 5 1).filter).n), .int .i64 ((helloV smallV 5 1).kind), .int .i64 ((helloV smallV 5 1).seq), .int .i64 ((helloV smallV 5 1).who), .int .i64 ((helloV smallV 5 1).role), .int .u32 ((helloV smallV 5 1).token), .int .u64 ((helloV smallV 5 1).key), .int .i64 (((helloV smallV 5 1).call).id), .int .i64 (((helloV smallV 5 1).call).kind), .int .i64 (((helloV smallV 5 1).call).src), .int .i64 (((helloV smallV 5 1).call).dst), .int .i64 (((helloV smallV 5 1).call).car), .int .i64 (((helloV smallV 5 1).call).state), .int .i64 (((helloV smallV 5 1).call).owner), .int .i64 (((helloV smallV 5 1).call).born), .int .i64 ((helloV smallV 5 1).id), .int .i64 ((helloV smallV 5 1).car), .int .i64 ((helloV smallV 5 1).mode), .int .i64 (((helloV smallV 5 1).filter).kind), .int .i64 (((helloV smallV 5 1).filter).n)], rB b3 43 [.int .i64 ((helloV smallV 5 1).kind), .int .i64 ((helloV smallV 5 1).seq), .int .i64 ((helloV smallV 5 1).who), .int .i64 ((helloV smallV 5 1).role), .int .u32 ((helloV smallV 5 1).token), .int .u64 ((helloV smallV 5 1).key), .int .i64 (((helloV smallV 5 1).call).id), .int .i64 (((helloV smallV 5 1).call).kind), .int .i64 (((helloV smallV 5 1).call).src), .int .i64 (((helloV smallV 5 1).call).dst), .int .i64 (((helloV smallV 5 1).call).car), .int .i64 (((helloV smallV 5 1).call).state), .int .i64 (((helloV smallV 5 1).call).owner), .int .i64 (((helloV smallV 5 1).call).born), .int .i64 ((helloV smallV 5 1).id), .int .i64 ((helloV smallV 5 1).car), .int .i64 ((helloV smallV 5 1).mode), .int .i64 (((helloV smallV 5 1).filter).kind), .int .i64 (((helloV smallV 5 1).filter).n)], rS (some y) c2_2 3 ((evAll (seedV 7) smallV 30).map evRow), rB b1_0 61 [.int .u64 (nextN (seedV 1))]]) else [rB b4 53 [.int .i64 ((askV 2 [(helloV smallV 5 1), (helloV smallV 5 1)]).kind), .int .i64 ((askV 2 [(helloV smallV 5 1), (helloV smallV 5 1)]).n), .string ((askV 2 [(helloV smallV 5 1), (helloV smallV 5 1)]).data)], rB b13 43 [.int .i64 ((helloV smallV 5 1).kind), .int .i64 ((helloV smallV 5 1).seq), .int .i64 ((helloV smallV 5 1).who), .int .i64 ((helloV smallV 5 1).role), .int .u32 ((helloV smallV 5 1).token), .int .u64 ((helloV smallV 5 1).key), .int .i64 (((helloV smallV 5 1).call).id), .int .i64 (((helloV smallV 5 1).call).kind), .int .i64 (((helloV smallV 5 1).call).src), .int .i64 (((helloV smallV 5 1).call).dst), .int .i64 (((helloV smallV 5 1).call).car), .int .i64 (((helloV smallV 5 1).call).state), .int .i64 (((helloV smallV 5 1).call).owner), .int .i64 (((helloV smallV 5 1).call).born), .int .i64 ((helloV smallV 5 1).id), .int .i64 ((helloV smallV 5 1).car), .int .i64 ((helloV smallV 5 1).mode), .int .i64 (((helloV smallV 5 1).filter).kind), .int .i64 (((helloV smallV 5 1).filter).n), .int .i64 ((helloV smallV 5 1).kind), .int .i64 ((helloV smallV 5 1).seq), .int .i64 ((helloV smallV 5 1).who), .int .i64 ((helloV smallV 5 1).role), .int .u32 ((helloV smallV 5 1).token), .int .u64 ((helloV smallV 5 1).key), .int .i64 (((helloV smallV 5 1).call).id), .int .i64 (((helloV smallV 5 1).call).kind), .int .i64 (((helloV smallV 5 1).call).src), .int .i64 (((helloV smallV 5 1).call).dst), .int .i64 (((helloV smallV 5 1).call).car), .int .i64 (((helloV smallV 5 1).call).state), .int .i64 (((helloV smallV 5 1).call).owner), .int .i64 (((helloV smallV 5 1).call).born), .int .i64 ((helloV smallV 5 1).id), .int .i64 ((helloV smallV 5 1).car), .int .i64 ((helloV smallV 5 1).mode), .int .i64 (((helloV smallV 5 1).filter).kind), .int .i64 (((helloV smallV 5 1).filter).n)], rB b3 43 [.int .i64 ((helloV smallV 5 1).kind), .int .i64 ((helloV smallV 5 1).seq), .int .i64 ((helloV smallV 5 1).who), .int .i64 ((helloV smallV 5 1).role), .int .u32 ((helloV smallV 5 1).token), .int .u64 ((helloV smallV 5 1).key), .int .i64 (((helloV smallV 5 1).call).id), .int .i64 (((helloV smallV 5 1).call).kind), .int .i64 (((helloV smallV 5 1).call).src), .int .i64 (((helloV smallV 5 1).call).dst), .int .i64 (((helloV smallV 5 1).call).car), .int .i64 (((helloV smallV 5 1).call).state), .int .i64 (((helloV smallV 5 1).call).owner), .int .i64 (((helloV smallV 5 1).call).born), .int .i64 ((helloV smallV 5 1).id), .int .i64 ((helloV smallV 5 1).car), .int .i64 ((helloV smallV 5 1).mode), .int .i64 (((helloV smallV 5 1).filter).kind), .int .i64 (((helloV smallV 5 1).filter).n)], rS (some y) c2_2 3 ((evAll (seedV 7) smallV 30).map evRow), rB b1_0 61 [.int .u64 (nextN (seedV 1))]]) else [rB b4 53 [.int .i64 ((askV 2 [(helloV smallV 5 1), (helloV smallV 5 1)]).kind), .int .i64 ((askV 2 [(helloV smallV 5 1), (helloV smallV 5 1)]).n), .string ((askV 2 [(helloV smallV 5 1), (helloV smallV 5 1)]).data)], rB b13 43 [.int .i64 ((helloV smallV 5 1).kind), .int .i64 ((helloV smallV 5 1).seq), .int .i64 ((helloV smallV 5 1).who), .int .i64 ((helloV smallV 5 1).role), .int .u32 ((helloV smallV 5 1).token), .int .u64 ((helloV smallV 5 1).key), .int .i64 (((helloV smallV 5 1).call).id), .int .i64 (((helloV smallV 5 1).call).kind), .int .i64 (((helloV smallV 5 1).call).src), .int .i64 (((helloV smallV 5 1).call).dst), .int .i64 (((helloV smallV 5 1).call).car), .int .i64 (((helloV smallV 5 1).call).state), .int .i64 (((helloV smallV 5 1).call).owner), .int .i64 (((helloV smallV 5 1).call).born), .int .i64 ((helloV smallV 5 1).id), .int .i64 ((helloV smallV 5 1).car), .int .i64 ((helloV smallV 5 1).mode), .int .i64 (((helloV smallV 5 1).filter).kind), .int .i64 (((helloV smallV 5 1).filter).n), .int .i64 ((helloV smallV 5 1).kind), .int .i64 ((helloV smallV 5 1).seq), .int .i64 ((helloV smallV 5 1).who), .int .i64 ((helloV smallV 5 1).role), .int .u32 ((helloV smallV 5 1).token), .int .u64 ((helloV smallV 5 1).key), .int .i64 (((helloV smallV 5 1).call).id), .int .i64 (((helloV smallV 5 1).call).kind), .int .i64 (((helloV smallV 5 1).call).src), .int .i64 (((helloV smallV 5 1).call).dst), .int .i64 (((helloV smallV 5 1).call).car), .int .i64 (((helloV smallV 5 1).call).state), .int .i64 (((helloV smallV 5 1).call).owner), .int .i64 (((helloV smallV 5 1).call).born), .int .i64 ((helloV smallV 5 1).id), .int .i64 ((helloV smallV 5 1).car), .int .i64 ((helloV smallV 5 1).mode), .int .i64 (((helloV smallV 5 1).filter).kind), .int .i64 (((helloV smallV 5 1).filter).n)], rB b3 43 [.int .i64 ((helloV smallV 5 1).kind), .int .i64 ((helloV smallV 5 1).seq), .int .i64 ((helloV smallV 5 1).who), .int .i64 ((helloV smallV 5 1).role), .int .u32 ((helloV smallV 5 1).token), .int .u64 ((helloV smallV 5 1).key), .int .i64 (((helloV smallV 5 1).call).id), .int .i64 (((helloV smallV 5 1).call).kind), .int .i64 (((helloV smallV 5 1).call).src), .int .i64 (((helloV smallV 5 1).call).dst), .int .i64 (((helloV smallV 5 1).call).car), .int .i64 (((helloV smallV 5 1).call).state), .int .i64 (((helloV smallV 5 1).call).owner), .int .i64 (((helloV smallV 5 1).call).born), .int .i64 ((helloV smallV 5 1).id), .int .i64 ((helloV smallV 5 1).car), .int .i64 ((helloV smallV 5 1).mode), .int .i64 (((helloV smallV 5 1).filter).kind), .int .i64 (((helloV smallV 5 1).filter).n)], rS (some y) c2_2 3 ((evAll (seedV 7) smallV 30).map evRow), rB b1_0 61 [.int .u64 (seedV 1)]])) (default, default) H.out.drew ?_ (steps_al ?_) ?_ ?_
  · intro L1 L2 xx ww hL sg
    have lh1 := hL 1 (by decide)
    have lh4 := hL 4 (by decide)
    have lh5 := hL 5 (by decide)
    have lh53 := hL 53 (by decide)
    simp only [lh1, lh4, lh5, lh53] at sg
    exact sg
  · refine al_cons ?_ (al_cons ?_ (al_cons ?_ (al_cons ?_ (al_cons ?_ (al_cons ?_ (al_cons ?_ (al_cons ?_ (al_cons ?_ (al_cons ?_ (al_cons ?_ (al_cons ?_ (al_cons ?_ (al_cons ?_ (al_cons ?_ (al_cons ?_ (al_cons ?_ (al_cons ?_ (al_cons ?_ (al_cons ?_ (al_cons ?_ (al_cons ?_ (al_cons ?_ (al_cons ?_ (al_cons ?_ (al_cons ?_ (al_cons ?_ (al_cons ?_ (al_cons ?_ (al_cons ?_ (al_cons ?_ (al_cons ?_ (al_cons ?_ (al_cons ?_ (al_cons ?_ (al_cons ?_ (al_cons ?_ (al_cons ?_ (al_cons ?_ (al_cons ?_ (al_cons ?_ (al_cons ?_ (al_cons ?_ (al_cons ?_ (al_cons ?_ (al_cons ?_ (al_cons ?_ (al_cons ?_ (al_cons ?_ (al_cons ?_ (al_cons ?_ (al_cons ?_ (al_cons ?_ (al_cons ?_ (al_cons ?_ (al_cons ?_ (al_cons ?_ (al_cons ?_ (al_cons ?_ (al_nil)))))))))))))))))))))))))))))))))))))))))))))))))))))))))))
    · intro LL xx ac wc sg hst hwant QQ hgo
      obtain ⟨b5_4, b68⟩ := xx
      exact op_val hwant hgo hst _ (exec_move rfl ((sg.free 1 (by kernel_rfl)).trans so1)) rfl
    · intro LL xx ac wc sg hst hwant QQ hgo
      obtain ⟨b5_4, b68⟩ := xx
      have se15 : ac.eval (.tmp 15) = _ := (sg.slot 0 (sg.anc 0 rfl))
      have sg15 := gt_of se15
      (try simp only [nth] at se15 sg15)
      have H := Lib.hid hst
      simp only [sg.self, sg.des 4 rfl, sg.des 5 rfl, sg.des 53 rfl, cond_true, cond_false] at H
      refine op_call hwant hgo 8 #[.pointer (some ⟨b1_0, 0, none⟩)] (by simp only [execOp]; go_simp) (nextC b1_0 (seedV 1) wc (H.out.blk 4 rfl) (by decide)) ?_
      rintro er wd ⟨rfl, hb, ho⟩
      have H2 := hp_turn H (i := 4) (cs' := [.int .u64 (nextN (seedV 1))]) rfl hb ho
      exact ⟨_, (b5_4, b68), rfl, (sg.agree (x' := (b5_4, b68)) (n := 59) rfl (by (iterate 59 (refine ix_cons (by first | exact fun _ => rfl | exact no sg.self | exact no (sg.des _ rfl)) ?_)); exact ix_nil)), rfl, (by simp only [(show upd LL 1 1 = true from rfl), (show upd LL 1 4 = LL 4 from rfl), sg.des 4 rfl, (show upd LL 1 5 = LL 5 from rfl), sg.des 5 rfl, (show upd LL 1 53 = LL 53 from rfl), sg.des 53 rfl, cond_true, cond_false]; exact H2.out)⟩
    · intro LL xx ac wc sg hst hwant QQ hgo
      obtain ⟨b5_4, b68⟩ := xx
      have se16 : ac.eval (.tmp 16) = _ := (sg.slot 1 (sg.anc 1 rfl))
      have sg16 := gt_of se16
      (try simp only [nth] at se16 sg16)
      exact op_val hwant hgo hst _ (by simp only [execOp, nth]; go_simp <;> omega) rfl
    · intro LL xx ac wc sg hst hwant QQ hgo
      obtain ⟨b5_4, b68⟩ := xx
      exact op_val hwant hgo hst _ (exec_move rfl (sg.slot 2 (sg.anc 2 rfl))) rfl
    · intro LL xx ac wc sg hst hwant QQ hgo
      obtain ⟨_, b68⟩ := xx
      have H := Lib.hid hst
      simp only [sg.anc 1 rfl, sg.self, sg.des 5 rfl, sg.des 53 rfl, cond_true, cond_false] at H
      refine op_call hwant hgo 6 #[.int .u64 3] (by simp only [execOp]; go_simp) (newC 3 wc) ?_
      rintro er wd ⟨b5_4, rfl, hb, hlt, ho⟩
      have H2 := hp_gotBk H ho hb hlt
      exact ⟨_, (b5_4, b68), rfl, (sg.agree (x' := (b5_4, b68)) (n := 59) rfl (by (iterate 59 (refine ix_cons (by first | exact fun _ => rfl | exact no sg.self | exact no (sg.des _ rfl)) ?_)); exact ix_nil)), rfl, (by simp only [(show upd LL 4 1 = LL 1 from rfl), sg.anc 1 rfl, (show upd LL 4 4 = true from rfl), (show upd LL 4 5 = LL 5 from rfl), sg.des 5 rfl, (show upd LL 4 53 = LL 53 from rfl), sg.des 53 rfl, cond_true, cond_false]; exact H2.out)⟩
    · intro LL xx ac wc sg hst hwant QQ hgo
      obtain ⟨b5_4, b68⟩ := xx
      have se19 : ac.eval (.tmp 19) = _ := (sg.slot 4 (sg.anc 4 rfl))
      have sg19 := gt_of se19
      (try simp only [nth] at se19 sg19)
      have H := Lib.hid hst
      simp only [sg.anc 1 rfl, sg.anc 4 rfl, sg.self, sg.des 53 rfl, cond_true, cond_false] at H
      refine op_call hwant hgo 10 #[.pointer (some ⟨b5_4, 0, none⟩), .int .i64 1] (by simp only [execOp]; go_simp) (belowN b5_4 (seedV 3) 1 wc (H.out.blk 0 rfl) (by decide) (by decide)) ?_
      rintro er wd ⟨rfl, hb, ho⟩
      have H2 := hp_turn H (i := 0) (cs' := [.int .u64 (nextN (seedV 3))]) rfl hb ho
      exact ⟨_, (b5_4, b68), rfl, (sg.agree (x' := (b5_4, b68)) (n := 59) rfl (by (iterate 59 (refine ix_cons (by first | exact fun _ => rfl | exact no sg.self | exact no (sg.des _ rfl)) ?_)); exact ix_nil)), rfl, (by simp only [(show upd LL 5 1 = LL 1 from rfl), sg.anc 1 rfl, (show upd LL 5 4 = LL 4 from rfl), sg.anc 4 rfl, (show upd LL 5 5 = true from rfl), (show upd LL 5 53 = LL 53 from rfl), sg.des 53 rfl, cond_true, cond_false]; exact H2.out)⟩
    · intro LL xx ac wc sg hst hwant QQ hgo
      obtain ⟨b5_4, b68⟩ := xx
      have se20 : ac.eval (.tmp 20) = _ := (sg.slot 5 (sg.anc 5 rfl))
      have sg20 := gt_of se20
      (try simp only [nth] at se20 sg20)
      exact op_val hwant hgo hst _ (by simp only [execOp, nth]; go_simp <;> omega) rfl
    · intro LL xx ac wc sg hst hwant QQ hgo
      obtain ⟨b5_4, b68⟩ := xx
      exact op_val hwant hgo hst (.bool true) (exec_pick (B := true) (U := .bool true) (V := undef) rfl (sg.slot 3 (sg.anc 3 rfl)) (fun _ => (sg.slot 6 (sg.anc 6 rfl))) (fun h => by cases h)) rfl
    · intro LL xx ac wc sg hst hwant QQ hgo
      obtain ⟨b5_4, b68⟩ := xx
      exact op_val hwant hgo hst _ (exec_move rfl (sg.slot 7 (sg.anc 7 rfl))) rfl
    · intro LL xx ac wc sg hst hwant QQ hgo
      obtain ⟨b5_4, b68⟩ := xx
      exact op_val hwant hgo hst _ (exec_move rfl ((sg.free 2 (by kernel_rfl)).trans so2)) rfl
    · intro LL xx ac wc sg hst hwant QQ hgo
      obtain ⟨b5_4, b68⟩ := xx
      have se24 : ac.eval (.tmp 24) = _ := (sg.slot 9 (sg.anc 9 rfl))
      have sg24 := gt_of se24
      (try simp only [nth] at se24 sg24)
      exact op_val hwant hgo hst _ (by simp only [execOp, nth]; go_simp <;> omega) rfl
    · intro LL xx ac wc sg hst hwant QQ hgo
      obtain ⟨b5_4, b68⟩ := xx
      have se25 : ac.eval (.tmp 25) = _ := (sg.slot 10 (sg.anc 10 rfl))
      have sg25 := gt_of se25
      (try simp only [nth] at se25 sg25)
      exact op_val hwant hgo hst _ (by simp only [execOp, nth]; go_simp <;> omega) rfl
    · intro LL xx ac wc sg hst hwant QQ hgo
      obtain ⟨b5_4, b68⟩ := xx
      exact op_val hwant hgo hst (.bool true) (exec_pick (B := true) (U := .bool true) (V := undef) rfl (sg.slot 8 (sg.anc 8 rfl)) (fun _ => (sg.slot 11 (sg.anc 11 rfl))) (fun h => by cases h)) rfl
    · intro LL xx ac wc sg hst hwant QQ hgo
      obtain ⟨b5_4, b68⟩ := xx
      exact op_val hwant hgo hst _ (exec_move rfl (sg.slot 12 (sg.anc 12 rfl))) rfl
    · intro LL xx ac wc sg hst hwant QQ hgo
      obtain ⟨b5_4, b68⟩ := xx
      exact op_val hwant hgo hst _ (exec_move rfl ((sg.free 2 (by kernel_rfl)).trans so2)) rfl
    · intro LL xx ac wc sg hst hwant QQ hgo
      obtain ⟨b5_4, b68⟩ := xx
      have se29 : ac.eval (.tmp 29) = _ := (sg.slot 14 (sg.anc 14 rfl))
      have sg29 := gt_of se29
      (try simp only [nth] at se29 sg29)
      exact op_val hwant hgo hst _ (by simp only [execOp, nth]; go_simp <;> omega) rfl
    · intro LL xx ac wc sg hst hwant QQ hgo
      obtain ⟨b5_4, b68⟩ := xx
      have H := Lib.hid hst
      simp only [sg.anc 1 rfl, sg.anc 4 rfl, sg.anc 5 rfl, sg.des 53 rfl, cond_true, cond_false] at H
      refine hpS_load tyhouse_Event H (y := y) rfl (sg.slot 15 (sg.anc 15 rfl)) hwant (by (repeat (first | exact List.Mem.head _ | apply List.Mem.tail))) HE0.out rfl ?_
      exact hgo _ (b5_4, b68) _ (fun _ _ => rfl) rfl hst
    · intro LL xx ac wc sg hst hwant QQ hgo
      obtain ⟨b5_4, b68⟩ := xx
      exact op_val hwant hgo hst _ (by simp only [execOp, nth, cA, cL]; go_simp <;> omega) rfl
    · intro LL xx ac wc sg hst hwant QQ hgo
      obtain ⟨b5_4, b68⟩ := xx
      exact op_val hwant hgo hst (.bool (true)) (exec_eql rfl (sg.slot 16 (sg.anc 16 rfl)) (sg.slot 17 (sg.anc 17 rfl)) (by kernel_rfl) (run_eq_event_same (⟨1, 1, (⟨#[]⟩ : ByteArray)⟩ : EvV) wc)) (congrArg Value.bool (by simp))
    · intro LL xx ac wc sg hst hwant QQ hgo
      obtain ⟨b5_4, b68⟩ := xx
      exact op_val hwant hgo hst (.bool true) (exec_pick (B := true) (U := .bool true) (V := undef) rfl (sg.slot 13 (sg.anc 13 rfl)) (fun _ => (sg.slot 18 (sg.anc 18 rfl))) (fun h => by cases h)) rfl
    · intro LL xx ac wc sg hst hwant QQ hgo
      obtain ⟨b5_4, b68⟩ := xx
      exact op_val hwant hgo hst _ (exec_move rfl (sg.slot 19 (sg.anc 19 rfl))) rfl
    · intro LL xx ac wc sg hst hwant QQ hgo
      obtain ⟨b5_4, b68⟩ := xx
      exact op_val hwant hgo hst _ (exec_move rfl ((sg.free 2 (by kernel_rfl)).trans so2)) rfl
    · intro LL xx ac wc sg hst hwant QQ hgo
      obtain ⟨b5_4, b68⟩ := xx
      have se36 : ac.eval (.tmp 36) = _ := (sg.slot 21 (sg.anc 21 rfl))
      have sg36 := gt_of se36
      (try simp only [nth] at se36 sg36)
      exact op_val hwant hgo hst _ (by simp only [execOp, nth]; go_simp <;> omega) rfl
    · intro LL xx ac wc sg hst hwant QQ hgo
      obtain ⟨b5_4, b68⟩ := xx
      have se37 : ac.eval (.tmp 37) = _ := (sg.slot 22 (sg.anc 22 rfl))
      have sg37 := gt_of se37
      (try simp only [nth] at se37 sg37)
      exact op_val hwant hgo hst _ (by simp only [execOp, nth]; go_simp <;> omega) rfl
    · intro LL xx ac wc sg hst hwant QQ hgo
      obtain ⟨b5_4, b68⟩ := xx
      have H := Lib.hid hst
      simp only [sg.anc 1 rfl, sg.anc 4 rfl, sg.anc 5 rfl, sg.des 53 rfl, cond_true, cond_false] at H
      refine hpS_load1 0 tyint H (y := y) rfl (sg.slot 23 (sg.anc 23 rfl)) hwant (by (repeat (first | exact List.Mem.head _ | apply List.Mem.tail))) HE1.out (by rfl) (by simp [Addr.add]) ?_
      exact hgo _ (b5_4, b68) _ (fun _ _ => rfl) rfl hst
    · intro LL xx ac wc sg hst hwant QQ hgo
      obtain ⟨b5_4, b68⟩ := xx
      have se39 : ac.eval (.tmp 39) = _ := (sg.slot 24 (sg.anc 24 rfl))
      have sg39 := gt_of se39
      (try simp only [nth] at se39 sg39)
      exact op_val hwant hgo hst _ (by simp only [execOp, nth]; go_simp <;> omega) rfl
    · intro LL xx ac wc sg hst hwant QQ hgo
      obtain ⟨b5_4, b68⟩ := xx
      exact op_val hwant hgo hst (.bool true) (exec_pick (B := true) (U := .bool true) (V := undef) rfl (sg.slot 20 (sg.anc 20 rfl)) (fun _ => (sg.slot 25 (sg.anc 25 rfl))) (fun h => by cases h)) rfl
    · intro LL xx ac wc sg hst hwant QQ hgo
      obtain ⟨b5_4, b68⟩ := xx
      exact op_val hwant hgo hst _ (exec_move rfl (sg.slot 26 (sg.anc 26 rfl))) rfl
    · intro LL xx ac wc sg hst hwant QQ hgo
      obtain ⟨b5_4, b68⟩ := xx
      exact op_val hwant hgo hst _ (exec_move rfl ((sg.free 2 (by kernel_rfl)).trans so2)) rfl
    · intro LL xx ac wc sg hst hwant QQ hgo
      obtain ⟨b5_4, b68⟩ := xx
      have se43 : ac.eval (.tmp 43) = _ := (sg.slot 28 (sg.anc 28 rfl))
      have sg43 := gt_of se43
      (try simp only [nth] at se43 sg43)
      exact op_val hwant hgo hst _ (by simp only [execOp, nth]; go_simp <;> omega) rfl
    · intro LL xx ac wc sg hst hwant QQ hgo
      obtain ⟨b5_4, b68⟩ := xx
      have se44 : ac.eval (.tmp 44) = _ := (sg.slot 29 (sg.anc 29 rfl))
      have sg44 := gt_of se44
      (try simp only [nth] at se44 sg44)
      exact op_val hwant hgo hst _ (by simp only [execOp, nth]; go_simp <;> omega) rfl
    · intro LL xx ac wc sg hst hwant QQ hgo
      obtain ⟨b5_4, b68⟩ := xx
      have H := Lib.hid hst
      simp only [sg.anc 1 rfl, sg.anc 4 rfl, sg.anc 5 rfl, sg.des 53 rfl, cond_true, cond_false] at H
      refine hpS_load1 1 tyint H (y := y) rfl (sg.slot 30 (sg.anc 30 rfl)) hwant (by (repeat (first | exact List.Mem.head _ | apply List.Mem.tail))) HE2.out (by rfl) (by simp [Addr.add]) ?_
      exact hgo _ (b5_4, b68) _ (fun _ _ => rfl) rfl hst
    · intro LL xx ac wc sg hst hwant QQ hgo
      obtain ⟨b5_4, b68⟩ := xx
      have se46 : ac.eval (.tmp 46) = _ := (sg.slot 31 (sg.anc 31 rfl))
      have sg46 := gt_of se46
      (try simp only [nth] at se46 sg46)
      exact op_val hwant hgo hst _ (by simp only [execOp, nth]; go_simp <;> omega) rfl
    · intro LL xx ac wc sg hst hwant QQ hgo
      obtain ⟨b5_4, b68⟩ := xx
      exact op_val hwant hgo hst (.bool true) (exec_pick (B := true) (U := .bool true) (V := undef) rfl (sg.slot 27 (sg.anc 27 rfl)) (fun _ => (sg.slot 32 (sg.anc 32 rfl))) (fun h => by cases h)) rfl
    · intro LL xx ac wc sg hst hwant QQ hgo
      obtain ⟨b5_4, b68⟩ := xx
      exact op_val hwant hgo hst _ (exec_move rfl (sg.slot 33 (sg.anc 33 rfl))) rfl
    · intro LL xx ac wc sg hst hwant QQ hgo
      obtain ⟨b5_4, b68⟩ := xx
      have se3 : ac.eval (.tmp 3) = _ := ((sg.free 3 (by kernel_rfl)).trans so3)
      have sg3 := gt_of se3
      exact op_val hwant hgo hst _ (by simp only [execOp, nth]; go_simp <;> omega) rfl
    · intro LL xx ac wc sg hst hwant QQ hgo
      obtain ⟨b5_4, b68⟩ := xx
      have H := Lib.hid hst
      simp only [sg.anc 1 rfl, sg.anc 4 rfl, sg.anc 5 rfl, sg.des 53 rfl, cond_true, cond_false] at H
      refine hpA_load1 tyuint32 H rfl (sg.slot 35 (sg.anc 35 rfl)) hwant (by (repeat (first | exact List.Mem.head _ | apply List.Mem.tail))) (by rfl) ?_
      exact hgo _ (b5_4, b68) _ (fun _ _ => rfl) rfl hst
    · intro LL xx ac wc sg hst hwant QQ hgo
      obtain ⟨b5_4, b68⟩ := xx
      refine op_call hwant hgo 21 #[.int .u32 7, .int .i64 5, .int .i64 1] (by simp only [execOp]; go_simp) (tokRC 7 5 1 wc (by decide)) ?_
      rintro er wd ⟨rfl, hof⟩
      exact ⟨_, (b5_4, b68), rfl, fun _ _ => rfl, rfl, Hp.quiet hst hof⟩
    · intro LL xx ac wc sg hst hwant QQ hgo
      obtain ⟨b5_4, b68⟩ := xx
      have se51 : ac.eval (.tmp 51) = _ := (sg.slot 36 (sg.anc 36 rfl))
      have sg51 := gt_of se51
      have se52 : ac.eval (.tmp 52) = _ := (sg.slot 37 (sg.anc 37 rfl))
      have sg52 := gt_of se52
      (try simp only [nth] at se51 sg51 se52 sg52)
      exact op_val hwant hgo hst _ (by simp only [execOp, nth]; go_simp <;> omega) rfl
    · intro LL xx ac wc sg hst hwant QQ hgo
      obtain ⟨b5_4, b68⟩ := xx
      exact op_val hwant hgo hst (.bool true) (exec_pick (B := true) (U := .bool true) (V := undef) rfl (sg.slot 34 (sg.anc 34 rfl)) (fun _ => (sg.slot 38 (sg.anc 38 rfl))) (fun h => by cases h)) rfl
    · intro LL xx ac wc sg hst hwant QQ hgo
      obtain ⟨b5_4, b68⟩ := xx
      exact op_val hwant hgo hst _ (exec_move rfl (sg.slot 39 (sg.anc 39 rfl))) rfl
    · intro LL xx ac wc sg hst hwant QQ hgo
      obtain ⟨b5_4, b68⟩ := xx
      have se4 : ac.eval (.tmp 4) = _ := ((sg.free 4 (by kernel_rfl)).trans so4)
      have sg4 := gt_of se4
      exact op_val hwant hgo hst _ (by simp only [execOp, nth]; go_simp <;> omega) rfl
    · intro LL xx ac wc sg hst hwant QQ hgo
      obtain ⟨b5_4, b68⟩ := xx
      have H := Lib.hid hst
      simp only [sg.anc 1 rfl, sg.anc 4 rfl, sg.anc 5 rfl, sg.des 53 rfl, cond_true, cond_false] at H
      refine hpA_load1 tyint H rfl (sg.slot 41 (sg.anc 41 rfl)) hwant (by (repeat (first | exact List.Mem.head _ | apply List.Mem.tail))) (by rfl) ?_
      exact hgo _ (b5_4, b68) _ (fun _ _ => rfl) rfl hst
    · intro LL xx ac wc sg hst hwant QQ hgo
      obtain ⟨b5_4, b68⟩ := xx
      have se57 : ac.eval (.tmp 57) = _ := (sg.slot 42 (sg.anc 42 rfl))
      have sg57 := gt_of se57
      (try simp only [nth] at se57 sg57)
      exact op_val hwant hgo hst _ (by simp only [execOp, nth]; go_simp <;> omega) rfl
    · intro LL xx ac wc sg hst hwant QQ hgo
      obtain ⟨b5_4, b68⟩ := xx
      exact op_val hwant hgo hst (.bool true) (exec_pick (B := true) (U := .bool true) (V := undef) rfl (sg.slot 40 (sg.anc 40 rfl)) (fun _ => (sg.slot 43 (sg.anc 43 rfl))) (fun h => by cases h)) rfl
    · intro LL xx ac wc sg hst hwant QQ hgo
      obtain ⟨b5_4, b68⟩ := xx
      exact op_val hwant hgo hst _ (exec_move rfl (sg.slot 44 (sg.anc 44 rfl))) rfl
    · intro LL xx ac wc sg hst hwant QQ hgo
      obtain ⟨b5_4, b68⟩ := xx
      have se4 : ac.eval (.tmp 4) = _ := ((sg.free 4 (by kernel_rfl)).trans so4)
      have sg4 := gt_of se4
      exact op_val hwant hgo hst _ (by simp only [execOp, nth]; go_simp <;> omega) rfl
    · intro LL xx ac wc sg hst hwant QQ hgo
      obtain ⟨b5_4, b68⟩ := xx
      have H := Lib.hid hst
      simp only [sg.anc 1 rfl, sg.anc 4 rfl, sg.anc 5 rfl, sg.des 53 rfl, cond_true, cond_false] at H
      refine hpA_load1 tystring H rfl (sg.slot 46 (sg.anc 46 rfl)) hwant (by (repeat (first | exact List.Mem.head _ | apply List.Mem.tail))) (by rfl) ?_
      exact hgo _ (b5_4, b68) _ (fun _ _ => rfl) rfl hst
    · intro LL xx ac wc sg hst hwant QQ hgo
      obtain ⟨b5_4, b68⟩ := xx
      have se62 : ac.eval (.tmp 62) = _ := (sg.slot 47 (sg.anc 47 rfl))
      have sg62 := gt_of se62
      (try simp only [nth] at se62 sg62)
      exact op_val hwant hgo hst _ (by simp only [execOp, nth]; go_simp <;> omega) rfl
    · intro LL xx ac wc sg hst hwant QQ hgo
      obtain ⟨b5_4, b68⟩ := xx
      have se63 : ac.eval (.tmp 63) = _ := (sg.slot 48 (sg.anc 48 rfl))
      have sg63 := gt_of se63
      (try simp only [nth] at se63 sg63)
      exact op_val hwant hgo hst _ (by simp only [execOp, nth]; go_simp <;> omega) rfl
    · intro LL xx ac wc sg hst hwant QQ hgo
      obtain ⟨b5_4, b68⟩ := xx
      exact op_val hwant hgo hst (.bool true) (exec_pick (B := true) (U := .bool true) (V := undef) rfl (sg.slot 45 (sg.anc 45 rfl)) (fun _ => (sg.slot 49 (sg.anc 49 rfl))) (fun h => by cases h)) rfl
    · intro LL xx ac wc sg hst hwant QQ hgo
      obtain ⟨b5_4, b68⟩ := xx
      exact op_val hwant hgo hst _ (exec_move rfl (sg.slot 50 (sg.anc 50 rfl))) rfl
    · intro LL xx ac wc sg hst hwant QQ hgo
      obtain ⟨b5_4, b68⟩ := xx
      exact op_val hwant hgo hst _ (by simp only [execOp, nth, cA, cL]; go_simp <;> omega) rfl
    · intro LL xx ac wc sg hst hwant QQ hgo
      obtain ⟨b5_4, _⟩ := xx
      have se67 : ac.eval (.tmp 67) = _ := (sg.slot 52 (sg.anc 52 rfl))
      have sg67 := gt_of se67
      (try simp only [nth] at se67 sg67)
      (try simp only [cA, cL] at se67 sg67)
      have H := Lib.hid hst
      simp only [sg.anc 1 rfl, sg.anc 4 rfl, sg.anc 5 rfl, sg.self, cond_true, cond_false] at H
      refine hpN_bslice (cs := [.int .i64 0, .int .i64 0, .int .i64 0, .int .i64 0, .int .u32 0, .int .u64 0, .int .i64 0, .int .i64 0, .int .i64 0, .int .i64 0, .int .i64 0, .int .i64 0, .int .i64 0, .int .i64 0, .int .i64 0, .int .i64 0, .int .i64 0, .int .i64 0, .int .i64 0]) Tryz.underlying81 tymsg_Request 68 H rfl rfl hwant (by decide) (by decide) (by first | (go_simp; rfl) | rfl | (simp; rfl) | (go_simp; done)) ?_
      intro wd b68 H2
      exact hgo _ (b5_4, b68) _ (sg.agree (x' := (b5_4, b68)) (n := 59) rfl (by (iterate 59 (refine ix_cons (by first | exact fun _ => rfl | exact no sg.self | exact no (sg.des _ rfl)) ?_)); exact ix_nil)) rfl (by simp only [(show upd LL 53 1 = LL 1 from rfl), sg.anc 1 rfl, (show upd LL 53 4 = LL 4 from rfl), sg.anc 4 rfl, (show upd LL 53 5 = LL 5 from rfl), sg.anc 5 rfl, (show upd LL 53 53 = true from rfl), cond_true, cond_false]; exact H2.out)
    · intro LL xx ac wc sg hst hwant QQ hgo
      obtain ⟨b5_4, b68⟩ := xx
      have se68 : ac.eval (.tmp 68) = _ := (sg.slot 53 (sg.anc 53 rfl))
      have sg68 := gt_of se68
      (try simp only [nth] at se68 sg68)
      have H := Lib.hid hst
      simp only [sg.anc 1 rfl, sg.anc 4 rfl, sg.anc 5 rfl, sg.anc 53 rfl, cond_true, cond_false] at H
      refine op_call hwant hgo 20 #[.int .i64 1, .slice (some ⟨b68, 0, none⟩) 1 1] (by simp only [execOp]; go_simp) (askC 1 (some ⟨b68, 0, none⟩) 1 [(⟨0, 0, 0, 0, 0, 0, (⟨0, 0, 0, 0, 0, 0, 0, 0⟩ : CallV), 0, 0, 0, (⟨0, 0⟩ : FilterV)⟩ : ReqV)] wc (hp_single (cs := reqRow (⟨0, 0, 0, 0, 0, 0, (⟨0, 0, 0, 0, 0, 0, 0, 0⟩ : CallV), 0, 0, 0, (⟨0, 0⟩ : FilterV)⟩ : ReqV)) (e := 43) H (List.mem_of_getElem? (i := 0) rfl) rfl (by simp [reqRow, Value.oneCell'])) (Lib.hid (fun q hq => by rw [List.mem_singleton.1 hq]; exact (by unfold okReq; decide))) (by simp)) ?_
      rintro er wd ⟨rfl, hof⟩
      exact ⟨_, (b5_4, b68), rfl, fun _ _ => rfl, rfl, Hp.quiet hst hof⟩
    · intro LL xx ac wc sg hst hwant QQ hgo
      obtain ⟨b5_4, b68⟩ := xx
      exact op_val hwant hgo hst _ (by simp only [execOp, nth, cA, cL]; go_simp <;> omega) rfl
    · intro LL xx ac wc sg hst hwant QQ hgo
      obtain ⟨b5_4, b68⟩ := xx
      exact op_val hwant hgo hst (.bool ((decide ((askV 1 [(⟨0, 0, 0, 0, 0, 0, (⟨0, 0, 0, 0, 0, 0, 0, 0⟩ : CallV), 0, 0, 0, (⟨0, 0⟩ : FilterV)⟩ : ReqV)]) = (⟨0, 0, (⟨#[]⟩ : ByteArray)⟩ : EvV))))) (exec_eql rfl (sg.slot 54 (sg.anc 54 rfl)) (sg.slot 55 (sg.anc 55 rfl)) (by kernel_rfl) (run_eq_event (askV 1 [(⟨0, 0, 0, 0, 0, 0, (⟨0, 0, 0, 0, 0, 0, 0, 0⟩ : CallV), 0, 0, 0, (⟨0, 0⟩ : FilterV)⟩ : ReqV)]) (⟨0, 0, (⟨#[]⟩ : ByteArray)⟩ : EvV) wc)) (congrArg Value.bool (by simp [q8]))
    · intro LL xx ac wc sg hst hwant QQ hgo
      obtain ⟨b5_4, b68⟩ := xx
      exact op_val hwant hgo hst (.bool true) (exec_pick (B := true) (U := .bool true) (V := undef) rfl (sg.slot 51 (sg.anc 51 rfl)) (fun _ => (sg.slot 56 (sg.anc 56 rfl))) (fun h => by cases h)) rfl
    · intro LL xx ac wc sg hst hwant QQ hgo
      obtain ⟨b5_4, b68⟩ := xx
      exact op_val hwant hgo hst _ (exec_assign rfl (sg.slot 57 (sg.anc 57 rfl))) rfl
  · refine skips [4, 5, 6, 9, 10, 11, 14, 15, 16, 17, 18, 21, 22, 23, 24, 25, 28, 29, 30, 31, 32, 35, 36, 37, 38, 41, 42, 43, 46, 47, 48, 49, 52, 53, 54, 55, 56] (by kernel_rfl) ?_
    refine List.forall_mem_cons.2 ⟨?_, List.forall_mem_cons.2 ⟨?_, List.forall_mem_cons.2 ⟨?_, List.forall_mem_cons.2 ⟨?_, List.forall_mem_cons.2 ⟨?_, List.forall_mem_cons.2 ⟨?_, List.forall_mem_cons.2 ⟨?_, List.forall_mem_cons.2 ⟨?_, List.forall_mem_cons.2 ⟨?_, List.forall_mem_cons.2 ⟨?_, List.forall_mem_cons.2 ⟨?_, List.forall_mem_cons.2 ⟨?_, List.forall_mem_cons.2 ⟨?_, List.forall_mem_cons.2 ⟨?_, List.forall_mem_cons.2 ⟨?_, List.forall_mem_cons.2 ⟨?_, List.forall_mem_cons.2 ⟨?_, List.forall_mem_cons.2 ⟨?_, List.forall_mem_cons.2 ⟨?_, List.forall_mem_cons.2 ⟨?_, List.forall_mem_cons.2 ⟨?_, List.forall_mem_cons.2 ⟨?_, List.forall_mem_cons.2 ⟨?_, List.forall_mem_cons.2 ⟨?_, List.forall_mem_cons.2 ⟨?_, List.forall_mem_cons.2 ⟨?_, List.forall_mem_cons.2 ⟨?_, List.forall_mem_cons.2 ⟨?_, List.forall_mem_cons.2 ⟨?_, List.forall_mem_cons.2 ⟨?_, List.forall_mem_cons.2 ⟨?_, List.forall_mem_cons.2 ⟨?_, List.forall_mem_cons.2 ⟨?_, List.forall_mem_cons.2 ⟨?_, List.forall_mem_cons.2 ⟨?_, List.forall_mem_cons.2 ⟨?_, List.forall_mem_cons.2 ⟨?_, fun _ h => by cases h⟩⟩⟩⟩⟩⟩⟩⟩⟩⟩⟩⟩⟩⟩⟩⟩⟩⟩⟩⟩⟩⟩⟩⟩⟩⟩⟩⟩⟩⟩⟩⟩⟩⟩⟩⟩⟩
    · intro oo hop LL xx ac sg hwant
      cases Option.some.inj hop
      obtain ⟨b5_4, b68⟩ := xx
      exact absurd ((want_t rfl rfl (sg.slot 3 (sg.anc 3 rfl))).symm.trans hwant) (by decide)
    · intro oo hop LL xx ac sg hwant
      cases Option.some.inj hop
      obtain ⟨b5_4, b68⟩ := xx
      exact absurd ((want_t rfl rfl (sg.slot 3 (sg.anc 3 rfl))).symm.trans hwant) (by decide)
    · intro oo hop LL xx ac sg hwant
      cases Option.some.inj hop
      obtain ⟨b5_4, b68⟩ := xx
      exact absurd ((want_t rfl rfl (sg.slot 3 (sg.anc 3 rfl))).symm.trans hwant) (by decide)
    · intro oo hop LL xx ac sg hwant
      cases Option.some.inj hop
      obtain ⟨b5_4, b68⟩ := xx
      exact absurd ((want_t rfl rfl (sg.slot 8 (sg.anc 8 rfl))).symm.trans hwant) (by decide)
    · intro oo hop LL xx ac sg hwant
      cases Option.some.inj hop
      obtain ⟨b5_4, b68⟩ := xx
      exact absurd ((want_t rfl rfl (sg.slot 8 (sg.anc 8 rfl))).symm.trans hwant) (by decide)
    · intro oo hop LL xx ac sg hwant
      cases Option.some.inj hop
      obtain ⟨b5_4, b68⟩ := xx
      exact absurd ((want_t rfl rfl (sg.slot 8 (sg.anc 8 rfl))).symm.trans hwant) (by decide)
    · intro oo hop LL xx ac sg hwant
      cases Option.some.inj hop
      obtain ⟨b5_4, b68⟩ := xx
      exact absurd ((want_t rfl rfl (sg.slot 13 (sg.anc 13 rfl))).symm.trans hwant) (by decide)
    · intro oo hop LL xx ac sg hwant
      cases Option.some.inj hop
      obtain ⟨b5_4, b68⟩ := xx
      exact absurd ((want_t rfl rfl (sg.slot 13 (sg.anc 13 rfl))).symm.trans hwant) (by decide)
    · intro oo hop LL xx ac sg hwant
      cases Option.some.inj hop
      obtain ⟨b5_4, b68⟩ := xx
      exact absurd ((want_t rfl rfl (sg.slot 13 (sg.anc 13 rfl))).symm.trans hwant) (by decide)
    · intro oo hop LL xx ac sg hwant
      cases Option.some.inj hop
      obtain ⟨b5_4, b68⟩ := xx
      exact absurd ((want_t rfl rfl (sg.slot 13 (sg.anc 13 rfl))).symm.trans hwant) (by decide)
    · intro oo hop LL xx ac sg hwant
      cases Option.some.inj hop
      obtain ⟨b5_4, b68⟩ := xx
      exact absurd ((want_t rfl rfl (sg.slot 13 (sg.anc 13 rfl))).symm.trans hwant) (by decide)
    · intro oo hop LL xx ac sg hwant
      cases Option.some.inj hop
      obtain ⟨b5_4, b68⟩ := xx
      exact absurd ((want_t rfl rfl (sg.slot 20 (sg.anc 20 rfl))).symm.trans hwant) (by decide)
    · intro oo hop LL xx ac sg hwant
      cases Option.some.inj hop
      obtain ⟨b5_4, b68⟩ := xx
      exact absurd ((want_t rfl rfl (sg.slot 20 (sg.anc 20 rfl))).symm.trans hwant) (by decide)
    · intro oo hop LL xx ac sg hwant
      cases Option.some.inj hop
      obtain ⟨b5_4, b68⟩ := xx
      exact absurd ((want_t rfl rfl (sg.slot 20 (sg.anc 20 rfl))).symm.trans hwant) (by decide)
    · intro oo hop LL xx ac sg hwant
      cases Option.some.inj hop
      obtain ⟨b5_4, b68⟩ := xx
      exact absurd ((want_t rfl rfl (sg.slot 20 (sg.anc 20 rfl))).symm.trans hwant) (by decide)
    · intro oo hop LL xx ac sg hwant
      cases Option.some.inj hop
      obtain ⟨b5_4, b68⟩ := xx
      exact absurd ((want_t rfl rfl (sg.slot 20 (sg.anc 20 rfl))).symm.trans hwant) (by decide)
    · intro oo hop LL xx ac sg hwant
      cases Option.some.inj hop
      obtain ⟨b5_4, b68⟩ := xx
      exact absurd ((want_t rfl rfl (sg.slot 27 (sg.anc 27 rfl))).symm.trans hwant) (by decide)
    · intro oo hop LL xx ac sg hwant
      cases Option.some.inj hop
      obtain ⟨b5_4, b68⟩ := xx
      exact absurd ((want_t rfl rfl (sg.slot 27 (sg.anc 27 rfl))).symm.trans hwant) (by decide)
    · intro oo hop LL xx ac sg hwant
      cases Option.some.inj hop
      obtain ⟨b5_4, b68⟩ := xx
      exact absurd ((want_t rfl rfl (sg.slot 27 (sg.anc 27 rfl))).symm.trans hwant) (by decide)
    · intro oo hop LL xx ac sg hwant
      cases Option.some.inj hop
      obtain ⟨b5_4, b68⟩ := xx
      exact absurd ((want_t rfl rfl (sg.slot 27 (sg.anc 27 rfl))).symm.trans hwant) (by decide)
    · intro oo hop LL xx ac sg hwant
      cases Option.some.inj hop
      obtain ⟨b5_4, b68⟩ := xx
      exact absurd ((want_t rfl rfl (sg.slot 27 (sg.anc 27 rfl))).symm.trans hwant) (by decide)
    · intro oo hop LL xx ac sg hwant
      cases Option.some.inj hop
      obtain ⟨b5_4, b68⟩ := xx
      exact absurd ((want_t rfl rfl (sg.slot 34 (sg.anc 34 rfl))).symm.trans hwant) (by decide)
    · intro oo hop LL xx ac sg hwant
      cases Option.some.inj hop
      obtain ⟨b5_4, b68⟩ := xx
      exact absurd ((want_t rfl rfl (sg.slot 34 (sg.anc 34 rfl))).symm.trans hwant) (by decide)
    · intro oo hop LL xx ac sg hwant
      cases Option.some.inj hop
      obtain ⟨b5_4, b68⟩ := xx
      exact absurd ((want_t rfl rfl (sg.slot 34 (sg.anc 34 rfl))).symm.trans hwant) (by decide)
    · intro oo hop LL xx ac sg hwant
      cases Option.some.inj hop
      obtain ⟨b5_4, b68⟩ := xx
      exact absurd ((want_t rfl rfl (sg.slot 34 (sg.anc 34 rfl))).symm.trans hwant) (by decide)
    · intro oo hop LL xx ac sg hwant
      cases Option.some.inj hop
      obtain ⟨b5_4, b68⟩ := xx
      exact absurd ((want_t rfl rfl (sg.slot 40 (sg.anc 40 rfl))).symm.trans hwant) (by decide)
    · intro oo hop LL xx ac sg hwant
      cases Option.some.inj hop
      obtain ⟨b5_4, b68⟩ := xx
      exact absurd ((want_t rfl rfl (sg.slot 40 (sg.anc 40 rfl))).symm.trans hwant) (by decide)
    · intro oo hop LL xx ac sg hwant
      cases Option.some.inj hop
      obtain ⟨b5_4, b68⟩ := xx
      exact absurd ((want_t rfl rfl (sg.slot 40 (sg.anc 40 rfl))).symm.trans hwant) (by decide)
    · intro oo hop LL xx ac sg hwant
      cases Option.some.inj hop
      obtain ⟨b5_4, b68⟩ := xx
      exact absurd ((want_t rfl rfl (sg.slot 45 (sg.anc 45 rfl))).symm.trans hwant) (by decide)
    · intro oo hop LL xx ac sg hwant
      cases Option.some.inj hop
      obtain ⟨b5_4, b68⟩ := xx
      exact absurd ((want_t rfl rfl (sg.slot 45 (sg.anc 45 rfl))).symm.trans hwant) (by decide)
    · intro oo hop LL xx ac sg hwant
      cases Option.some.inj hop
      obtain ⟨b5_4, b68⟩ := xx
      exact absurd ((want_t rfl rfl (sg.slot 45 (sg.anc 45 rfl))).symm.trans hwant) (by decide)
    · intro oo hop LL xx ac sg hwant
      cases Option.some.inj hop
      obtain ⟨b5_4, b68⟩ := xx
      exact absurd ((want_t rfl rfl (sg.slot 45 (sg.anc 45 rfl))).symm.trans hwant) (by decide)
    · intro oo hop LL xx ac sg hwant
      cases Option.some.inj hop
      obtain ⟨b5_4, b68⟩ := xx
      exact absurd ((want_t rfl rfl (sg.slot 51 (sg.anc 51 rfl))).symm.trans hwant) (by decide)
    · intro oo hop LL xx ac sg hwant
      cases Option.some.inj hop
      obtain ⟨b5_4, b68⟩ := xx
      exact absurd ((want_t rfl rfl (sg.slot 51 (sg.anc 51 rfl))).symm.trans hwant) (by decide)
    · intro oo hop LL xx ac sg hwant
      cases Option.some.inj hop
      obtain ⟨b5_4, b68⟩ := xx
      exact absurd ((want_t rfl rfl (sg.slot 51 (sg.anc 51 rfl))).symm.trans hwant) (by decide)
    · intro oo hop LL xx ac sg hwant
      cases Option.some.inj hop
      obtain ⟨b5_4, b68⟩ := xx
      exact absurd ((want_t rfl rfl (sg.slot 51 (sg.anc 51 rfl))).symm.trans hwant) (by decide)
    · intro oo hop LL xx ac sg hwant
      cases Option.some.inj hop
      obtain ⟨b5_4, b68⟩ := xx
      exact absurd ((want_t rfl rfl (sg.slot 51 (sg.anc 51 rfl))).symm.trans hwant) (by decide)
  · intro xx ac1 wz hfr hsl hst
    obtain ⟨b5_4, b68⟩ := xx
    exact hfin b5_4 b68 ac1 wz (hfr.size.trans hz) hfr.defers (fr_keep hfr [0, 15, 16, 17, 18, 19, 20, 21, 22, 23, 24, 25, 26, 27, 28, 29, 30, 31, 32, 33, 34, 35, 36, 37, 38, 39, 40, 41, 42, 43, 44, 45, 46, 47, 48, 49, 50, 51, 52, 53, 54, 55, 56, 57, 58, 59, 60, 61, 62, 63, 64, 65, 66, 67, 68, 69, 70, 71, 72] (by kernel_rfl)) (hsl 58 (by decide)) (Lib.hid hst)
set_option maxHeartbeats 16000000 in
set_option maxRecDepth 20000 in
theorem awake35  (w : World) : Calls Tryz.prog 5 #[] w fun e w' => e = .returned (.bool true) ∧ Off [] w w' := by
 have H := Lib.hid (Hp.start [] w)
 refine wStart (args := []) Tryz.func5 rfl rfl rfl H ?_
 clear H
 show Wk 73 _ _ [] _ _
 have q8 : (decide (askV 1 [(⟨0, 0, 0, 0, 0, 0, (⟨0, 0, 0, 0, 0, 0, 0, 0⟩ : CallV), 0, 0, 0, (⟨0, 0⟩ : FilterV)⟩ : ReqV)] = (⟨0, 0, (⟨#[]⟩ : ByteArray)⟩ : EvV))) = true := by kernel_rfl
 have q1 : (((nextN (seedV 1)) : Int) == 1082269761) = true := by kernel_rfl
 have q2 : (((belN (seedV 3) 1) : Int) == 0) = true := by kernel_rfl
 have q3 : (((evAll (seedV 7) smallV 30).length : Int) == 30) = true := by rw [evAll_len small_ok (by decide)]; rfl
 have q4 : ((askV 1 [helloV smallV 1 3]).kind == 2) = true := by kernel_rfl
 have q5 : (((helloV smallV 5 1).token) == (tokV 7 5 1)) = true := beq_self_eq_true (tokV 7 5 1)
 have q6 : (((askV 2 [(helloV smallV 5 1), (helloV smallV 5 1)]).n) == 2) = true := by kernel_rfl
 have q7 : ((((askV 2 [(helloV smallV 5 1), (helloV smallV 5 1)]).data).size : Int) == 40) = true := by kernel_rfl
 refine wSeqK fun KK1 hK1 => ?_
 refine wReg ?_
 refine p_awake35 rfl ?_
 refine wN ?_
 refine tN (wKK hK1 ?_)
 refine wSeqK fun KK2 hK2 => ?_
 refine wReg ?_
 refine wC (l := [.int .u64 1]) Tryz.func6 rfl (by kernel_rfl) (fun wc H => newC 1 wc) rfl rfl rfl rfl ?_
 intro wc H
 rintro er wd ⟨b1_0, rfl, hb, hlt, ho⟩
 have H2 := hp_gotBk H ho hb hlt
 refine ⟨_, rfl, wkAt H2 ?_⟩
 clear H H2
 refine p_awake35 rfl ?_
 refine wN ?_
 refine tN (wKK hK2 ?_)
 refine wSeqK fun KK3 hK3 => ?_
 refine wReg ?_
 refine wC (l := [.int .u64 7]) Tryz.func6 rfl (by kernel_rfl) (fun wc H => newC 7 wc) rfl rfl rfl rfl ?_
 intro wc H
 rintro er wd ⟨b2_0, rfl, hb, hlt, ho⟩
 have H2 := hp_gotBk H ho hb hlt
 refine ⟨_, rfl, wkAt H2 ?_⟩
 clear H H2
 refine wQ (l := []) Tryz.func18 rfl (by kernel_rfl) (.agg (cA smallV)) (fun wc H => smallC wc) rfl rfl rfl rfl ?_
 refine wC (l := [.pointer (some ⟨b2_0, 0, none⟩), .agg (cA smallV), .int .i64 30]) Tryz.func15 rfl (by kernel_rfl) (fun wc H => eventsC b2_0 (seedV 7) smallV 30 wc (H.out.blk 0 rfl) (by decide)) rfl rfl rfl rfl ?_
 intro wc H
 rintro er wd ⟨a2_2, c2_2, rfl, hh, hf, ho⟩
 have H2 := hp_gone H 0 rfl ho hh (by decide) hf
 refine ⟨_, rfl, wkAt H2 ?_⟩
 clear H H2
 refine p_awake35 rfl ?_
 refine wN ?_
 refine tN (wKK hK3 ?_)
 refine wSeqK fun KK4 hK4 => ?_
 refine wReg ?_
 refine wQ (l := []) Tryz.func18 rfl (by kernel_rfl) (.agg (cA smallV)) (fun wc H => smallC wc) rfl rfl rfl rfl ?_
 refine wQ (l := [.agg (cA smallV), .int .i64 5, .int .i64 1]) Tryz.func19 rfl (by kernel_rfl) (.agg #[.int .i64 ((helloV smallV 5 1).kind), .int .i64 ((helloV smallV 5 1).seq), .int .i64 ((helloV smallV 5 1).who), .int .i64 ((helloV smallV 5 1).role), .int .u32 ((helloV smallV 5 1).token), .int .u64 ((helloV smallV 5 1).key), .int .i64 (((helloV smallV 5 1).call).id), .int .i64 (((helloV smallV 5 1).call).kind), .int .i64 (((helloV smallV 5 1).call).src), .int .i64 (((helloV smallV 5 1).call).dst), .int .i64 (((helloV smallV 5 1).call).car), .int .i64 (((helloV smallV 5 1).call).state), .int .i64 (((helloV smallV 5 1).call).owner), .int .i64 (((helloV smallV 5 1).call).born), .int .i64 ((helloV smallV 5 1).id), .int .i64 ((helloV smallV 5 1).car), .int .i64 ((helloV smallV 5 1).mode), .int .i64 (((helloV smallV 5 1).filter).kind), .int .i64 (((helloV smallV 5 1).filter).n)]) (fun wc H => helloC smallV 5 1 wc) rfl rfl rfl rfl ?_
 refine wAl rfl rfl tymsg_Request fun b3 => ?_
 refine wSr rfl tymsg_Request 0 rfl rfl rfl rfl [.int .i64 ((helloV smallV 5 1).kind), .int .i64 ((helloV smallV 5 1).seq), .int .i64 ((helloV smallV 5 1).who), .int .i64 ((helloV smallV 5 1).role), .int .u32 ((helloV smallV 5 1).token), .int .u64 ((helloV smallV 5 1).key), .int .i64 (((helloV smallV 5 1).call).id), .int .i64 (((helloV smallV 5 1).call).kind), .int .i64 (((helloV smallV 5 1).call).src), .int .i64 (((helloV smallV 5 1).call).dst), .int .i64 (((helloV smallV 5 1).call).car), .int .i64 (((helloV smallV 5 1).call).state), .int .i64 (((helloV smallV 5 1).call).owner), .int .i64 (((helloV smallV 5 1).call).born), .int .i64 ((helloV smallV 5 1).id), .int .i64 ((helloV smallV 5 1).car), .int .i64 ((helloV smallV 5 1).mode), .int .i64 (((helloV smallV 5 1).filter).kind), .int .i64 (((helloV smallV 5 1).filter).n)] (by first | rfl | (simp only [spl]; rfl)) ?_
 refine wN ?_
 refine tN (wKK hK4 ?_)
 refine wSeqK fun KK5 hK5 => ?_
 refine wReg ?_
 refine wLr rfl tymsg_Request 0 rfl [.int .i64 ((helloV smallV 5 1).kind), .int .i64 ((helloV smallV 5 1).seq), .int .i64 ((helloV smallV 5 1).who), .int .i64 ((helloV smallV 5 1).role), .int .u32 ((helloV smallV 5 1).token), .int .u64 ((helloV smallV 5 1).key), .int .i64 (((helloV smallV 5 1).call).id), .int .i64 (((helloV smallV 5 1).call).kind), .int .i64 (((helloV smallV 5 1).call).src), .int .i64 (((helloV smallV 5 1).call).dst), .int .i64 (((helloV smallV 5 1).call).car), .int .i64 (((helloV smallV 5 1).call).state), .int .i64 (((helloV smallV 5 1).call).owner), .int .i64 (((helloV smallV 5 1).call).born), .int .i64 ((helloV smallV 5 1).id), .int .i64 ((helloV smallV 5 1).car), .int .i64 ((helloV smallV 5 1).mode), .int .i64 (((helloV smallV 5 1).filter).kind), .int .i64 (((helloV smallV 5 1).filter).n)] rfl rfl ?_
 refine wLr rfl tymsg_Request 0 rfl [.int .i64 ((helloV smallV 5 1).kind), .int .i64 ((helloV smallV 5 1).seq), .int .i64 ((helloV smallV 5 1).who), .int .i64 ((helloV smallV 5 1).role), .int .u32 ((helloV smallV 5 1).token), .int .u64 ((helloV smallV 5 1).key), .int .i64 (((helloV smallV 5 1).call).id), .int .i64 (((helloV smallV 5 1).call).kind), .int .i64 (((helloV smallV 5 1).call).src), .int .i64 (((helloV smallV 5 1).call).dst), .int .i64 (((helloV smallV 5 1).call).car), .int .i64 (((helloV smallV 5 1).call).state), .int .i64 (((helloV smallV 5 1).call).owner), .int .i64 (((helloV smallV 5 1).call).born), .int .i64 ((helloV smallV 5 1).id), .int .i64 ((helloV smallV 5 1).car), .int .i64 ((helloV smallV 5 1).mode), .int .i64 (((helloV smallV 5 1).filter).kind), .int .i64 (((helloV smallV 5 1).filter).n)] rfl rfl ?_
 refine wBs (cs := [.int .i64 ((helloV smallV 5 1).kind), .int .i64 ((helloV smallV 5 1).seq), .int .i64 ((helloV smallV 5 1).who), .int .i64 ((helloV smallV 5 1).role), .int .u32 ((helloV smallV 5 1).token), .int .u64 ((helloV smallV 5 1).key), .int .i64 (((helloV smallV 5 1).call).id), .int .i64 (((helloV smallV 5 1).call).kind), .int .i64 (((helloV smallV 5 1).call).src), .int .i64 (((helloV smallV 5 1).call).dst), .int .i64 (((helloV smallV 5 1).call).car), .int .i64 (((helloV smallV 5 1).call).state), .int .i64 (((helloV smallV 5 1).call).owner), .int .i64 (((helloV smallV 5 1).call).born), .int .i64 ((helloV smallV 5 1).id), .int .i64 ((helloV smallV 5 1).car), .int .i64 ((helloV smallV 5 1).mode), .int .i64 (((helloV smallV 5 1).filter).kind), .int .i64 (((helloV smallV 5 1).filter).n), .int .i64 ((helloV smallV 5 1).kind), .int .i64 ((helloV smallV 5 1).seq), .int .i64 ((helloV smallV 5 1).who), .int .i64 ((helloV smallV 5 1).role), .int .u32 ((helloV smallV 5 1).token), .int .u64 ((helloV smallV 5 1).key), .int .i64 (((helloV smallV 5 1).call).id), .int .i64 (((helloV smallV 5 1).call).kind), .int .i64 (((helloV smallV 5 1).call).src), .int .i64 (((helloV smallV 5 1).call).dst), .int .i64 (((helloV smallV 5 1).call).car), .int .i64 (((helloV smallV 5 1).call).state), .int .i64 (((helloV smallV 5 1).call).owner), .int .i64 (((helloV smallV 5 1).call).born), .int .i64 ((helloV smallV 5 1).id), .int .i64 ((helloV smallV 5 1).car), .int .i64 ((helloV smallV 5 1).mode), .int .i64 (((helloV smallV 5 1).filter).kind), .int .i64 (((helloV smallV 5 1).filter).n)]) rfl rfl rfl rfl Tryz.underlying81 tymsg_Request rfl (by decide) (by decide) (by kernel_rfl) fun b13 => ?_
 refine wQ (l := [.int .i64 2, .slice (some ⟨b13, 0, none⟩) 2 2]) Tryz.func20 rfl (by kernel_rfl) (.agg #[.int .i64 ((askV 2 [(helloV smallV 5 1), (helloV smallV 5 1)]).kind), .int .i64 ((askV 2 [(helloV smallV 5 1), (helloV smallV 5 1)]).n), .string ((askV 2 [(helloV smallV 5 1), (helloV smallV 5 1)]).data)]) (fun wc H => askC 2 (some ⟨b13, 0, none⟩) 2 [(helloV smallV 5 1), (helloV smallV 5 1)] wc (hp_pair (e := 43) (r1 := reqRow (helloV smallV 5 1)) (r2 := reqRow (helloV smallV 5 1)) H (List.mem_of_getElem? (i := 0) rfl) rfl rfl (by simp [reqRow, Value.oneCell']) (by simp [reqRow, Value.oneCell'])) (Lib.hid (fun q hq => by rcases List.mem_cons.1 hq with h | h; rw [h]; exact (hello_ok _ _ _); rw [List.mem_singleton.1 h]; exact (hello_ok _ _ _))) (by simp)) rfl rfl rfl rfl ?_
 refine wAl rfl rfl tyhouse_Event fun b4 => ?_
 refine wSr rfl tyhouse_Event 0 rfl rfl rfl rfl [.int .i64 ((askV 2 [(helloV smallV 5 1), (helloV smallV 5 1)]).kind), .int .i64 ((askV 2 [(helloV smallV 5 1), (helloV smallV 5 1)]).n), .string ((askV 2 [(helloV smallV 5 1), (helloV smallV 5 1)]).data)] (by first | rfl | (simp only [spl]; rfl)) ?_
 refine wN ?_
 refine tN (wKK hK5 ?_)
 refine wSeqK fun KK6 hK6 => ?_
 intro aa ww nn dd hs H
 obtain ⟨y, rfl⟩ := some_of_row (i := 0) (hp_held H (show rS a2_2 _ 3 ((evAll (seedV 7) smallV 30).map evRow) ∈ _ by (repeat (first | exact List.Mem.head _ | apply List.Mem.tail)))) (by rw [List.length_map, evAll_len small_ok (by decide)]; decide)
 obtain ⟨le, hle⟩ := evs7
 have HE0 := Lib.hid (show ((evAll (seedV 7) smallV 30).map evRow)[0]? = some [.int .i64 1, .int .i64 1, .string (⟨#[]⟩ : ByteArray)] by rw [hle]; rfl)
 have HE1 := Lib.hid (show ((evAll (seedV 7) smallV 30).map evRow)[1]? = some [.int .i64 (askV 1 [helloV smallV 1 3]).kind, .int .i64 (askV 1 [helloV smallV 1 3]).n, .string (askV 1 [helloV smallV 1 3]).data] by rw [hle]; rfl)
 have HE2 := Lib.hid (show ((evAll (seedV 7) smallV 30).map evRow)[2]? = some [.int .i64 1, .int .i64 2, .string (⟨#[]⟩ : ByteArray)] by rw [hle]; rfl)
 clear hle
 have hl30 : (evAll (seedV 7) smallV 30).length = 30 := evAll_len small_ok (by decide)
 refine wIn nn dd hs H ?_
 intro aa ww nn dd hs H
 refine awake35_r5 b1_0 c2_2 b3 b13 b4 y q8 q1 q2 q3 q4 q5 q6 q7 hl30 HE0 HE1 HE2 H aa nn (hs 1 _ rfl) (hs 2 _ rfl) (hs 3 _ rfl) (hs 4 _ rfl) ?_
 intro b5_4 b68 ab wv nn2 dd2 kp o0 H2
 refine wIn nn2 (dd2.trans dd) (Sat.cons (Sat.cons (Sat.cons (Sat.cons (Sat.cons (sat_nil ab) ((kp 4 rfl).trans (hs 4 _ rfl))) ((kp 3 rfl).trans (hs 3 _ rfl))) ((kp 2 rfl).trans (hs 2 _ rfl))) ((kp 1 rfl).trans (hs 1 _ rfl))) o0) H2 ?_
 clear hs H kp H2 dd dd2 nn nn2 o0
 refine tN (wKK hK6 ?_)
 refine wRet ?_
 exact wR1 rfl rfl (fun ww H => ⟨rfl, H.out.off⟩)
end Go.Proofs.YthflkhalipkdgaaGreat.Mn
