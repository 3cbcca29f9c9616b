/- Its changes make a book: the walk. -/
import Derived.Test.YtnanihffljpdbaaProg
import Derived.Below
import Derived.WalkKit
import Derived.KernelRfl
import Derived.RowKit3
import Derived.Deep.LoopGhost
import Derived.Deep.QuietTactic
import Derived.BigQuiet
import Derived.WideLaws
import Derived.Deep.DeepCutAuto
import Derived.Deep.CutBlock
import Derived.Lib.Hide
import Derived.Laws.BitsLemmas
import Derived.Laws.Bits64
import Derived.Laws.BitsAllLaws
import Derived.IntWalk
import Derived.Outline
import Derived.WalkSpells
import Derived.Test.YtnanihffljpdbaaGA
import Derived.Test.YtnanihffljpdbaaBp5
namespace Go.Proofs.Ytnanihffljpdbaa.Bk
open Go.RowKit Go.Proofs.Ytnanihffljpdbaa.Mem Go.Proofs.Ytnanihffljpdbaa.Reg Go.Proofs.Ytnanihffljpdbaa.Wk Go.Proofs.Ytnanihffljpdbaa.Si Go.Proofs.Ytnanihffljpdbaa.Ca Go.Proofs.Ytnanihffljpdbaa.Sc6
set_option linter.unusedVariables false
set_option linter.unusedSimpArgs false

theorem elChg : ElI Try.prog 35 40 11 88 := ElI.of (by kernel_rfl) (by kernel_rfl) (by decide)
def chgRow (z : ChgV) : List Value := [.int .i64 z.index, .int .i64 z.call.id, .int .i64 z.call.kind, .int .i64 z.call.src, .int .i64 z.call.dst, .int .i64 z.call.car, .int .i64 z.call.state, .int .i64 z.call.owner, .int .i64 z.call.born, .int .i64 z.car, .int .i64 z.mode]
def tab_replays_w : Wk.Tab := [(38, 0, 0), (40, 1, 1), (42, 0, 0), (42, 1, 1), (42, 2, 9), (42, 3, 10), (42, 4, 11)]
theorem p_replays_w {ops : Array Oper} {rest : List Oper} {o : Oper} {w0 : World} {Q : Exit → Act → World → Prop} {S : List Nat} {R : List Res} {K K' : Wk.Env} {N : Nat} (h : Wk.stp tab_replays_w N ops K o = some K') (n : Wk.Wk N S w0 K' R (wpList Try.prog ops Q rest)) : Wk.Wk N S w0 K R (wpList Try.prog ops Q (o :: rest)) := Wk.wP (T := tab_replays_w) (by kernel_rfl) h n
set_option maxHeartbeats 4000000 in
set_option maxRecDepth 20000 in
theorem replays_w_r31 (c : Cfg) (pc : Nat) (ds : List DeedV) (b2 : Nat) (b5 : Nat) (b26 : Nat) (i : Nat) (b : BookV) (la : Option Addr) (lc : Nat) (da : Option Addr) (dc : Nat) (aa_ : Option Addr) (ac_ : Nat) (ys : List ChgV) (E : List Int) (yx : Addr) (x : DeedV) (b9 : Nat) (a11_1 : Option Addr) (c11_1 : Nat) (b12 : Nat) (b13 : Nat) (bn : BookV) (lan : Option Addr) (lcn : Nat) (dan : Option Addr) (dcn : Nat) (ch : ChgV) (a26_6 : Option Addr) (c26_6 : Nat) (hi : i ≤ ds.length) (hi2 : i ≤ 60) (hyi : ys.length ≤ i) (z2ld : i < ds.length) (z2rd : (i : Int) < 60) (hchi : -9223372036854775808 ≤ x.ch.index ∧ x.ch.index ≤ 9223372036854775807) (hbi : 0 ≤ b.index ∧ b.index ≤ 1073741824) (hbx : b.index ≤ (ys.length : Int) ∧ (ys.length : Int) ≤ b.index) (hl64 : (liveV b).length ≤ 64) (hI2 : Hid (InvB bn)) (hz1 : ((bn.index) != (b.index + 1)) = false) (hz2 : ((ch.index) != (b.index + 1)) = false) (hz3 : (decide (c.calls < ((liveV bn).length : Int))) = false) (hz4 : (decide (c.calls < (bn.done.length : Int))) = false) (hz5 : ((endV E (ch.call.id)) != 0) = false) (hl642 : (liveV bn).length ≤ 64) (hkw : (Lit.int .i64 ch.call.id).wf = true) (hE8 : E.length < 1000000) {wa wb : World} (H : Hid (Hp [] wa wb [rS a26_6 c26_6 8 ((liveV b).map callRow), rB b12 33 (bkL bn.conf bn.index bn.room (.slice lan bn.live.length lcn) (.slice dan bn.done.length dcn) bn.modes), rB b13 40 (chL ch), rS lan lcn 9 (bn.live.map rowOf), rS dan dcn 8 (bn.done.map callRow), rS a11_1 c11_1 8 ((liveV b).map callRow), rB b9 42 [.int .i64 x.kind, .int .i64 x.x.id, .int .i64 x.x.kind, .int .i64 x.x.src, .int .i64 x.x.dst, .int .i64 x.x.car, .int .i64 x.x.state, .int .i64 x.x.owner, .int .i64 x.x.born, .int .i64 x.n, .int .i64 x.m, .int .i64 x.ch.index, .int .i64 x.ch.call.id, .int .i64 x.ch.call.kind, .int .i64 x.ch.call.src, .int .i64 x.ch.call.dst, .int .i64 x.ch.call.car, .int .i64 x.ch.call.state, .int .i64 x.ch.call.owner, .int .i64 x.ch.call.born, .int .i64 x.ch.car, .int .i64 x.ch.mode], rB b5 33 (bkL b.conf b.index b.room (.slice la b.live.length lc) (.slice da b.done.length dc) b.modes), rA aa_ ac_ 40 11 (ys.map chgRow), rMp b26 E, rS la lc 9 (b.live.map rowOf), rS da dc 8 (b.done.map callRow), rB b2 24 (cL c), rS (some yx) pc 22 (ds.map deedRow)])) (ac0 : Act) (hz : ac0.tmps.size = 253) (so2 : ac0.eval (.tmp 2) = .pointer (some ⟨b2, 0, none⟩)) (so7 : ac0.eval (.tmp 7) = .map (some b26)) (so10 : ac0.eval (.tmp 10) = .int .i64 b.index) (so12 : ac0.eval (.tmp 12) = .pointer (some ⟨b12, 0, none⟩)) (so13 : ac0.eval (.tmp 13) = .pointer (some ⟨b13, 0, none⟩)) {QR : Exit → Act → World → Prop} (hfin : ∀ (a31_14 : Option Addr) (c31_14 : Nat) (a31_22 : Option Addr) (c31_22 : Nat) (ac1 : Act) (wz : World), ac1.tmps.size = 253 → ac1.defers = ac0.defers → (∀ t, ([127, 128, 129, 130, 131, 132, 133, 134, 135, 136, 137, 138, 139, 140, 141, 142, 143, 144, 145, 146, 147, 148, 149, 150, 151, 152, 153, 154, 155, 156, 157, 158, 159, 160, 161, 162, 163, 164, 165, 166, 167, 168] : List Nat).contains t = false → ac1.eval (.tmp t) = ac0.eval (.tmp t)) → ac1.eval (.tmp 168) = .bool false →  Hid (Hp [] wa wz [rS a31_22 c31_22 8 (bn.done.map callRow), rS a31_14 c31_14 8 ((liveV bn).map callRow), rS a26_6 c26_6 8 ((liveV b).map callRow), rB b12 33 (bkL bn.conf bn.index bn.room (.slice lan bn.live.length lcn) (.slice dan bn.done.length dcn) bn.modes), rB b13 40 (chL ch), rS lan lcn 9 (bn.live.map rowOf), rS dan dcn 8 (bn.done.map callRow), rS a11_1 c11_1 8 ((liveV b).map callRow), rB b9 42 [.int .i64 x.kind, .int .i64 x.x.id, .int .i64 x.x.kind, .int .i64 x.x.src, .int .i64 x.x.dst, .int .i64 x.x.car, .int .i64 x.x.state, .int .i64 x.x.owner, .int .i64 x.x.born, .int .i64 x.n, .int .i64 x.m, .int .i64 x.ch.index, .int .i64 x.ch.call.id, .int .i64 x.ch.call.kind, .int .i64 x.ch.call.src, .int .i64 x.ch.call.dst, .int .i64 x.ch.call.car, .int .i64 x.ch.call.state, .int .i64 x.ch.call.owner, .int .i64 x.ch.call.born, .int .i64 x.ch.car, .int .i64 x.ch.mode], rB b5 33 (bkL b.conf b.index b.room (.slice la b.live.length lc) (.slice da b.done.length dc) b.modes), rA aa_ ac_ 40 11 (ys.map chgRow), rMp b26 E, rS la lc 9 (b.live.map rowOf), rS da dc 8 (b.done.map callRow), rB b2 24 (cL c), rS (some yx) pc 22 (ds.map deedRow)]) → QR .normal ac1 wz) : (regAt Try.f3 31).wp Try.prog QR ac0 wb := by
  refine wp_region_st mixedP ⟨[0, 1, 0, 1, 2, 3, 4, 5, 4, 5, 6, 7, 8, 9, 10, 11, 9, 10, 12, 13, 14, 15, 16, 17, 15, 16, 18, 19, 20, 21, 21, 22, 23, 24, 25, 26, 27, 28, 29, 30, 31, 32], by kernel_rfl⟩ [[], [0], [], [2], [0, 1, 2, 3], [0, 1, 2, 3, 4], [0, 1, 2, 3, 4, 5], [0, 1, 2, 3, 4, 5, 6], [0, 1, 2, 3, 4, 5], [0, 1, 2, 3, 4, 5, 8], [0, 1, 2, 3, 4, 5, 6, 7, 8, 9], [0, 1, 2, 3, 4, 5, 6, 7, 8, 9, 10], [0, 1, 2, 3, 4, 5, 6, 7, 8, 9, 10, 11], [0, 1, 2, 3, 4, 5, 6, 7, 8, 9, 10, 11, 12], [0, 1, 2, 3, 4, 5, 6, 7, 8, 9, 10, 11, 12, 13], [0, 1, 2, 3, 4, 5, 6, 7, 8, 9, 10, 11, 12, 13, 14], [0, 1, 2, 3, 4, 5, 6, 7, 8, 9, 10, 11, 12], [0, 1, 2, 3, 4, 5, 6, 7, 8, 9, 10, 11, 12, 16], [0, 1, 2, 3, 4, 5, 6, 7, 8, 9, 10, 11, 12, 13, 14, 15, 16, 17], [0, 1, 2, 3, 4, 5, 6, 7, 8, 9, 10, 11, 12, 13, 14, 15, 16, 17, 18], [0, 1, 2, 3, 4, 5, 6, 7, 8, 9, 10, 11, 12, 13, 14, 15, 16, 17, 18, 19], [0, 1, 2, 3, 4, 5, 6, 7, 8, 9, 10, 11, 12, 13, 14, 15, 16, 17, 18, 19, 20], [0, 1, 2, 3, 4, 5, 6, 7, 8, 9, 10, 11, 12, 13, 14, 15, 16, 17, 18, 19, 20, 21], [0, 1, 2, 3, 4, 5, 6, 7, 8, 9, 10, 11, 12, 13, 14, 15, 16, 17, 18, 19, 20, 21, 22], [0, 1, 2, 3, 4, 5, 6, 7, 8, 9, 10, 11, 12, 13, 14, 15, 16, 17, 18, 19, 20], [0, 1, 2, 3, 4, 5, 6, 7, 8, 9, 10, 11, 12, 13, 14, 15, 16, 17, 18, 19, 20, 24], [0, 1, 2, 3, 4, 5, 6, 7, 8, 9, 10, 11, 12, 13, 14, 15, 16, 17, 18, 19, 20, 21, 22, 23, 24, 25], [0, 1, 2, 3, 4, 5, 6, 7, 8, 9, 10, 11, 12, 13, 14, 15, 16, 17, 18, 19, 20, 21, 22, 23, 24, 25, 26], [0, 1, 2, 3, 4, 5, 6, 7, 8, 9, 10, 11, 12, 13, 14, 15, 16, 17, 18, 19, 20, 21, 22, 23, 24, 25, 26, 27], [0, 1, 2, 3, 4, 5, 6, 7, 8, 9, 10, 11, 12, 13, 14, 15, 16, 17, 18, 19, 20, 21, 22, 23, 24, 25, 26, 27, 28], [0, 1, 2, 3, 4, 5, 6, 7, 8, 9, 10, 11, 12, 13, 14, 15, 16, 17, 18, 19, 20, 21, 22, 23, 24, 25, 26, 27, 28], [0, 1, 2, 3, 4, 5, 6, 7, 8, 9, 10, 11, 12, 13, 14, 15, 16, 17, 18, 19, 20, 21, 22, 23, 24, 25, 26, 27, 28, 30], [0, 1, 2, 3, 4, 5, 6, 7, 8, 9, 10, 11, 12, 13, 14, 15, 16, 17, 18, 19, 20, 21, 22, 23, 24, 25, 26, 27, 28, 30, 31], [0, 1, 2, 3, 4, 5, 6, 7, 8, 9, 10, 11, 12, 13, 14, 15, 16, 17, 18, 19, 20, 21, 22, 23, 24, 25, 26, 27, 28, 29, 30, 31, 32], [0, 1, 2, 3, 4, 5, 6, 7, 8, 9, 10, 11, 12, 13, 14, 15, 16, 17, 18, 19, 20, 21, 22, 23, 24, 25, 26, 27, 28, 29, 30, 31, 32, 33], [0, 1, 2, 3, 4, 5, 6, 7, 8, 9, 10, 11, 12, 13, 14, 15, 16, 17, 18, 19, 20, 21, 22, 23, 24, 25, 26, 27, 28, 29, 30, 31, 32, 33, 34], [0, 1, 2, 3, 4, 5, 6, 7, 8, 9, 10, 11, 12, 13, 14, 15, 16, 17, 18, 19, 20, 21, 22, 23, 24, 25, 26, 27, 28, 29, 30, 31, 32, 33, 34, 35], [0, 1, 2, 3, 4, 5, 6, 7, 8, 9, 10, 11, 12, 13, 14, 15, 16, 17, 18, 19, 20, 21, 22, 23, 24, 25, 26, 27, 28, 29, 30, 31, 32, 33, 34, 35, 36], [0, 1, 2, 3, 4, 5, 6, 7, 8, 9, 10, 11, 12, 13, 14, 15, 16, 17, 18, 19, 20, 21, 22, 23, 24, 25, 26, 27, 28, 29, 30, 31, 32, 33, 34, 35, 36, 37], [0, 1, 2, 3, 4, 5, 6, 7, 8, 9, 10, 11, 12, 13, 14, 15, 16, 17, 18, 19, 20, 21, 22, 23, 24, 25, 26, 27, 28, 29, 30, 31, 32, 33, 34, 35, 36, 37, 38], [0, 1, 2, 3, 4, 5, 6, 7, 8, 9, 10, 11, 12, 13, 14, 15, 16, 17, 18, 19, 20, 21, 22, 23, 24, 25, 26, 27, 28, 29, 30, 31, 32, 33, 34, 35, 36, 37, 38, 39], [0, 1, 2, 3, 4, 5, 6, 7, 8, 9, 10, 11, 12, 13, 14, 15, 16, 17, 18, 19, 20, 21, 22, 23, 24, 25, 26, 27, 28, 29, 30, 31, 32, 33, 34, 35, 36, 37, 38, 39, 40]] (by kernel_rfl) (by kernel_rfl) 253 hz (by kernel_rfl) (fun (xx : Option Addr × Nat × Option Addr × Nat) jx => match xx with | (a31_14, c31_14, a31_22, c31_22) => nth [.agg (bkA bn.conf bn.index bn.room (.slice lan bn.live.length lcn) (.slice dan bn.done.length dcn) bn.modes), .int .i64 bn.index, .int .i64 b.index, .int .i64 (b.index + 1), .bool false, .bool false, .pointer (some ⟨b13, 0, none⟩), .int .i64 ch.index, .int .i64 b.index, .int .i64 (b.index + 1), .bool false, .bool false, .bool false, .agg (bkA bn.conf bn.index bn.room (.slice lan bn.live.length lcn) (.slice dan bn.done.length dcn) bn.modes), .slice a31_14 ((liveV bn).length) c31_14, .int .i64 ((liveV bn).length), .pointer (some ⟨b2, 3, none⟩), .int .i64 c.calls, .bool false, .bool false, .bool false, .agg (bkA bn.conf bn.index bn.room (.slice lan bn.live.length lcn) (.slice dan bn.done.length dcn) bn.modes), .slice a31_22 bn.done.length c31_22, .int .i64 bn.done.length, .pointer (some ⟨b2, 3, none⟩), .int .i64 c.calls, .bool false, .bool false, .bool false, .map (some b26), .pointer (some ⟨b13, 1, none⟩), .pointer (some ⟨b13, 1, none⟩), .int .i64 ch.call.id, .int .i64 (endV E ch.call.id), .bool false, .bool false, undef, undef, undef, undef, .bool false, .bool false] jx) (fun (LL : Nat → Bool) (xx : Option Addr × Nat × Option Addr × Nat) ww => match xx with | (a31_14, c31_14, a31_22, c31_22) => Hp [] wa ww (bif LL 14 then (bif LL 22 then [rS a31_22 c31_22 8 (bn.done.map callRow), rS a31_14 c31_14 8 ((liveV bn).map callRow), rS a26_6 c26_6 8 ((liveV b).map callRow), rB b12 33 (bkL bn.conf bn.index bn.room (.slice lan bn.live.length lcn) (.slice dan bn.done.length dcn) bn.modes), rB b13 40 (chL ch), rS lan lcn 9 (bn.live.map rowOf), rS dan dcn 8 (bn.done.map callRow), rS a11_1 c11_1 8 ((liveV b).map callRow), rB b9 42 [.int .i64 x.kind, .int .i64 x.x.id, .int .i64 x.x.kind, .int .i64 x.x.src, .int .i64 x.x.dst, .int .i64 x.x.car, .int .i64 x.x.state, .int .i64 x.x.owner, .int .i64 x.x.born, .int .i64 x.n, .int .i64 x.m, .int .i64 x.ch.index, .int .i64 x.ch.call.id, .int .i64 x.ch.call.kind, .int .i64 x.ch.call.src, .int .i64 x.ch.call.dst, .int .i64 x.ch.call.car, .int .i64 x.ch.call.state, .int .i64 x.ch.call.owner, .int .i64 x.ch.call.born, .int .i64 x.ch.car, .int .i64 x.ch.mode], rB b5 33 (bkL b.conf b.index b.room (.slice la b.live.length lc) (.slice da b.done.length dc) b.modes), rA aa_ ac_ 40 11 (ys.map chgRow), rMp b26 E, rS la lc 9 (b.live.map rowOf), rS da dc 8 (b.done.map callRow), rB b2 24 (cL c), rS (some yx) pc 22 (ds.map deedRow)] else [rS a31_14 c31_14 8 ((liveV bn).map callRow), rS a26_6 c26_6 8 ((liveV b).map callRow), rB b12 33 (bkL bn.conf bn.index bn.room (.slice lan bn.live.length lcn) (.slice dan bn.done.length dcn) bn.modes), rB b13 40 (chL ch), rS lan lcn 9 (bn.live.map rowOf), rS dan dcn 8 (bn.done.map callRow), rS a11_1 c11_1 8 ((liveV b).map callRow), rB b9 42 [.int .i64 x.kind, .int .i64 x.x.id, .int .i64 x.x.kind, .int .i64 x.x.src, .int .i64 x.x.dst, .int .i64 x.x.car, .int .i64 x.x.state, .int .i64 x.x.owner, .int .i64 x.x.born, .int .i64 x.n, .int .i64 x.m, .int .i64 x.ch.index, .int .i64 x.ch.call.id, .int .i64 x.ch.call.kind, .int .i64 x.ch.call.src, .int .i64 x.ch.call.dst, .int .i64 x.ch.call.car, .int .i64 x.ch.call.state, .int .i64 x.ch.call.owner, .int .i64 x.ch.call.born, .int .i64 x.ch.car, .int .i64 x.ch.mode], rB b5 33 (bkL b.conf b.index b.room (.slice la b.live.length lc) (.slice da b.done.length dc) b.modes), rA aa_ ac_ 40 11 (ys.map chgRow), rMp b26 E, rS la lc 9 (b.live.map rowOf), rS da dc 8 (b.done.map callRow), rB b2 24 (cL c), rS (some yx) pc 22 (ds.map deedRow)]) else [rS a26_6 c26_6 8 ((liveV b).map callRow), rB b12 33 (bkL bn.conf bn.index bn.room (.slice lan bn.live.length lcn) (.slice dan bn.done.length dcn) bn.modes), rB b13 40 (chL ch), rS lan lcn 9 (bn.live.map rowOf), rS dan dcn 8 (bn.done.map callRow), rS a11_1 c11_1 8 ((liveV b).map callRow), rB b9 42 [.int .i64 x.kind, .int .i64 x.x.id, .int .i64 x.x.kind, .int .i64 x.x.src, .int .i64 x.x.dst, .int .i64 x.x.car, .int .i64 x.x.state, .int .i64 x.x.owner, .int .i64 x.x.born, .int .i64 x.n, .int .i64 x.m, .int .i64 x.ch.index, .int .i64 x.ch.call.id, .int .i64 x.ch.call.kind, .int .i64 x.ch.call.src, .int .i64 x.ch.call.dst, .int .i64 x.ch.call.car, .int .i64 x.ch.call.state, .int .i64 x.ch.call.owner, .int .i64 x.ch.call.born, .int .i64 x.ch.car, .int .i64 x.ch.mode], rB b5 33 (bkL b.conf b.index b.room (.slice la b.live.length lc) (.slice da b.done.length dc) b.modes), rA aa_ ac_ 40 11 (ys.map chgRow), rMp b26 E, rS la lc 9 (b.live.map rowOf), rS da dc 8 (b.done.map callRow), rB b2 24 (cL c), rS (some yx) pc 22 (ds.map deedRow)])) (default, default, default, default) H.out.drew ?_ (steps_al ?_) ?_ ?_
  · intro L1 L2 xx ww hL sg
    have lh14 := hL 14 (by decide)
    have lh22 := hL 22 (by decide)
    simp only [lh14, lh22] at sg
    exact sg
  · refine al_cons ?_ (al_cons ?_ (al_cons ?_ (al_cons ?_ (al_cons ?_ (al_cons ?_ (al_cons ?_ (al_cons ?_ (al_cons ?_ (al_cons ?_ (al_cons ?_ (al_cons ?_ (al_cons ?_ (al_cons ?_ (al_cons ?_ (al_cons ?_ (al_cons ?_ (al_cons ?_ (al_cons ?_ (al_cons ?_ (al_cons ?_ (al_cons ?_ (al_cons ?_ (al_cons ?_ (al_cons ?_ (al_cons ?_ (al_cons ?_ (al_cons ?_ (al_cons ?_ (al_cons ?_ (al_cons ?_ (al_cons ?_ (al_cons ?_ (al_cons ?_ (al_cons ?_ (al_cons ?_ (al_cons ?_ (al_cons ?_ (al_cons ?_ (al_cons ?_ (al_cons ?_ (al_cons ?_ (al_nil))))))))))))))))))))))))))))))))))))))))))
    · intro LL xx ac wc sg hst hwant QQ hgo
      obtain ⟨a31_14, c31_14, a31_22, c31_22⟩ := xx
      have H := Lib.hid hst
      simp only [sg.des 14 rfl, sg.des 22 rfl, cond_true, cond_false] at H
      refine hpA_load tybook_Book H rfl ((sg.free 12 (by kernel_rfl)).trans so12) hwant (by (repeat (first | exact List.Mem.head _ | apply List.Mem.tail))) (by rfl) rfl ?_
      exact hgo _ (a31_14, c31_14, a31_22, c31_22) _ (fun _ _ => rfl) rfl hst
    · intro LL xx ac wc sg hst hwant QQ hgo
      obtain ⟨a31_14, c31_14, a31_22, c31_22⟩ := xx
      have se127 : ac.eval (.tmp 127) = _ := (sg.slot 0 (sg.anc 0 rfl))
      have sg127 := gt_of se127
      (try simp only [nth] at se127 sg127)
      have H := Lib.hid hst
      simp only [sg.des 14 rfl, sg.des 22 rfl, cond_true, cond_false] at H
      refine op_call hwant hgo 11 #[.agg (bkA bn.conf bn.index bn.room (.slice lan bn.live.length lcn) (.slice dan bn.done.length dcn) bn.modes)] (by simp only [execOp]; go_simp) (indexC bn lan lcn dan dcn  wc (hp_held H (by (repeat (first | exact List.Mem.head _ | apply List.Mem.tail)))) (hp_held H (by (repeat (first | exact List.Mem.head _ | apply List.Mem.tail)))) (Lib.hid hI2.out.ok)) ?_
      rintro er wd ⟨rfl, hof⟩
      exact ⟨_, (a31_14, c31_14, a31_22, c31_22), rfl, fun _ _ => rfl, rfl, Hp.quiet hst hof⟩
    · intro LL xx ac wc sg hst hwant QQ hgo
      obtain ⟨a31_14, c31_14, a31_22, c31_22⟩ := xx
      exact op_val hwant hgo hst _ (exec_move rfl ((sg.free 10 (by kernel_rfl)).trans so10)) rfl
    · intro LL xx ac wc sg hst hwant QQ hgo
      obtain ⟨a31_14, c31_14, a31_22, c31_22⟩ := xx
      have se129 : ac.eval (.tmp 129) = _ := (sg.slot 2 (sg.anc 2 rfl))
      have sg129 := gt_of se129
      (try simp only [nth] at se129 sg129)
      have hnw : IntKind.i64.wrap (b.index + 1 : Int) = b.index + 1 := IntWalk.i64_in _ (by omega)
      exact op_val hwant hgo hst _ (by simp only [execOp, nth]; go_simp <;> omega) rfl
    · intro LL xx ac wc sg hst hwant QQ hgo
      obtain ⟨a31_14, c31_14, a31_22, c31_22⟩ := xx
      have se128 : ac.eval (.tmp 128) = _ := (sg.slot 1 (sg.anc 1 rfl))
      have sg128 := gt_of se128
      have se130 : ac.eval (.tmp 130) = _ := (sg.slot 3 (sg.anc 3 rfl))
      have sg130 := gt_of se130
      (try simp only [nth] at se128 sg128 se130 sg130)
      exact op_val hwant hgo hst _ (by simp only [execOp, nth]; go_simp <;> omega) rfl
    · intro LL xx ac wc sg hst hwant QQ hgo
      obtain ⟨a31_14, c31_14, a31_22, c31_22⟩ := xx
      exact op_val hwant hgo hst _ (exec_move rfl (sg.slot 4 (sg.anc 4 rfl))) rfl
    · intro LL xx ac wc sg hst hwant QQ hgo
      obtain ⟨a31_14, c31_14, a31_22, c31_22⟩ := xx
      have se13 : ac.eval (.tmp 13) = _ := ((sg.free 13 (by kernel_rfl)).trans so13)
      have sg13 := gt_of se13
      exact op_val hwant hgo hst _ (by simp only [execOp, nth]; go_simp <;> omega) rfl
    · intro LL xx ac wc sg hst hwant QQ hgo
      obtain ⟨a31_14, c31_14, a31_22, c31_22⟩ := xx
      have H := Lib.hid hst
      simp only [sg.des 14 rfl, sg.des 22 rfl, cond_true, cond_false] at H
      refine hpA_load1 tyint H rfl (sg.slot 6 (sg.anc 6 rfl)) hwant (by (repeat (first | exact List.Mem.head _ | apply List.Mem.tail))) (by rfl) ?_
      exact hgo _ (a31_14, c31_14, a31_22, c31_22) _ (fun _ _ => rfl) rfl hst
    · intro LL xx ac wc sg hst hwant QQ hgo
      obtain ⟨a31_14, c31_14, a31_22, c31_22⟩ := xx
      exact op_val hwant hgo hst _ (exec_move rfl ((sg.free 10 (by kernel_rfl)).trans so10)) rfl
    · intro LL xx ac wc sg hst hwant QQ hgo
      obtain ⟨a31_14, c31_14, a31_22, c31_22⟩ := xx
      have se135 : ac.eval (.tmp 135) = _ := (sg.slot 8 (sg.anc 8 rfl))
      have sg135 := gt_of se135
      (try simp only [nth] at se135 sg135)
      have hnw : IntKind.i64.wrap (b.index + 1 : Int) = b.index + 1 := IntWalk.i64_in _ (by omega)
      exact op_val hwant hgo hst _ (by simp only [execOp, nth]; go_simp <;> omega) rfl
    · intro LL xx ac wc sg hst hwant QQ hgo
      obtain ⟨a31_14, c31_14, a31_22, c31_22⟩ := xx
      have se134 : ac.eval (.tmp 134) = _ := (sg.slot 7 (sg.anc 7 rfl))
      have sg134 := gt_of se134
      have se136 : ac.eval (.tmp 136) = _ := (sg.slot 9 (sg.anc 9 rfl))
      have sg136 := gt_of se136
      (try simp only [nth] at se134 sg134 se136 sg136)
      exact op_val hwant hgo hst _ (by simp only [execOp, nth]; go_simp <;> omega) rfl
    · intro LL xx ac wc sg hst hwant QQ hgo
      obtain ⟨a31_14, c31_14, a31_22, c31_22⟩ := xx
      exact op_val hwant hgo hst (.bool false) (exec_pick (B := false) (U := undef) (V := .bool false) rfl (sg.slot 5 (sg.anc 5 rfl)) (fun h => by cases h) (fun _ => (sg.slot 10 (sg.anc 10 rfl)))) rfl
    · intro LL xx ac wc sg hst hwant QQ hgo
      obtain ⟨a31_14, c31_14, a31_22, c31_22⟩ := xx
      exact op_val hwant hgo hst _ (exec_move rfl (sg.slot 11 (sg.anc 11 rfl))) rfl
    · intro LL xx ac wc sg hst hwant QQ hgo
      obtain ⟨a31_14, c31_14, a31_22, c31_22⟩ := xx
      have H := Lib.hid hst
      simp only [sg.des 14 rfl, sg.des 22 rfl, cond_true, cond_false] at H
      refine hpA_load tybook_Book H rfl ((sg.free 12 (by kernel_rfl)).trans so12) hwant (by (repeat (first | exact List.Mem.head _ | apply List.Mem.tail))) (by rfl) rfl ?_
      exact hgo _ (a31_14, c31_14, a31_22, c31_22) _ (fun _ _ => rfl) rfl hst
    · intro LL xx ac wc sg hst hwant QQ hgo
      obtain ⟨_, _, a31_22, c31_22⟩ := xx
      have se140 : ac.eval (.tmp 140) = _ := (sg.slot 13 (sg.anc 13 rfl))
      have sg140 := gt_of se140
      (try simp only [nth] at se140 sg140)
      have H := Lib.hid hst
      simp only [sg.self, sg.des 22 rfl, cond_true, cond_false] at H
      refine op_call hwant hgo 12 #[.agg (bkA bn.conf bn.index bn.room (.slice lan bn.live.length lcn) (.slice dan bn.done.length dcn) bn.modes)] (by simp only [execOp]; go_simp) (liveC bn lan lcn dan dcn wc (hp_held H (by (repeat (first | exact List.Mem.head _ | apply List.Mem.tail)))) (hp_held H (by (repeat (first | exact List.Mem.head _ | apply List.Mem.tail)))) (Lib.hid hI2.out.ok)) ?_
      rintro er wd ⟨a31_14, c31_14, rfl, hgv⟩
      have H2 := hp_got H (Rs := []) hgv.2.2 hgv.1 (by decide) (From.new hgv.2.1) (fun r hr => by cases hr)
      exact ⟨_, (a31_14, c31_14, a31_22, c31_22), rfl, (sg.agree (x' := (a31_14, c31_14, a31_22, c31_22)) (n := 42) rfl (by (iterate 42 (refine ix_cons (by first | exact fun _ => rfl | exact no sg.self | exact no (sg.des _ rfl)) ?_)); exact ix_nil)), rfl, (by simp only [(show upd LL 14 14 = true from rfl), (show upd LL 14 22 = LL 22 from rfl), sg.des 22 rfl, cond_true, cond_false]; exact H2.out)⟩
    · intro LL xx ac wc sg hst hwant QQ hgo
      obtain ⟨a31_14, c31_14, a31_22, c31_22⟩ := xx
      have se141 : ac.eval (.tmp 141) = _ := (sg.slot 14 (sg.anc 14 rfl))
      have sg141 := gt_of se141
      (try simp only [nth] at se141 sg141)
      exact op_val hwant hgo hst _ (by simp only [execOp, nth]; go_simp <;> omega) rfl
    · intro LL xx ac wc sg hst hwant QQ hgo
      obtain ⟨a31_14, c31_14, a31_22, c31_22⟩ := xx
      have se2 : ac.eval (.tmp 2) = _ := ((sg.free 2 (by kernel_rfl)).trans so2)
      have sg2 := gt_of se2
      exact op_val hwant hgo hst _ (by simp only [execOp, nth]; go_simp <;> omega) rfl
    · intro LL xx ac wc sg hst hwant QQ hgo
      obtain ⟨a31_14, c31_14, a31_22, c31_22⟩ := xx
      rcases Bool.eq_false_or_eq_true (LL 14) with lh14 | lh14
      · skip
        have H := Lib.hid hst
        simp only [lh14, sg.des 22 rfl, cond_true, cond_false] at H
        refine hpA_load1 tyint H rfl (sg.slot 16 (sg.anc 16 rfl)) hwant (by (repeat (first | exact List.Mem.head _ | apply List.Mem.tail))) (by rfl) ?_
        exact hgo _ (a31_14, c31_14, a31_22, c31_22) _ (fun _ _ => rfl) rfl hst
      · skip
        have H := Lib.hid hst
        simp only [lh14, sg.des 22 rfl, cond_true, cond_false] at H
        refine hpA_load1 tyint H rfl (sg.slot 16 (sg.anc 16 rfl)) hwant (by (repeat (first | exact List.Mem.head _ | apply List.Mem.tail))) (by rfl) ?_
        exact hgo _ (a31_14, c31_14, a31_22, c31_22) _ (fun _ _ => rfl) rfl hst
    · intro LL xx ac wc sg hst hwant QQ hgo
      obtain ⟨a31_14, c31_14, a31_22, c31_22⟩ := xx
      have se142 : ac.eval (.tmp 142) = _ := (sg.slot 15 (sg.anc 15 rfl))
      have sg142 := gt_of se142
      have se144 : ac.eval (.tmp 144) = _ := (sg.slot 17 (sg.anc 17 rfl))
      have sg144 := gt_of se144
      (try simp only [nth] at se142 sg142 se144 sg144)
      exact op_val hwant hgo hst _ (by simp only [execOp, nth]; go_simp <;> omega) rfl
    · intro LL xx ac wc sg hst hwant QQ hgo
      obtain ⟨a31_14, c31_14, a31_22, c31_22⟩ := xx
      exact op_val hwant hgo hst (.bool false) (exec_pick (B := false) (U := undef) (V := .bool false) rfl (sg.slot 12 (sg.anc 12 rfl)) (fun h => by cases h) (fun _ => (sg.slot 18 (sg.anc 18 rfl)))) rfl
    · intro LL xx ac wc sg hst hwant QQ hgo
      obtain ⟨a31_14, c31_14, a31_22, c31_22⟩ := xx
      exact op_val hwant hgo hst _ (exec_move rfl (sg.slot 19 (sg.anc 19 rfl))) rfl
    · intro LL xx ac wc sg hst hwant QQ hgo
      obtain ⟨a31_14, c31_14, a31_22, c31_22⟩ := xx
      have H := Lib.hid hst
      simp only [sg.anc 14 rfl, sg.des 22 rfl, cond_true, cond_false] at H
      refine hpA_load tybook_Book H rfl ((sg.free 12 (by kernel_rfl)).trans so12) hwant (by (repeat (first | exact List.Mem.head _ | apply List.Mem.tail))) (by rfl) rfl ?_
      exact hgo _ (a31_14, c31_14, a31_22, c31_22) _ (fun _ _ => rfl) rfl hst
    · intro LL xx ac wc sg hst hwant QQ hgo
      obtain ⟨a31_14, c31_14, _, _⟩ := xx
      have se148 : ac.eval (.tmp 148) = _ := (sg.slot 21 (sg.anc 21 rfl))
      have sg148 := gt_of se148
      (try simp only [nth] at se148 sg148)
      have H := Lib.hid hst
      simp only [sg.anc 14 rfl, sg.self, cond_true, cond_false] at H
      refine op_call hwant hgo 17 #[.agg (bkA bn.conf bn.index bn.room (.slice lan bn.live.length lcn) (.slice dan bn.done.length dcn) bn.modes)] (by simp only [execOp]; go_simp) (doneC bn lan lcn dan dcn wc (hp_held H (by (repeat (first | exact List.Mem.head _ | apply List.Mem.tail)))) (hp_held H (by (repeat (first | exact List.Mem.head _ | apply List.Mem.tail)))) (Lib.hid hI2.out.ok)) ?_
      rintro er wd ⟨a31_22, c31_22, rfl, hgv⟩
      have H2 := hp_got H (Rs := []) hgv.2.2 hgv.1 (by decide) (From.new hgv.2.1) (fun r hr => by cases hr)
      exact ⟨_, (a31_14, c31_14, a31_22, c31_22), rfl, (sg.agree (x' := (a31_14, c31_14, a31_22, c31_22)) (n := 42) rfl (by (iterate 42 (refine ix_cons (by first | exact fun _ => rfl | exact no sg.self | exact no (sg.des _ rfl)) ?_)); exact ix_nil)), rfl, (by simp only [(show upd LL 22 14 = LL 14 from rfl), sg.anc 14 rfl, (show upd LL 22 22 = true from rfl), cond_true, cond_false]; exact H2.out)⟩
    · intro LL xx ac wc sg hst hwant QQ hgo
      obtain ⟨a31_14, c31_14, a31_22, c31_22⟩ := xx
      have se149 : ac.eval (.tmp 149) = _ := (sg.slot 22 (sg.anc 22 rfl))
      have sg149 := gt_of se149
      (try simp only [nth] at se149 sg149)
      exact op_val hwant hgo hst _ (by simp only [execOp, nth]; go_simp <;> omega) rfl
    · intro LL xx ac wc sg hst hwant QQ hgo
      obtain ⟨a31_14, c31_14, a31_22, c31_22⟩ := xx
      have se2 : ac.eval (.tmp 2) = _ := ((sg.free 2 (by kernel_rfl)).trans so2)
      have sg2 := gt_of se2
      exact op_val hwant hgo hst _ (by simp only [execOp, nth]; go_simp <;> omega) rfl
    · intro LL xx ac wc sg hst hwant QQ hgo
      obtain ⟨a31_14, c31_14, a31_22, c31_22⟩ := xx
      rcases Bool.eq_false_or_eq_true (LL 22) with lh22 | lh22
      · skip
        have H := Lib.hid hst
        simp only [sg.anc 14 rfl, lh22, cond_true, cond_false] at H
        refine hpA_load1 tyint H rfl (sg.slot 24 (sg.anc 24 rfl)) hwant (by (repeat (first | exact List.Mem.head _ | apply List.Mem.tail))) (by rfl) ?_
        exact hgo _ (a31_14, c31_14, a31_22, c31_22) _ (fun _ _ => rfl) rfl hst
      · skip
        have H := Lib.hid hst
        simp only [sg.anc 14 rfl, lh22, cond_true, cond_false] at H
        refine hpA_load1 tyint H rfl (sg.slot 24 (sg.anc 24 rfl)) hwant (by (repeat (first | exact List.Mem.head _ | apply List.Mem.tail))) (by rfl) ?_
        exact hgo _ (a31_14, c31_14, a31_22, c31_22) _ (fun _ _ => rfl) rfl hst
    · intro LL xx ac wc sg hst hwant QQ hgo
      obtain ⟨a31_14, c31_14, a31_22, c31_22⟩ := xx
      have se150 : ac.eval (.tmp 150) = _ := (sg.slot 23 (sg.anc 23 rfl))
      have sg150 := gt_of se150
      have se152 : ac.eval (.tmp 152) = _ := (sg.slot 25 (sg.anc 25 rfl))
      have sg152 := gt_of se152
      (try simp only [nth] at se150 sg150 se152 sg152)
      exact op_val hwant hgo hst _ (by simp only [execOp, nth]; go_simp <;> omega) rfl
    · intro LL xx ac wc sg hst hwant QQ hgo
      obtain ⟨a31_14, c31_14, a31_22, c31_22⟩ := xx
      exact op_val hwant hgo hst (.bool false) (exec_pick (B := false) (U := undef) (V := .bool false) rfl (sg.slot 20 (sg.anc 20 rfl)) (fun h => by cases h) (fun _ => (sg.slot 26 (sg.anc 26 rfl)))) rfl
    · intro LL xx ac wc sg hst hwant QQ hgo
      obtain ⟨a31_14, c31_14, a31_22, c31_22⟩ := xx
      exact op_val hwant hgo hst _ (exec_move rfl (sg.slot 27 (sg.anc 27 rfl))) rfl
    · intro LL xx ac wc sg hst hwant QQ hgo
      obtain ⟨a31_14, c31_14, a31_22, c31_22⟩ := xx
      exact op_val hwant hgo hst _ (exec_move rfl ((sg.free 7 (by kernel_rfl)).trans so7)) rfl
    · intro LL xx ac wc sg hst hwant QQ hgo
      obtain ⟨a31_14, c31_14, a31_22, c31_22⟩ := xx
      have se13 : ac.eval (.tmp 13) = _ := ((sg.free 13 (by kernel_rfl)).trans so13)
      have sg13 := gt_of se13
      exact op_val hwant hgo hst _ (by simp only [execOp, nth]; go_simp <;> omega) rfl
    · intro LL xx ac wc sg hst hwant QQ hgo
      obtain ⟨a31_14, c31_14, a31_22, c31_22⟩ := xx
      have se157 : ac.eval (.tmp 157) = _ := (sg.slot 30 (sg.anc 30 rfl))
      have sg157 := gt_of se157
      (try simp only [nth] at se157 sg157)
      exact op_val hwant hgo hst _ (by simp only [execOp, nth]; go_simp <;> omega) rfl
    · intro LL xx ac wc sg hst hwant QQ hgo
      obtain ⟨a31_14, c31_14, a31_22, c31_22⟩ := xx
      have H := Lib.hid hst
      simp only [sg.anc 14 rfl, sg.anc 22 rfl, cond_true, cond_false] at H
      refine hpA_load1 tyint H rfl (sg.slot 31 (sg.anc 31 rfl)) hwant (by (repeat (first | exact List.Mem.head _ | apply List.Mem.tail))) (by rfl) ?_
      exact hgo _ (a31_14, c31_14, a31_22, c31_22) _ (fun _ _ => rfl) rfl hst
    · intro LL xx ac wc sg hst hwant QQ hgo
      obtain ⟨a31_14, c31_14, a31_22, c31_22⟩ := xx
      have H := Lib.hid hst
      simp only [sg.anc 14 rfl, sg.anc 22 rfl, cond_true, cond_false] at H
      exact op_val hwant hgo hst _ (hp_look H rfl rfl (sg.slot 29 (sg.anc 29 rfl)) (sg.slot 32 (sg.anc 32 rfl)) (by (repeat (first | exact List.Mem.head _ | apply List.Mem.tail))) hkw) rfl
    · intro LL xx ac wc sg hst hwant QQ hgo
      obtain ⟨a31_14, c31_14, a31_22, c31_22⟩ := xx
      have se160 : ac.eval (.tmp 160) = _ := (sg.slot 33 (sg.anc 33 rfl))
      have sg160 := gt_of se160
      (try simp only [nth] at se160 sg160)
      exact op_val hwant hgo hst _ (by simp only [execOp, nth]; go_simp <;> omega) rfl
    · intro LL xx ac wc sg hst hwant QQ hgo
      obtain ⟨a31_14, c31_14, a31_22, c31_22⟩ := xx
      exact op_val hwant hgo hst _ (exec_move rfl (sg.slot 34 (sg.anc 34 rfl))) rfl
    · intro LL xx ac wc sg hst hwant QQ hgo
      exact absurd ((want_t rfl rfl (sg.slot 35 (sg.anc 35 rfl))).symm.trans hwant) (by simp)
    · intro LL xx ac wc sg hst hwant QQ hgo
      exact absurd ((want_t rfl rfl (sg.slot 35 (sg.anc 35 rfl))).symm.trans hwant) (by simp)
    · intro LL xx ac wc sg hst hwant QQ hgo
      exact absurd ((want_t rfl rfl (sg.slot 35 (sg.anc 35 rfl))).symm.trans hwant) (by simp)
    · intro LL xx ac wc sg hst hwant QQ hgo
      exact absurd ((want_t rfl rfl (sg.slot 35 (sg.anc 35 rfl))).symm.trans hwant) (by simp)
    · intro LL xx ac wc sg hst hwant QQ hgo
      obtain ⟨a31_14, c31_14, a31_22, c31_22⟩ := xx
      exact op_val hwant hgo hst (.bool false) (exec_pick (B := false) (U := undef) (V := .bool false) rfl (sg.slot 35 (sg.anc 35 rfl)) (fun h => by cases h) (fun _ => rfl)) rfl
    · intro LL xx ac wc sg hst hwant QQ hgo
      obtain ⟨a31_14, c31_14, a31_22, c31_22⟩ := xx
      exact op_val hwant hgo hst (.bool false) (exec_pick (B := false) (U := undef) (V := .bool false) rfl (sg.slot 28 (sg.anc 28 rfl)) (fun h => by cases h) (fun _ => (sg.slot 40 (sg.anc 40 rfl)))) rfl
  · refine skips [6, 7, 8, 9, 10, 13, 14, 15, 16, 17, 18, 21, 22, 23, 24, 25, 26, 29, 30, 31, 32, 33, 34, 35, 36, 37, 38, 39, 40] (by kernel_rfl) ?_
    refine List.forall_mem_cons.2 ⟨?_, List.forall_mem_cons.2 ⟨?_, List.forall_mem_cons.2 ⟨?_, List.forall_mem_cons.2 ⟨?_, List.forall_mem_cons.2 ⟨?_, List.forall_mem_cons.2 ⟨?_, List.forall_mem_cons.2 ⟨?_, List.forall_mem_cons.2 ⟨?_, List.forall_mem_cons.2 ⟨?_, List.forall_mem_cons.2 ⟨?_, List.forall_mem_cons.2 ⟨?_, List.forall_mem_cons.2 ⟨?_, List.forall_mem_cons.2 ⟨?_, List.forall_mem_cons.2 ⟨?_, List.forall_mem_cons.2 ⟨?_, List.forall_mem_cons.2 ⟨?_, List.forall_mem_cons.2 ⟨?_, List.forall_mem_cons.2 ⟨?_, List.forall_mem_cons.2 ⟨?_, List.forall_mem_cons.2 ⟨?_, List.forall_mem_cons.2 ⟨?_, List.forall_mem_cons.2 ⟨?_, List.forall_mem_cons.2 ⟨?_, List.forall_mem_cons.2 ⟨?_, List.forall_mem_cons.2 ⟨?_, List.forall_mem_cons.2 ⟨?_, List.forall_mem_cons.2 ⟨?_, List.forall_mem_cons.2 ⟨?_, List.forall_mem_cons.2 ⟨?_, fun _ h => by cases h⟩⟩⟩⟩⟩⟩⟩⟩⟩⟩⟩⟩⟩⟩⟩⟩⟩⟩⟩⟩⟩⟩⟩⟩⟩⟩⟩⟩⟩
    · intro oo hop LL xx ac sg hwant
      cases Option.some.inj hop
      obtain ⟨a31_14, c31_14, a31_22, c31_22⟩ := xx
      exact absurd ((want_f rfl rfl (sg.slot 5 (sg.anc 5 rfl))).symm.trans hwant) (by decide)
    · intro oo hop LL xx ac sg hwant
      cases Option.some.inj hop
      obtain ⟨a31_14, c31_14, a31_22, c31_22⟩ := xx
      exact absurd ((want_f rfl rfl (sg.slot 5 (sg.anc 5 rfl))).symm.trans hwant) (by decide)
    · intro oo hop LL xx ac sg hwant
      cases Option.some.inj hop
      obtain ⟨a31_14, c31_14, a31_22, c31_22⟩ := xx
      exact absurd ((want_f rfl rfl (sg.slot 5 (sg.anc 5 rfl))).symm.trans hwant) (by decide)
    · intro oo hop LL xx ac sg hwant
      cases Option.some.inj hop
      obtain ⟨a31_14, c31_14, a31_22, c31_22⟩ := xx
      exact absurd ((want_f rfl rfl (sg.slot 5 (sg.anc 5 rfl))).symm.trans hwant) (by decide)
    · intro oo hop LL xx ac sg hwant
      cases Option.some.inj hop
      obtain ⟨a31_14, c31_14, a31_22, c31_22⟩ := xx
      exact absurd ((want_f rfl rfl (sg.slot 5 (sg.anc 5 rfl))).symm.trans hwant) (by decide)
    · intro oo hop LL xx ac sg hwant
      cases Option.some.inj hop
      obtain ⟨a31_14, c31_14, a31_22, c31_22⟩ := xx
      exact absurd ((want_f rfl rfl (sg.slot 12 (sg.anc 12 rfl))).symm.trans hwant) (by decide)
    · intro oo hop LL xx ac sg hwant
      cases Option.some.inj hop
      obtain ⟨a31_14, c31_14, a31_22, c31_22⟩ := xx
      exact absurd ((want_f rfl rfl (sg.slot 12 (sg.anc 12 rfl))).symm.trans hwant) (by decide)
    · intro oo hop LL xx ac sg hwant
      cases Option.some.inj hop
      obtain ⟨a31_14, c31_14, a31_22, c31_22⟩ := xx
      exact absurd ((want_f rfl rfl (sg.slot 12 (sg.anc 12 rfl))).symm.trans hwant) (by decide)
    · intro oo hop LL xx ac sg hwant
      cases Option.some.inj hop
      obtain ⟨a31_14, c31_14, a31_22, c31_22⟩ := xx
      exact absurd ((want_f rfl rfl (sg.slot 12 (sg.anc 12 rfl))).symm.trans hwant) (by decide)
    · intro oo hop LL xx ac sg hwant
      cases Option.some.inj hop
      obtain ⟨a31_14, c31_14, a31_22, c31_22⟩ := xx
      exact absurd ((want_f rfl rfl (sg.slot 12 (sg.anc 12 rfl))).symm.trans hwant) (by decide)
    · intro oo hop LL xx ac sg hwant
      cases Option.some.inj hop
      obtain ⟨a31_14, c31_14, a31_22, c31_22⟩ := xx
      exact absurd ((want_f rfl rfl (sg.slot 12 (sg.anc 12 rfl))).symm.trans hwant) (by decide)
    · intro oo hop LL xx ac sg hwant
      cases Option.some.inj hop
      obtain ⟨a31_14, c31_14, a31_22, c31_22⟩ := xx
      exact absurd ((want_f rfl rfl (sg.slot 20 (sg.anc 20 rfl))).symm.trans hwant) (by decide)
    · intro oo hop LL xx ac sg hwant
      cases Option.some.inj hop
      obtain ⟨a31_14, c31_14, a31_22, c31_22⟩ := xx
      exact absurd ((want_f rfl rfl (sg.slot 20 (sg.anc 20 rfl))).symm.trans hwant) (by decide)
    · intro oo hop LL xx ac sg hwant
      cases Option.some.inj hop
      obtain ⟨a31_14, c31_14, a31_22, c31_22⟩ := xx
      exact absurd ((want_f rfl rfl (sg.slot 20 (sg.anc 20 rfl))).symm.trans hwant) (by decide)
    · intro oo hop LL xx ac sg hwant
      cases Option.some.inj hop
      obtain ⟨a31_14, c31_14, a31_22, c31_22⟩ := xx
      exact absurd ((want_f rfl rfl (sg.slot 20 (sg.anc 20 rfl))).symm.trans hwant) (by decide)
    · intro oo hop LL xx ac sg hwant
      cases Option.some.inj hop
      obtain ⟨a31_14, c31_14, a31_22, c31_22⟩ := xx
      exact absurd ((want_f rfl rfl (sg.slot 20 (sg.anc 20 rfl))).symm.trans hwant) (by decide)
    · intro oo hop LL xx ac sg hwant
      cases Option.some.inj hop
      obtain ⟨a31_14, c31_14, a31_22, c31_22⟩ := xx
      exact absurd ((want_f rfl rfl (sg.slot 20 (sg.anc 20 rfl))).symm.trans hwant) (by decide)
    · intro oo hop LL xx ac sg hwant
      cases Option.some.inj hop
      obtain ⟨a31_14, c31_14, a31_22, c31_22⟩ := xx
      exact absurd ((want_f rfl rfl (sg.slot 28 (sg.anc 28 rfl))).symm.trans hwant) (by decide)
    · intro oo hop LL xx ac sg hwant
      cases Option.some.inj hop
      obtain ⟨a31_14, c31_14, a31_22, c31_22⟩ := xx
      exact absurd ((want_f rfl rfl (sg.slot 28 (sg.anc 28 rfl))).symm.trans hwant) (by decide)
    · intro oo hop LL xx ac sg hwant
      cases Option.some.inj hop
      obtain ⟨a31_14, c31_14, a31_22, c31_22⟩ := xx
      exact absurd ((want_f rfl rfl (sg.slot 28 (sg.anc 28 rfl))).symm.trans hwant) (by decide)
    · intro oo hop LL xx ac sg hwant
      cases Option.some.inj hop
      obtain ⟨a31_14, c31_14, a31_22, c31_22⟩ := xx
      exact absurd ((want_f rfl rfl (sg.slot 28 (sg.anc 28 rfl))).symm.trans hwant) (by decide)
    · intro oo hop LL xx ac sg hwant
      cases Option.some.inj hop
      obtain ⟨a31_14, c31_14, a31_22, c31_22⟩ := xx
      exact absurd ((want_f rfl rfl (sg.slot 28 (sg.anc 28 rfl))).symm.trans hwant) (by decide)
    · intro oo hop LL xx ac sg hwant
      cases Option.some.inj hop
      obtain ⟨a31_14, c31_14, a31_22, c31_22⟩ := xx
      exact absurd ((want_f rfl rfl (sg.slot 28 (sg.anc 28 rfl))).symm.trans hwant) (by decide)
    · intro oo hop LL xx ac sg hwant
      cases Option.some.inj hop
      obtain ⟨a31_14, c31_14, a31_22, c31_22⟩ := xx
      exact absurd ((want_f rfl rfl (sg.slot 28 (sg.anc 28 rfl))).symm.trans hwant) (by decide)
    · intro oo hop LL xx ac sg hwant
      cases Option.some.inj hop
      obtain ⟨a31_14, c31_14, a31_22, c31_22⟩ := xx
      exact ⟨rfl, fun _ h => h⟩
    · intro oo hop LL xx ac sg hwant
      cases Option.some.inj hop
      obtain ⟨a31_14, c31_14, a31_22, c31_22⟩ := xx
      exact ⟨rfl, fun _ h => h⟩
    · intro oo hop LL xx ac sg hwant
      cases Option.some.inj hop
      obtain ⟨a31_14, c31_14, a31_22, c31_22⟩ := xx
      exact ⟨rfl, fun _ h => h⟩
    · intro oo hop LL xx ac sg hwant
      cases Option.some.inj hop
      obtain ⟨a31_14, c31_14, a31_22, c31_22⟩ := xx
      exact ⟨rfl, fun _ h => h⟩
    · intro oo hop LL xx ac sg hwant
      cases Option.some.inj hop
      obtain ⟨a31_14, c31_14, a31_22, c31_22⟩ := xx
      exact absurd ((want_f rfl rfl (sg.slot 28 (sg.anc 28 rfl))).symm.trans hwant) (by decide)
  · intro xx ac1 wz hfr hsl hst
    obtain ⟨a31_14, c31_14, a31_22, c31_22⟩ := xx
    exact hfin a31_14 c31_14 a31_22 c31_22 ac1 wz (hfr.size.trans hz) hfr.defers (fr_keep hfr [127, 128, 129, 130, 131, 132, 133, 134, 135, 136, 137, 138, 139, 140, 141, 142, 143, 144, 145, 146, 147, 148, 149, 150, 151, 152, 153, 154, 155, 156, 157, 158, 159, 160, 161, 162, 163, 164, 165, 166, 167, 168] (by kernel_rfl)) (hsl 41 (by decide)) (Lib.hid hst)
set_option maxHeartbeats 4000000 in
set_option maxRecDepth 20000 in
theorem replays_w_r41 (c : Cfg) (pa : Option Addr) (pc : Nat) (ds : List DeedV) (b2 : Nat) (b5 : Nat) (b26 : Nat) (i : Nat) (b : BookV) (la : Option Addr) (lc : Nat) (da : Option Addr) (dc : Nat) (ac_ : Nat) (ys : List ChgV) (E : List Int) (b15 : Nat) (j : Nat) (r : BookV) (ra : Option Addr) (rc : Nat) (sa : Option Addr) (sc : Nat) (y : Addr) (z : ChgV) (hi : i ≤ ds.length) (hi2 : i ≤ 60) (hyi : ys.length ≤ i) (hbi : 0 ≤ b.index ∧ b.index ≤ 1073741824) (hl64 : (liveV b).length ≤ 64) (hj : j ≤ ys.length) (z11d : j < ys.length) (hz : Hid (ys[j]? = some z)) (HRz : Hid ((ys.map chgRow)[j]? = some [.int .i64 z.index, .int .i64 z.call.id, .int .i64 z.call.kind, .int .i64 z.call.src, .int .i64 z.call.dst, .int .i64 z.call.car, .int .i64 z.call.state, .int .i64 z.call.owner, .int .i64 z.call.born, .int .i64 z.car, .int .i64 z.mode])) (hIr : Hid (InvB r)) (hrx : r.index ≤ (j : Int) ∧ (j : Int) ≤ r.index) (hz0 : ((applyV r z).2 != 0) = false) (hchz : -9223372036854775808 ≤ z.index ∧ z.index ≤ 9223372036854775807) {wa wb : World} (H : Hid (Hp [] wa wb [rB b15 33 (bkL r.conf r.index r.room (.slice ra r.live.length rc) (.slice sa r.done.length sc) r.modes), rS ra rc 9 (r.live.map rowOf), rS sa sc 8 (r.done.map callRow), rB b5 33 (bkL b.conf b.index b.room (.slice la b.live.length lc) (.slice da b.done.length dc) b.modes), rA (some y) ac_ 40 11 (ys.map chgRow), rMp b26 E, rS la lc 9 (b.live.map rowOf), rS da dc 8 (b.done.map callRow), rB b2 24 (cL c), rS pa pc 22 (ds.map deedRow)])) (ac0 : Act) (hz : ac0.tmps.size = 253) (so6 : ac0.eval (.tmp 6) = .slice (some y) ys.length ac_) (so15 : ac0.eval (.tmp 15) = .pointer (some ⟨b15, 0, none⟩)) (so16 : ac0.eval (.tmp 16) = .int .i64 j) {QR : Exit → Act → World → Prop} (hfin : ∀ (b17 : Nat) (la41_5 : Option Addr) (lc41_5 : Nat) (da41_5 : Option Addr) (dc41_5 : Nat) (ac1 : Act) (wz : World), ac1.tmps.size = 253 → ac1.defers = ac0.defers → (∀ t, ([17, 18, 196, 197, 198, 199, 200, 201, 202, 203, 204] : List Nat).contains t = false → ac1.eval (.tmp t) = ac0.eval (.tmp t)) → ac1.eval (.tmp 17) = .pointer (some ⟨b17, 0, none⟩) → ac1.eval (.tmp 18) = .int .i64 ((applyV r z).2) →  Hid (Hp [] wa wz [rS la41_5 lc41_5 9 (((applyV r z).1).live.map rowOf), rS da41_5 dc41_5 8 (((applyV r z).1).done.map callRow), rB b17 33 (bkL (((applyV r z).1).conf) (((applyV r z).1).index) (((applyV r z).1).room) (.slice la41_5 (((applyV r z).1).live.length) lc41_5) (.slice da41_5 (((applyV r z).1).done.length) dc41_5) (((applyV r z).1).modes)), rB b15 33 (bkL r.conf r.index r.room (.slice ra r.live.length rc) (.slice sa r.done.length sc) r.modes), rS ra rc 9 (r.live.map rowOf), rS sa sc 8 (r.done.map callRow), rB b5 33 (bkL b.conf b.index b.room (.slice la b.live.length lc) (.slice da b.done.length dc) b.modes), rA (some y) ac_ 40 11 (ys.map chgRow), rMp b26 E, rS la lc 9 (b.live.map rowOf), rS da dc 8 (b.done.map callRow), rB b2 24 (cL c), rS pa pc 22 (ds.map deedRow)]) → QR .normal ac1 wz) : (regAt Try.f3 41).wp Try.prog QR ac0 wb := by
  refine wp_region_st mixedP ⟨[0, 0, 0, 1, 2, 3, 4, 5, 5, 0, 6, 7], by kernel_rfl⟩ [[], [], [], [1, 2], [1, 2, 3], [0, 1, 2, 3, 4], [0, 1, 2, 3, 4, 5], [0, 1, 2, 3, 4, 5, 6], [0, 1, 2, 3, 4, 5, 6], [], [0, 1, 2, 3, 4, 5, 6, 7, 9], [0, 1, 2, 3, 4, 5, 6, 7, 8, 9, 10]] (by kernel_rfl) (by kernel_rfl) 253 hz (by kernel_rfl) (fun (xx : Nat × Option Addr × Nat × Option Addr × Nat) jx => match xx with | (b17, la41_5, lc41_5, da41_5, dc41_5) => nth [.agg (bkA r.conf r.index r.room (.slice ra r.live.length rc) (.slice sa r.done.length sc) r.modes), .slice (some y) ys.length ac_, .int .i64 j, .pointer (some (y.add (j * 11))), .agg (chA z), .tuple #[.agg (bkA (((applyV r z).1).conf) (((applyV r z).1).index) (((applyV r z).1).room) (.slice la41_5 (((applyV r z).1).live.length) lc41_5) (.slice da41_5 (((applyV r z).1).done.length) dc41_5) (((applyV r z).1).modes)), .int .i64 ((applyV r z).2)], .tuple #[.agg (bkA (((applyV r z).1).conf) (((applyV r z).1).index) (((applyV r z).1).room) (.slice la41_5 (((applyV r z).1).live.length) lc41_5) (.slice da41_5 (((applyV r z).1).done.length) dc41_5) (((applyV r z).1).modes)), .int .i64 ((applyV r z).2)], .agg (bkA (((applyV r z).1).conf) (((applyV r z).1).index) (((applyV r z).1).room) (.slice la41_5 (((applyV r z).1).live.length) lc41_5) (.slice da41_5 (((applyV r z).1).done.length) dc41_5) (((applyV r z).1).modes)), .int .i64 ((applyV r z).2), .pointer (some ⟨b17, 0, none⟩), undef, .int .i64 ((applyV r z).2)] jx) (fun (LL : Nat → Bool) (xx : Nat × Option Addr × Nat × Option Addr × Nat) ww => match xx with | (b17, la41_5, lc41_5, da41_5, dc41_5) => Hp [] wa ww (bif LL 9 then (bif LL 5 then (bif LL 10 then [rS la41_5 lc41_5 9 (((applyV r z).1).live.map rowOf), rS da41_5 dc41_5 8 (((applyV r z).1).done.map callRow), rB b17 33 (bkL (((applyV r z).1).conf) (((applyV r z).1).index) (((applyV r z).1).room) (.slice la41_5 (((applyV r z).1).live.length) lc41_5) (.slice da41_5 (((applyV r z).1).done.length) dc41_5) (((applyV r z).1).modes)), rB b15 33 (bkL r.conf r.index r.room (.slice ra r.live.length rc) (.slice sa r.done.length sc) r.modes), rS ra rc 9 (r.live.map rowOf), rS sa sc 8 (r.done.map callRow), rB b5 33 (bkL b.conf b.index b.room (.slice la b.live.length lc) (.slice da b.done.length dc) b.modes), rA (some y) ac_ 40 11 (ys.map chgRow), rMp b26 E, rS la lc 9 (b.live.map rowOf), rS da dc 8 (b.done.map callRow), rB b2 24 (cL c), rS pa pc 22 (ds.map deedRow)] else [rS la41_5 lc41_5 9 (((applyV r z).1).live.map rowOf), rS da41_5 dc41_5 8 (((applyV r z).1).done.map callRow), rB b17 33 (bkL zeroF 0 0 (.slice none 0 0) (.slice none 0 0) ([0, 0, 0, 0])), rB b15 33 (bkL r.conf r.index r.room (.slice ra r.live.length rc) (.slice sa r.done.length sc) r.modes), rS ra rc 9 (r.live.map rowOf), rS sa sc 8 (r.done.map callRow), rB b5 33 (bkL b.conf b.index b.room (.slice la b.live.length lc) (.slice da b.done.length dc) b.modes), rA (some y) ac_ 40 11 (ys.map chgRow), rMp b26 E, rS la lc 9 (b.live.map rowOf), rS da dc 8 (b.done.map callRow), rB b2 24 (cL c), rS pa pc 22 (ds.map deedRow)]) else [rB b17 33 (bkL zeroF 0 0 (.slice none 0 0) (.slice none 0 0) ([0, 0, 0, 0])), rB b15 33 (bkL r.conf r.index r.room (.slice ra r.live.length rc) (.slice sa r.done.length sc) r.modes), rS ra rc 9 (r.live.map rowOf), rS sa sc 8 (r.done.map callRow), rB b5 33 (bkL b.conf b.index b.room (.slice la b.live.length lc) (.slice da b.done.length dc) b.modes), rA (some y) ac_ 40 11 (ys.map chgRow), rMp b26 E, rS la lc 9 (b.live.map rowOf), rS da dc 8 (b.done.map callRow), rB b2 24 (cL c), rS pa pc 22 (ds.map deedRow)]) else (bif LL 5 then [rS la41_5 lc41_5 9 (((applyV r z).1).live.map rowOf), rS da41_5 dc41_5 8 (((applyV r z).1).done.map callRow), rB b15 33 (bkL r.conf r.index r.room (.slice ra r.live.length rc) (.slice sa r.done.length sc) r.modes), rS ra rc 9 (r.live.map rowOf), rS sa sc 8 (r.done.map callRow), rB b5 33 (bkL b.conf b.index b.room (.slice la b.live.length lc) (.slice da b.done.length dc) b.modes), rA (some y) ac_ 40 11 (ys.map chgRow), rMp b26 E, rS la lc 9 (b.live.map rowOf), rS da dc 8 (b.done.map callRow), rB b2 24 (cL c), rS pa pc 22 (ds.map deedRow)] else [rB b15 33 (bkL r.conf r.index r.room (.slice ra r.live.length rc) (.slice sa r.done.length sc) r.modes), rS ra rc 9 (r.live.map rowOf), rS sa sc 8 (r.done.map callRow), rB b5 33 (bkL b.conf b.index b.room (.slice la b.live.length lc) (.slice da b.done.length dc) b.modes), rA (some y) ac_ 40 11 (ys.map chgRow), rMp b26 E, rS la lc 9 (b.live.map rowOf), rS da dc 8 (b.done.map callRow), rB b2 24 (cL c), rS pa pc 22 (ds.map deedRow)]))) (default, default, default, default, default) H.out.drew ?_ (steps_al ?_) ?_ ?_
  · intro L1 L2 xx ww hL sg
    have lh9 := hL 9 (by decide)
    have lh5 := hL 5 (by decide)
    have lh10 := hL 10 (by decide)
    simp only [lh9, lh5, lh10] at sg
    exact sg
  · refine al_cons ?_ (al_cons ?_ (al_cons ?_ (al_cons ?_ (al_cons ?_ (al_cons ?_ (al_cons ?_ (al_cons ?_ (al_cons ?_ (al_cons ?_ (al_cons ?_ (al_cons ?_ (al_nil))))))))))))
    · intro LL xx ac wc sg hst hwant QQ hgo
      obtain ⟨b17, la41_5, lc41_5, da41_5, dc41_5⟩ := xx
      rcases Bool.eq_false_or_eq_true (LL 9) with lh9 | lh9
      · skip
        have H := Lib.hid hst
        simp only [lh9, sg.des 5 rfl, sg.des 10 rfl, cond_true, cond_false] at H
        refine hpA_load tybook_Book H rfl ((sg.free 15 (by kernel_rfl)).trans so15) hwant (by (repeat (first | exact List.Mem.head _ | apply List.Mem.tail))) (by rfl) rfl ?_
        exact hgo _ (b17, la41_5, lc41_5, da41_5, dc41_5) _ (fun _ _ => rfl) rfl hst
      · skip
        have H := Lib.hid hst
        simp only [lh9, sg.des 5 rfl, sg.des 10 rfl, cond_true, cond_false] at H
        refine hpA_load tybook_Book H rfl ((sg.free 15 (by kernel_rfl)).trans so15) hwant (by (repeat (first | exact List.Mem.head _ | apply List.Mem.tail))) (by rfl) rfl ?_
        exact hgo _ (b17, la41_5, lc41_5, da41_5, dc41_5) _ (fun _ _ => rfl) rfl hst
    · intro LL xx ac wc sg hst hwant QQ hgo
      obtain ⟨b17, la41_5, lc41_5, da41_5, dc41_5⟩ := xx
      exact op_val hwant hgo hst _ (exec_move rfl ((sg.free 6 (by kernel_rfl)).trans so6)) rfl
    · intro LL xx ac wc sg hst hwant QQ hgo
      obtain ⟨b17, la41_5, lc41_5, da41_5, dc41_5⟩ := xx
      exact op_val hwant hgo hst _ (exec_move rfl ((sg.free 16 (by kernel_rfl)).trans so16)) rfl
    · intro LL xx ac wc sg hst hwant QQ hgo
      obtain ⟨b17, la41_5, lc41_5, da41_5, dc41_5⟩ := xx
      have se198 : ac.eval (.tmp 198) = _ := (sg.slot 1 (sg.anc 1 rfl))
      have sg198 := gt_of se198
      have se199 : ac.eval (.tmp 199) = _ := (sg.slot 2 (sg.anc 2 rfl))
      have sg199 := gt_of se199
      (try simp only [nth] at se198 sg198 se199 sg199)
      exact op_val hwant hgo hst _ (by simp only [execOp, nth]; go_simp <;> omega) rfl
    · intro LL xx ac wc sg hst hwant QQ hgo
      obtain ⟨b17, la41_5, lc41_5, da41_5, dc41_5⟩ := xx
      rcases Bool.eq_false_or_eq_true (LL 9) with lh9 | lh9
      · skip
        have H := Lib.hid hst
        simp only [lh9, sg.des 5 rfl, sg.des 10 rfl, cond_true, cond_false] at H
        replace H := hp_read H 5 rfl
        refine hpS_load tyapi_Change H (y := y) rfl (sg.slot 3 (sg.anc 3 rfl)) hwant (by (repeat (first | exact List.Mem.head _ | apply List.Mem.tail))) HRz.out rfl ?_
        exact hgo _ (b17, la41_5, lc41_5, da41_5, dc41_5) _ (fun _ _ => rfl) rfl hst
      · skip
        have H := Lib.hid hst
        simp only [lh9, sg.des 5 rfl, sg.des 10 rfl, cond_true, cond_false] at H
        replace H := hp_read H 4 rfl
        refine hpS_load tyapi_Change H (y := y) rfl (sg.slot 3 (sg.anc 3 rfl)) hwant (by (repeat (first | exact List.Mem.head _ | apply List.Mem.tail))) HRz.out rfl ?_
        exact hgo _ (b17, la41_5, lc41_5, da41_5, dc41_5) _ (fun _ _ => rfl) rfl hst
    · intro LL xx ac wc sg hst hwant QQ hgo
      obtain ⟨b17, _, _, _, _⟩ := xx
      have se197 : ac.eval (.tmp 197) = _ := (sg.slot 0 (sg.anc 0 rfl))
      have sg197 := gt_of se197
      have se201 : ac.eval (.tmp 201) = _ := (sg.slot 4 (sg.anc 4 rfl))
      have sg201 := gt_of se201
      (try simp only [nth] at se197 sg197 se201 sg201)
      rcases Bool.eq_false_or_eq_true (LL 9) with lh9 | lh9
      · skip
        have H := Lib.hid hst
        simp only [lh9, sg.self, sg.des 10 rfl, cond_true, cond_false] at H
        refine op_call hwant hgo 16 #[.agg (bkA r.conf r.index r.room (.slice ra r.live.length rc) (.slice sa r.done.length sc) r.modes), .agg (chA z)] (by simp only [execOp]; go_simp) (applyC r ra rc sa sc z wc (hp_held H (by (repeat (first | exact List.Mem.head _ | apply List.Mem.tail)))) (hp_held H (by (repeat (first | exact List.Mem.head _ | apply List.Mem.tail)))) (Lib.hid hIr.out.ok) ) ?_
        rintro er wd ⟨la41_5, lc41_5, da41_5, dc41_5, rfl, hg⟩
        have H2 := hp_gotB H hg.2.2.2.2 hg.1 hg.2.1 (by decide) (by decide) hg.2.2.1 hg.2.2.2.1 (List.forall_mem_cons.2 ⟨(by (repeat (first | exact List.Mem.head _ | apply List.Mem.tail))), List.forall_mem_cons.2 ⟨(by (repeat (first | exact List.Mem.head _ | apply List.Mem.tail))), fun _ h => by cases h⟩⟩)
        exact ⟨_, (b17, la41_5, lc41_5, da41_5, dc41_5), rfl, (sg.agree (x' := (b17, la41_5, lc41_5, da41_5, dc41_5)) (n := 12) rfl (by (iterate 12 (refine ix_cons (by first | exact fun _ => rfl | exact no sg.self | exact no (sg.des _ rfl)) ?_)); exact ix_nil)), rfl, (by simp only [(show upd LL 5 9 = LL 9 from rfl), lh9, (show upd LL 5 5 = true from rfl), (show upd LL 5 10 = LL 10 from rfl), sg.des 10 rfl, cond_true, cond_false]; exact H2.out)⟩
      · skip
        have H := Lib.hid hst
        simp only [lh9, sg.self, sg.des 10 rfl, cond_true, cond_false] at H
        refine op_call hwant hgo 16 #[.agg (bkA r.conf r.index r.room (.slice ra r.live.length rc) (.slice sa r.done.length sc) r.modes), .agg (chA z)] (by simp only [execOp]; go_simp) (applyC r ra rc sa sc z wc (hp_held H (by (repeat (first | exact List.Mem.head _ | apply List.Mem.tail)))) (hp_held H (by (repeat (first | exact List.Mem.head _ | apply List.Mem.tail)))) (Lib.hid hIr.out.ok) ) ?_
        rintro er wd ⟨la41_5, lc41_5, da41_5, dc41_5, rfl, hg⟩
        have H2 := hp_gotB H hg.2.2.2.2 hg.1 hg.2.1 (by decide) (by decide) hg.2.2.1 hg.2.2.2.1 (List.forall_mem_cons.2 ⟨(by (repeat (first | exact List.Mem.head _ | apply List.Mem.tail))), List.forall_mem_cons.2 ⟨(by (repeat (first | exact List.Mem.head _ | apply List.Mem.tail))), fun _ h => by cases h⟩⟩)
        exact ⟨_, (b17, la41_5, lc41_5, da41_5, dc41_5), rfl, (sg.agree (x' := (b17, la41_5, lc41_5, da41_5, dc41_5)) (n := 12) rfl (by (iterate 12 (refine ix_cons (by first | exact fun _ => rfl | exact no sg.self | exact no (sg.des _ rfl)) ?_)); exact ix_nil)), rfl, (by simp only [(show upd LL 5 9 = LL 9 from rfl), lh9, (show upd LL 5 5 = true from rfl), (show upd LL 5 10 = LL 10 from rfl), sg.des 10 rfl, cond_true, cond_false]; exact H2.out)⟩
    · intro LL xx ac wc sg hst hwant QQ hgo
      obtain ⟨b17, la41_5, lc41_5, da41_5, dc41_5⟩ := xx
      exact op_val hwant hgo hst _ (exec_move rfl (sg.slot 5 (sg.anc 5 rfl))) rfl
    · intro LL xx ac wc sg hst hwant QQ hgo
      obtain ⟨b17, la41_5, lc41_5, da41_5, dc41_5⟩ := xx
      have se196 : ac.eval (.tmp 196) = _ := (sg.slot 6 (sg.anc 6 rfl))
      have sg196 := gt_of se196
      (try simp only [nth] at se196 sg196)
      exact op_val hwant hgo hst _ (by simp only [execOp, nth]; go_simp <;> omega) rfl
    · intro LL xx ac wc sg hst hwant QQ hgo
      obtain ⟨b17, la41_5, lc41_5, da41_5, dc41_5⟩ := xx
      have se196 : ac.eval (.tmp 196) = _ := (sg.slot 6 (sg.anc 6 rfl))
      have sg196 := gt_of se196
      (try simp only [nth] at se196 sg196)
      exact op_val hwant hgo hst _ (by simp only [execOp, nth]; go_simp <;> omega) rfl
    · intro LL xx ac wc sg hst hwant QQ hgo
      obtain ⟨_, la41_5, lc41_5, da41_5, dc41_5⟩ := xx
      rcases Bool.eq_false_or_eq_true (LL 5) with lh5 | lh5
      · skip
        have H := Lib.hid hst
        simp only [sg.self, lh5, sg.des 10 rfl, cond_true, cond_false] at H
        refine hpA_alloc tybook_Book H rfl rfl ?_
        intro wd b17 H2
        replace H2 := hp_front H2 12 rfl
        replace H2 := hp_front H2 12 rfl
        replace H2 := hp_front H2 12 rfl
        replace H2 := hp_front H2 12 rfl
        replace H2 := hp_front H2 12 rfl
        replace H2 := hp_front H2 12 rfl
        replace H2 := hp_front H2 12 rfl
        replace H2 := hp_front H2 12 rfl
        replace H2 := hp_front H2 12 rfl
        replace H2 := hp_front H2 12 rfl
        replace H2 := hp_front H2 10 rfl
        replace H2 := hp_front H2 12 rfl
        replace H2 := hp_front H2 12 rfl
        exact hgo _ (b17, la41_5, lc41_5, da41_5, dc41_5) _ (sg.agree (x' := (b17, la41_5, lc41_5, da41_5, dc41_5)) (n := 12) rfl (by (iterate 12 (refine ix_cons (by first | exact fun _ => rfl | exact no sg.self | exact no (sg.des _ rfl)) ?_)); exact ix_nil)) rfl (by simp only [(show upd LL 9 9 = true from rfl), (show upd LL 9 5 = LL 5 from rfl), lh5, (show upd LL 9 10 = LL 10 from rfl), sg.des 10 rfl, cond_true, cond_false]; exact H2.out)
      · skip
        have H := Lib.hid hst
        simp only [sg.self, lh5, sg.des 10 rfl, cond_true, cond_false] at H
        refine hpA_alloc tybook_Book H rfl rfl ?_
        intro wd b17 H2
        exact hgo _ (b17, la41_5, lc41_5, da41_5, dc41_5) _ (sg.agree (x' := (b17, la41_5, lc41_5, da41_5, dc41_5)) (n := 12) rfl (by (iterate 12 (refine ix_cons (by first | exact fun _ => rfl | exact no sg.self | exact no (sg.des _ rfl)) ?_)); exact ix_nil)) rfl (by simp only [(show upd LL 9 9 = true from rfl), (show upd LL 9 5 = LL 5 from rfl), lh5, (show upd LL 9 10 = LL 10 from rfl), sg.des 10 rfl, cond_true, cond_false]; exact H2.out)
    · intro LL xx ac wc sg hst hwant QQ hgo
      obtain ⟨b17, la41_5, lc41_5, da41_5, dc41_5⟩ := xx
      have H := Lib.hid hst
      simp only [sg.anc 9 rfl, sg.anc 5 rfl, sg.self, cond_true, cond_false] at H
      refine hpA_store tybook_Book H rfl rfl (sg.slot 9 (sg.anc 9 rfl)) (sg.slot 7 (sg.anc 7 rfl)) rfl (by repeat (first | apply Put.head | apply Put.tail)) (by simp [xA, xL, cA, cL, chA, chL, bkA, bkL, rbA, rbL]) (by simp [xA, xL, cA, cL, chA, chL, bkA, bkL, rbA, rbL, Value.oneCell']) (by first | rfl | (simp only [spl]; rfl)) rfl ?_
      intro wd H2
      exact hgo _ (b17, la41_5, lc41_5, da41_5, dc41_5) _ (sg.agree (x' := (b17, la41_5, lc41_5, da41_5, dc41_5)) (n := 12) rfl (by (iterate 12 (refine ix_cons (by first | exact fun _ => rfl | exact no sg.self | exact no (sg.des _ rfl)) ?_)); exact ix_nil)) rfl (by simp only [(show upd LL 10 9 = LL 9 from rfl), sg.anc 9 rfl, (show upd LL 10 5 = LL 5 from rfl), sg.anc 5 rfl, (show upd LL 10 10 = true from rfl), cond_true, cond_false]; exact H2.out)
    · intro LL xx ac wc sg hst hwant QQ hgo
      obtain ⟨b17, la41_5, lc41_5, da41_5, dc41_5⟩ := xx
      exact op_val hwant hgo hst _ (exec_assign rfl (sg.slot 8 (sg.anc 8 rfl))) rfl
  · exact skips [] (by kernel_rfl) (fun _ h => by cases h)
  · intro xx ac1 wz hfr hsl hst
    obtain ⟨b17, la41_5, lc41_5, da41_5, dc41_5⟩ := xx
    exact hfin b17 la41_5 lc41_5 da41_5 dc41_5 ac1 wz (hfr.size.trans hz) hfr.defers (fr_keep hfr [17, 18, 196, 197, 198, 199, 200, 201, 202, 203, 204] (by kernel_rfl)) (hsl 9 (by decide)) (hsl 11 (by decide)) (Lib.hid hst)
set_option maxHeartbeats 4000000 in
set_option maxRecDepth 20000 in
theorem replays_w_r49 (c : Cfg) (pa : Option Addr) (pc : Nat) (ds : List DeedV) (b2 : Nat) (b5 : Nat) (b26 : Nat) (i : Nat) (b : BookV) (la : Option Addr) (lc : Nat) (da : Option Addr) (dc : Nat) (aa_ : Option Addr) (ac_ : Nat) (ys : List ChgV) (E : List Int) (b15 : Nat) (j : Nat) (ra : Option Addr) (rc : Nat) (sa : Option Addr) (sc : Nat) (c45_1 : Nat) (k : Nat) (y : Addr) (x : CallV) (k1 : Nat) (p : CallV) (hi : i ≤ ds.length) (hi2 : i ≤ 60) (hyi : ys.length ≤ i) (hI : Hid (InvB b)) (hbi : 0 ≤ b.index ∧ b.index ≤ 1073741824) (hl64 : (liveV b).length ≤ 64) (hj : j ≤ ys.length) (z11d : ¬ (j < ys.length)) (hk : k ≤ (liveV b).length) (z12d : k < ((liveV b).length)) (HRx : Hid (((liveV b).map callRow)[k]? = some [.int .i64 x.id, .int .i64 x.kind, .int .i64 x.src, .int .i64 x.dst, .int .i64 x.car, .int .i64 x.state, .int .i64 x.owner, .int .i64 x.born])) (hx1 : (livesV x) = true) (hx2 : (decide (b.index < x.id)) = false) (y13 : (decide (0 < (k : Int))) = true) (HRp : Hid (((liveV b).map callRow)[k1]? = some [.int .i64 p.id, .int .i64 p.kind, .int .i64 p.src, .int .i64 p.dst, .int .i64 p.car, .int .i64 p.state, .int .i64 p.owner, .int .i64 p.born])) (hk1i : (k : Int) - 1 = (k1 : Int)) (hk1w : IntKind.i64.wrap (k1 : Int) = (k1 : Int)) (hx3 : (decide (x.id ≤ p.id)) = false) {wa wb : World} (H : Hid (Hp [] wa wb [rS (some y) c45_1 8 ((liveV b).map callRow), rB b15 33 (bkL b.conf b.index b.room (.slice ra b.live.length rc) (.slice sa b.done.length sc) b.modes), rS ra rc 9 (b.live.map rowOf), rS sa sc 8 (b.done.map callRow), rB b5 33 (bkL b.conf b.index b.room (.slice la b.live.length lc) (.slice da b.done.length dc) b.modes), rA aa_ ac_ 40 11 (ys.map chgRow), rMp b26 E, rS la lc 9 (b.live.map rowOf), rS da dc 8 (b.done.map callRow), rB b2 24 (cL c), rS pa pc 22 (ds.map deedRow)])) (ac0 : Act) (hz : ac0.tmps.size = 253) (so5 : ac0.eval (.tmp 5) = .pointer (some ⟨b5, 0, none⟩)) (so19 : ac0.eval (.tmp 19) = .slice (some y) ((liveV b).length) c45_1) (so20 : ac0.eval (.tmp 20) = .int .i64 k) {QR : Exit → Act → World → Prop} (hfin : ∀ (ac1 : Act) (wz : World), ac1.tmps.size = 253 → ac1.defers = ac0.defers → (∀ t, ([216, 217, 218, 219, 220, 221, 222, 223, 224, 225, 226, 227, 228, 229, 230, 231, 232, 233, 234, 235, 236, 237, 238, 239, 240, 241, 242, 243, 244, 245, 246, 247, 248, 249] : List Nat).contains t = false → ac1.eval (.tmp t) = ac0.eval (.tmp t)) → ac1.eval (.tmp 249) = .bool false →  Hid (Hp [] wa wz [rS (some y) c45_1 8 ((liveV b).map callRow), rB b15 33 (bkL b.conf b.index b.room (.slice ra b.live.length rc) (.slice sa b.done.length sc) b.modes), rS ra rc 9 (b.live.map rowOf), rS sa sc 8 (b.done.map callRow), rB b5 33 (bkL b.conf b.index b.room (.slice la b.live.length lc) (.slice da b.done.length dc) b.modes), rA aa_ ac_ 40 11 (ys.map chgRow), rMp b26 E, rS la lc 9 (b.live.map rowOf), rS da dc 8 (b.done.map callRow), rB b2 24 (cL c), rS pa pc 22 (ds.map deedRow)]) → QR .normal ac1 wz) : (regAt Try.f3 49).wp Try.prog QR ac0 wb := by
  refine wp_region_st mixedP ⟨[0, 0, 1, 2, 3, 4, 5, 6, 7, 8, 9, 9, 10, 11, 12, 13, 9, 9, 10, 11, 12, 14, 15, 16, 17, 18, 18, 19, 20, 21, 18, 19, 22, 23], by kernel_rfl⟩ [[], [], [0, 1], [0, 1, 2], [0, 1, 2, 3], [0, 1, 2, 3, 4], [0, 1, 2, 3, 4, 5], [0, 1, 2, 3, 4, 5, 6], [0, 1, 2, 3, 4, 5, 6, 7], [0, 1, 2, 3, 4, 5, 6, 7, 8], [0, 1, 2, 3, 4, 5, 6, 7, 8, 9], [0, 1, 2, 3, 4, 5, 6, 7, 8, 9], [0, 1, 2, 3, 4, 5, 6, 7, 8, 9, 11], [0, 1, 2, 3, 4, 5, 6, 7, 8, 9, 10, 11, 12], [0, 1, 2, 3, 4, 5, 6, 7, 8, 9, 10, 11, 12, 13], [0, 1, 2, 3, 4, 5, 6, 7, 8, 9, 10, 11, 12, 13, 14], [0, 1, 2, 3, 4, 5, 6, 7, 8, 9], [0, 1, 2, 3, 4, 5, 6, 7, 8, 9], [0, 1, 2, 3, 4, 5, 6, 7, 8, 9, 16, 17], [0, 1, 2, 3, 4, 5, 6, 7, 8, 9, 16, 17, 18], [0, 1, 2, 3, 4, 5, 6, 7, 8, 9, 16, 17, 18, 19], [0, 1, 2, 3, 4, 5, 6, 7, 8, 9, 10, 11, 12, 13, 14, 15, 16, 17, 18, 19, 20], [0, 1, 2, 3, 4, 5, 6, 7, 8, 9, 10, 11, 12, 13, 14, 15, 16, 17, 18, 19, 20, 21], [0, 1, 2, 3, 4, 5, 6, 7, 8, 9, 10, 11, 12, 13, 14, 15, 16, 17, 18, 19, 20, 21, 22], [0, 1, 2, 3, 4, 5, 6, 7, 8, 9, 10, 11, 12, 13, 14, 15, 16, 17, 18, 19, 20, 21, 22, 23], [0, 1, 2, 3, 4, 5, 6, 7, 8, 9, 10, 11, 12, 13, 14, 15, 16, 17, 18, 19, 20, 21, 22, 23, 24], [0, 1, 2, 3, 4, 5, 6, 7, 8, 9, 10, 11, 12, 13, 14, 15, 16, 17, 18, 19, 20, 21, 22, 23, 24], [0, 1, 2, 3, 4, 5, 6, 7, 8, 9, 10, 11, 12, 13, 14, 15, 16, 17, 18, 19, 20, 21, 22, 23, 24, 25, 26], [0, 1, 2, 3, 4, 5, 6, 7, 8, 9, 10, 11, 12, 13, 14, 15, 16, 17, 18, 19, 20, 21, 22, 23, 24, 25, 26, 27], [0, 1, 2, 3, 4, 5, 6, 7, 8, 9, 10, 11, 12, 13, 14, 15, 16, 17, 18, 19, 20, 21, 22, 23, 24, 25, 26, 27, 28], [0, 1, 2, 3, 4, 5, 6, 7, 8, 9, 10, 11, 12, 13, 14, 15, 16, 17, 18, 19, 20, 21, 22, 23, 24], [0, 1, 2, 3, 4, 5, 6, 7, 8, 9, 10, 11, 12, 13, 14, 15, 16, 17, 18, 19, 20, 21, 22, 23, 24, 30], [0, 1, 2, 3, 4, 5, 6, 7, 8, 9, 10, 11, 12, 13, 14, 15, 16, 17, 18, 19, 20, 21, 22, 23, 24, 25, 26, 27, 28, 29, 30, 31], [0, 1, 2, 3, 4, 5, 6, 7, 8, 9, 10, 11, 12, 13, 14, 15, 16, 17, 18, 19, 20, 21, 22, 23, 24, 25, 26, 27, 28, 29, 30, 31, 32]] (by kernel_rfl) (by kernel_rfl) 253 hz (by kernel_rfl) (fun (xx : Unit) jx => nth [.slice (some y) ((liveV b).length) c45_1, .int .i64 k, .pointer (some (y.add (k * 8))), .agg (xA x), .bool true, .bool false, .bool false, .int .i64 k, .bool true, .bool true, .slice (some y) ((liveV b).length) c45_1, .int .i64 k, .int .i64 k1, .pointer (some (y.add (k1 * 8))), .pointer (some (y.add (k1 * 8))), .int .i64 p.id, .slice (some y) ((liveV b).length) c45_1, .int .i64 k, .pointer (some (y.add (k * 8))), .pointer (some (y.add (k * 8))), .int .i64 x.id, .bool false, .bool false, .bool false, .bool false, .slice (some y) ((liveV b).length) c45_1, .int .i64 k, .pointer (some (y.add (k * 8))), .pointer (some (y.add (k * 8))), .int .i64 x.id, .agg (bkA b.conf b.index b.room (.slice la b.live.length lc) (.slice da b.done.length dc) b.modes), .int .i64 b.index, .bool false, .bool false] jx) (fun (LL : Nat → Bool) (xx : Unit) ww => Hp [] wa ww [rS (some y) c45_1 8 ((liveV b).map callRow), rB b15 33 (bkL b.conf b.index b.room (.slice ra b.live.length rc) (.slice sa b.done.length sc) b.modes), rS ra rc 9 (b.live.map rowOf), rS sa sc 8 (b.done.map callRow), rB b5 33 (bkL b.conf b.index b.room (.slice la b.live.length lc) (.slice da b.done.length dc) b.modes), rA aa_ ac_ 40 11 (ys.map chgRow), rMp b26 E, rS la lc 9 (b.live.map rowOf), rS da dc 8 (b.done.map callRow), rB b2 24 (cL c), rS pa pc 22 (ds.map deedRow)]) () H.out.drew ?_ (steps_al ?_) ?_ ?_
  · exact fun _ _ _ _ _ h => h
  · refine al_cons ?_ (al_cons ?_ (al_cons ?_ (al_cons ?_ (al_cons ?_ (al_cons ?_ (al_cons ?_ (al_cons ?_ (al_cons ?_ (al_cons ?_ (al_cons ?_ (al_cons ?_ (al_cons ?_ (al_cons ?_ (al_cons ?_ (al_cons ?_ (al_cons ?_ (al_cons ?_ (al_cons ?_ (al_cons ?_ (al_cons ?_ (al_cons ?_ (al_cons ?_ (al_cons ?_ (al_cons ?_ (al_cons ?_ (al_cons ?_ (al_cons ?_ (al_cons ?_ (al_cons ?_ (al_cons ?_ (al_cons ?_ (al_cons ?_ (al_cons ?_ (al_nil))))))))))))))))))))))))))))))))))
    · intro LL xx ac wc sg hst hwant QQ hgo
      exact op_val hwant hgo hst _ (exec_move rfl ((sg.free 19 (by kernel_rfl)).trans so19)) rfl
    · intro LL xx ac wc sg hst hwant QQ hgo
      exact op_val hwant hgo hst _ (exec_move rfl ((sg.free 20 (by kernel_rfl)).trans so20)) rfl
    · intro LL xx ac wc sg hst hwant QQ hgo
      have se216 : ac.eval (.tmp 216) = _ := (sg.slot 0 (sg.anc 0 rfl))
      have sg216 := gt_of se216
      have se217 : ac.eval (.tmp 217) = _ := (sg.slot 1 (sg.anc 1 rfl))
      have sg217 := gt_of se217
      (try simp only [nth] at se216 sg216 se217 sg217)
      exact op_val hwant hgo hst _ (by simp only [execOp, nth]; go_simp <;> omega) rfl
    · intro LL xx ac wc sg hst hwant QQ hgo
      have H := Lib.hid hst
      refine hpS_load tyapi_Call H (y := y) rfl (sg.slot 2 (sg.anc 2 rfl)) hwant (by (repeat (first | exact List.Mem.head _ | apply List.Mem.tail))) HRx.out rfl ?_
      exact hgo _ () _ (fun _ _ => rfl) rfl hst
    · intro LL xx ac wc sg hst hwant QQ hgo
      have se219 : ac.eval (.tmp 219) = _ := (sg.slot 3 (sg.anc 3 rfl))
      have sg219 := gt_of se219
      (try simp only [nth] at se219 sg219)
      refine op_call hwant hgo 18 #[.agg (xA x)] (by simp only [execOp]; go_simp) (by have h := livesC x wc; rw [hx1] at h; exact h) ?_
      rintro er wd ⟨rfl, hof⟩
      exact ⟨_, (), rfl, fun _ _ => rfl, rfl, Hp.quiet hst hof⟩
    · intro LL xx ac wc sg hst hwant QQ hgo
      have se220 : ac.eval (.tmp 220) = _ := (sg.slot 4 (sg.anc 4 rfl))
      have sg220 := gt_of se220
      (try simp only [nth] at se220 sg220)
      exact op_val hwant hgo hst _ (by simp only [execOp, nth]; go_simp <;> omega) rfl
    · intro LL xx ac wc sg hst hwant QQ hgo
      exact op_val hwant hgo hst _ (exec_move rfl (sg.slot 5 (sg.anc 5 rfl))) rfl
    · intro LL xx ac wc sg hst hwant QQ hgo
      exact op_val hwant hgo hst _ (exec_move rfl ((sg.free 20 (by kernel_rfl)).trans so20)) rfl
    · intro LL xx ac wc sg hst hwant QQ hgo
      have se223 : ac.eval (.tmp 223) = _ := (sg.slot 7 (sg.anc 7 rfl))
      have sg223 := gt_of se223
      (try simp only [nth] at se223 sg223)
      exact op_val hwant hgo hst _ (by simp only [execOp, nth]; go_simp <;> omega) rfl
    · intro LL xx ac wc sg hst hwant QQ hgo
      exact op_val hwant hgo hst _ (exec_move rfl (sg.slot 8 (sg.anc 8 rfl))) rfl
    · intro LL xx ac wc sg hst hwant QQ hgo
      exact op_val hwant hgo hst _ (exec_move rfl ((sg.free 19 (by kernel_rfl)).trans so19)) rfl
    · intro LL xx ac wc sg hst hwant QQ hgo
      exact op_val hwant hgo hst _ (exec_move rfl ((sg.free 20 (by kernel_rfl)).trans so20)) rfl
    · intro LL xx ac wc sg hst hwant QQ hgo
      have se227 : ac.eval (.tmp 227) = _ := (sg.slot 11 (sg.anc 11 rfl))
      have sg227 := gt_of se227
      (try simp only [nth] at se227 sg227)
      exact op_val hwant hgo hst _ (by simp only [execOp, nth]; go_simp <;> omega) rfl
    · intro LL xx ac wc sg hst hwant QQ hgo
      have se226 : ac.eval (.tmp 226) = _ := (sg.slot 10 (sg.anc 10 rfl))
      have sg226 := gt_of se226
      have se228 : ac.eval (.tmp 228) = _ := (sg.slot 12 (sg.anc 12 rfl))
      have sg228 := gt_of se228
      (try simp only [nth] at se226 sg226 se228 sg228)
      exact op_val hwant hgo hst _ (by simp only [execOp, nth]; go_simp <;> omega) rfl
    · intro LL xx ac wc sg hst hwant QQ hgo
      have se229 : ac.eval (.tmp 229) = _ := (sg.slot 13 (sg.anc 13 rfl))
      have sg229 := gt_of se229
      (try simp only [nth] at se229 sg229)
      exact op_val hwant hgo hst _ (by simp only [execOp, nth]; go_simp <;> omega) rfl
    · intro LL xx ac wc sg hst hwant QQ hgo
      have H := Lib.hid hst
      refine hpS_load1 0 tyint H (y := y) rfl (sg.slot 14 (sg.anc 14 rfl)) hwant (by (repeat (first | exact List.Mem.head _ | apply List.Mem.tail))) HRp.out (by rfl) (by simp [Addr.add]) ?_
      exact hgo _ () _ (fun _ _ => rfl) rfl hst
    · intro LL xx ac wc sg hst hwant QQ hgo
      exact op_val hwant hgo hst _ (exec_move rfl ((sg.free 19 (by kernel_rfl)).trans so19)) rfl
    · intro LL xx ac wc sg hst hwant QQ hgo
      exact op_val hwant hgo hst _ (exec_move rfl ((sg.free 20 (by kernel_rfl)).trans so20)) rfl
    · intro LL xx ac wc sg hst hwant QQ hgo
      have se232 : ac.eval (.tmp 232) = _ := (sg.slot 16 (sg.anc 16 rfl))
      have sg232 := gt_of se232
      have se233 : ac.eval (.tmp 233) = _ := (sg.slot 17 (sg.anc 17 rfl))
      have sg233 := gt_of se233
      (try simp only [nth] at se232 sg232 se233 sg233)
      exact op_val hwant hgo hst _ (by simp only [execOp, nth]; go_simp <;> omega) rfl
    · intro LL xx ac wc sg hst hwant QQ hgo
      have se234 : ac.eval (.tmp 234) = _ := (sg.slot 18 (sg.anc 18 rfl))
      have sg234 := gt_of se234
      (try simp only [nth] at se234 sg234)
      exact op_val hwant hgo hst _ (by simp only [execOp, nth]; go_simp <;> omega) rfl
    · intro LL xx ac wc sg hst hwant QQ hgo
      have H := Lib.hid hst
      refine hpS_load1 0 tyint H (y := y) rfl (sg.slot 19 (sg.anc 19 rfl)) hwant (by (repeat (first | exact List.Mem.head _ | apply List.Mem.tail))) HRx.out (by rfl) (by simp [Addr.add]) ?_
      exact hgo _ () _ (fun _ _ => rfl) rfl hst
    · intro LL xx ac wc sg hst hwant QQ hgo
      have se231 : ac.eval (.tmp 231) = _ := (sg.slot 15 (sg.anc 15 rfl))
      have sg231 := gt_of se231
      have se236 : ac.eval (.tmp 236) = _ := (sg.slot 20 (sg.anc 20 rfl))
      have sg236 := gt_of se236
      (try simp only [nth] at se231 sg231 se236 sg236)
      exact op_val hwant hgo hst _ (by simp only [execOp, nth]; go_simp <;> omega) rfl
    · intro LL xx ac wc sg hst hwant QQ hgo
      exact op_val hwant hgo hst (.bool false) (exec_pick (B := true) (U := .bool false) (V := undef) rfl (sg.slot 9 (sg.anc 9 rfl)) (fun _ => (sg.slot 21 (sg.anc 21 rfl))) (fun h => by cases h)) rfl
    · intro LL xx ac wc sg hst hwant QQ hgo
      exact op_val hwant hgo hst (.bool false) (exec_pick (B := false) (U := undef) (V := .bool false) rfl (sg.slot 6 (sg.anc 6 rfl)) (fun h => by cases h) (fun _ => (sg.slot 22 (sg.anc 22 rfl)))) rfl
    · intro LL xx ac wc sg hst hwant QQ hgo
      exact op_val hwant hgo hst _ (exec_move rfl (sg.slot 23 (sg.anc 23 rfl))) rfl
    · intro LL xx ac wc sg hst hwant QQ hgo
      exact op_val hwant hgo hst _ (exec_move rfl ((sg.free 19 (by kernel_rfl)).trans so19)) rfl
    · intro LL xx ac wc sg hst hwant QQ hgo
      exact op_val hwant hgo hst _ (exec_move rfl ((sg.free 20 (by kernel_rfl)).trans so20)) rfl
    · intro LL xx ac wc sg hst hwant QQ hgo
      have se241 : ac.eval (.tmp 241) = _ := (sg.slot 25 (sg.anc 25 rfl))
      have sg241 := gt_of se241
      have se242 : ac.eval (.tmp 242) = _ := (sg.slot 26 (sg.anc 26 rfl))
      have sg242 := gt_of se242
      (try simp only [nth] at se241 sg241 se242 sg242)
      exact op_val hwant hgo hst _ (by simp only [execOp, nth]; go_simp <;> omega) rfl
    · intro LL xx ac wc sg hst hwant QQ hgo
      have se243 : ac.eval (.tmp 243) = _ := (sg.slot 27 (sg.anc 27 rfl))
      have sg243 := gt_of se243
      (try simp only [nth] at se243 sg243)
      exact op_val hwant hgo hst _ (by simp only [execOp, nth]; go_simp <;> omega) rfl
    · intro LL xx ac wc sg hst hwant QQ hgo
      have H := Lib.hid hst
      refine hpS_load1 0 tyint H (y := y) rfl (sg.slot 28 (sg.anc 28 rfl)) hwant (by (repeat (first | exact List.Mem.head _ | apply List.Mem.tail))) HRx.out (by rfl) (by simp [Addr.add]) ?_
      exact hgo _ () _ (fun _ _ => rfl) rfl hst
    · intro LL xx ac wc sg hst hwant QQ hgo
      have H := Lib.hid hst
      refine hpA_load tybook_Book H rfl ((sg.free 5 (by kernel_rfl)).trans so5) hwant (by (repeat (first | exact List.Mem.head _ | apply List.Mem.tail))) (by rfl) rfl ?_
      exact hgo _ () _ (fun _ _ => rfl) rfl hst
    · intro LL xx ac wc sg hst hwant QQ hgo
      have se246 : ac.eval (.tmp 246) = _ := (sg.slot 30 (sg.anc 30 rfl))
      have sg246 := gt_of se246
      (try simp only [nth] at se246 sg246)
      have H := Lib.hid hst
      refine op_call hwant hgo 11 #[.agg (bkA b.conf b.index b.room (.slice la b.live.length lc) (.slice da b.done.length dc) b.modes)] (by simp only [execOp]; go_simp) (indexC b la lc da dc  wc (hp_held H (by (repeat (first | exact List.Mem.head _ | apply List.Mem.tail)))) (hp_held H (by (repeat (first | exact List.Mem.head _ | apply List.Mem.tail)))) (Lib.hid hI.out.ok)) ?_
      rintro er wd ⟨rfl, hof⟩
      exact ⟨_, (), rfl, fun _ _ => rfl, rfl, Hp.quiet hst hof⟩
    · intro LL xx ac wc sg hst hwant QQ hgo
      have se245 : ac.eval (.tmp 245) = _ := (sg.slot 29 (sg.anc 29 rfl))
      have sg245 := gt_of se245
      have se247 : ac.eval (.tmp 247) = _ := (sg.slot 31 (sg.anc 31 rfl))
      have sg247 := gt_of se247
      (try simp only [nth] at se245 sg245 se247 sg247)
      exact op_val hwant hgo hst _ (by simp only [execOp, nth]; go_simp <;> omega) rfl
    · intro LL xx ac wc sg hst hwant QQ hgo
      exact op_val hwant hgo hst (.bool false) (exec_pick (B := false) (U := undef) (V := .bool false) rfl (sg.slot 24 (sg.anc 24 rfl)) (fun h => by cases h) (fun _ => (sg.slot 32 (sg.anc 32 rfl)))) rfl
  · refine skips [7, 8, 9, 10, 11, 12, 13, 14, 15, 16, 17, 18, 19, 20, 21, 22, 25, 26, 27, 28, 29, 30, 31, 32] (by kernel_rfl) ?_
    refine List.forall_mem_cons.2 ⟨?_, List.forall_mem_cons.2 ⟨?_, List.forall_mem_cons.2 ⟨?_, List.forall_mem_cons.2 ⟨?_, List.forall_mem_cons.2 ⟨?_, List.forall_mem_cons.2 ⟨?_, List.forall_mem_cons.2 ⟨?_, List.forall_mem_cons.2 ⟨?_, List.forall_mem_cons.2 ⟨?_, List.forall_mem_cons.2 ⟨?_, List.forall_mem_cons.2 ⟨?_, List.forall_mem_cons.2 ⟨?_, List.forall_mem_cons.2 ⟨?_, List.forall_mem_cons.2 ⟨?_, List.forall_mem_cons.2 ⟨?_, List.forall_mem_cons.2 ⟨?_, List.forall_mem_cons.2 ⟨?_, List.forall_mem_cons.2 ⟨?_, List.forall_mem_cons.2 ⟨?_, List.forall_mem_cons.2 ⟨?_, List.forall_mem_cons.2 ⟨?_, List.forall_mem_cons.2 ⟨?_, List.forall_mem_cons.2 ⟨?_, List.forall_mem_cons.2 ⟨?_, fun _ h => by cases h⟩⟩⟩⟩⟩⟩⟩⟩⟩⟩⟩⟩⟩⟩⟩⟩⟩⟩⟩⟩⟩⟩⟩⟩
    · intro oo hop LL xx ac sg hwant
      cases Option.some.inj hop
      exact absurd ((want_f rfl rfl (sg.slot 6 (sg.anc 6 rfl))).symm.trans hwant) (by decide)
    · intro oo hop LL xx ac sg hwant
      cases Option.some.inj hop
      exact absurd ((want_f rfl rfl (sg.slot 6 (sg.anc 6 rfl))).symm.trans hwant) (by decide)
    · intro oo hop LL xx ac sg hwant
      cases Option.some.inj hop
      exact absurd ((want_f rfl rfl (sg.slot 6 (sg.anc 6 rfl))).symm.trans hwant) (by decide)
    · intro oo hop LL xx ac sg hwant
      cases Option.some.inj hop
      exact absurd ((want_t rfl rfl (sg.slot 9 (sg.anc 9 rfl))).symm.trans hwant) (by decide)
    · intro oo hop LL xx ac sg hwant
      cases Option.some.inj hop
      exact absurd ((want_t rfl rfl (sg.slot 9 (sg.anc 9 rfl))).symm.trans hwant) (by decide)
    · intro oo hop LL xx ac sg hwant
      cases Option.some.inj hop
      exact absurd ((want_t rfl rfl (sg.slot 9 (sg.anc 9 rfl))).symm.trans hwant) (by decide)
    · intro oo hop LL xx ac sg hwant
      cases Option.some.inj hop
      exact absurd ((want_t rfl rfl (sg.slot 9 (sg.anc 9 rfl))).symm.trans hwant) (by decide)
    · intro oo hop LL xx ac sg hwant
      cases Option.some.inj hop
      exact absurd ((want_t rfl rfl (sg.slot 9 (sg.anc 9 rfl))).symm.trans hwant) (by decide)
    · intro oo hop LL xx ac sg hwant
      cases Option.some.inj hop
      exact absurd ((want_t rfl rfl (sg.slot 9 (sg.anc 9 rfl))).symm.trans hwant) (by decide)
    · intro oo hop LL xx ac sg hwant
      cases Option.some.inj hop
      exact absurd ((want_t rfl rfl (sg.slot 9 (sg.anc 9 rfl))).symm.trans hwant) (by decide)
    · intro oo hop LL xx ac sg hwant
      cases Option.some.inj hop
      exact absurd ((want_t rfl rfl (sg.slot 9 (sg.anc 9 rfl))).symm.trans hwant) (by decide)
    · intro oo hop LL xx ac sg hwant
      cases Option.some.inj hop
      exact absurd ((want_t rfl rfl (sg.slot 9 (sg.anc 9 rfl))).symm.trans hwant) (by decide)
    · intro oo hop LL xx ac sg hwant
      cases Option.some.inj hop
      exact absurd ((want_t rfl rfl (sg.slot 9 (sg.anc 9 rfl))).symm.trans hwant) (by decide)
    · intro oo hop LL xx ac sg hwant
      cases Option.some.inj hop
      exact absurd ((want_t rfl rfl (sg.slot 9 (sg.anc 9 rfl))).symm.trans hwant) (by decide)
    · intro oo hop LL xx ac sg hwant
      cases Option.some.inj hop
      exact absurd ((want_t rfl rfl (sg.slot 9 (sg.anc 9 rfl))).symm.trans hwant) (by decide)
    · intro oo hop LL xx ac sg hwant
      cases Option.some.inj hop
      exact absurd ((want_f rfl rfl (sg.slot 6 (sg.anc 6 rfl))).symm.trans hwant) (by decide)
    · intro oo hop LL xx ac sg hwant
      cases Option.some.inj hop
      exact absurd ((want_f rfl rfl (sg.slot 24 (sg.anc 24 rfl))).symm.trans hwant) (by decide)
    · intro oo hop LL xx ac sg hwant
      cases Option.some.inj hop
      exact absurd ((want_f rfl rfl (sg.slot 24 (sg.anc 24 rfl))).symm.trans hwant) (by decide)
    · intro oo hop LL xx ac sg hwant
      cases Option.some.inj hop
      exact absurd ((want_f rfl rfl (sg.slot 24 (sg.anc 24 rfl))).symm.trans hwant) (by decide)
    · intro oo hop LL xx ac sg hwant
      cases Option.some.inj hop
      exact absurd ((want_f rfl rfl (sg.slot 24 (sg.anc 24 rfl))).symm.trans hwant) (by decide)
    · intro oo hop LL xx ac sg hwant
      cases Option.some.inj hop
      exact absurd ((want_f rfl rfl (sg.slot 24 (sg.anc 24 rfl))).symm.trans hwant) (by decide)
    · intro oo hop LL xx ac sg hwant
      cases Option.some.inj hop
      exact absurd ((want_f rfl rfl (sg.slot 24 (sg.anc 24 rfl))).symm.trans hwant) (by decide)
    · intro oo hop LL xx ac sg hwant
      cases Option.some.inj hop
      exact absurd ((want_f rfl rfl (sg.slot 24 (sg.anc 24 rfl))).symm.trans hwant) (by decide)
    · intro oo hop LL xx ac sg hwant
      cases Option.some.inj hop
      exact absurd ((want_f rfl rfl (sg.slot 24 (sg.anc 24 rfl))).symm.trans hwant) (by decide)
  · intro xx ac1 wz hfr hsl hst
    exact hfin ac1 wz (hfr.size.trans hz) hfr.defers (fr_keep hfr [216, 217, 218, 219, 220, 221, 222, 223, 224, 225, 226, 227, 228, 229, 230, 231, 232, 233, 234, 235, 236, 237, 238, 239, 240, 241, 242, 243, 244, 245, 246, 247, 248, 249] (by kernel_rfl)) (hsl 33 (by decide)) (Lib.hid hst)
set_option maxHeartbeats 4000000 in
set_option maxRecDepth 20000 in
theorem replays_w_r49x1 (c : Cfg) (pa : Option Addr) (pc : Nat) (ds : List DeedV) (b2 : Nat) (b5 : Nat) (b26 : Nat) (i : Nat) (b : BookV) (la : Option Addr) (lc : Nat) (da : Option Addr) (dc : Nat) (aa_ : Option Addr) (ac_ : Nat) (ys : List ChgV) (E : List Int) (b15 : Nat) (j : Nat) (ra : Option Addr) (rc : Nat) (sa : Option Addr) (sc : Nat) (c45_1 : Nat) (k : Nat) (y : Addr) (x : CallV) (hi : i ≤ ds.length) (hi2 : i ≤ 60) (hyi : ys.length ≤ i) (hI : Hid (InvB b)) (hbi : 0 ≤ b.index ∧ b.index ≤ 1073741824) (hl64 : (liveV b).length ≤ 64) (hj : j ≤ ys.length) (z11d : ¬ (j < ys.length)) (hk : k ≤ (liveV b).length) (z12d : k < ((liveV b).length)) (HRx : Hid (((liveV b).map callRow)[k]? = some [.int .i64 x.id, .int .i64 x.kind, .int .i64 x.src, .int .i64 x.dst, .int .i64 x.car, .int .i64 x.state, .int .i64 x.owner, .int .i64 x.born])) (hx1 : (livesV x) = true) (hx2 : (decide (b.index < x.id)) = false) (y13 : (decide (0 < (k : Int))) = false) (y13d : ¬ (0 < (k : Int))) {wa wb : World} (H : Hid (Hp [] wa wb [rS (some y) c45_1 8 ((liveV b).map callRow), rB b15 33 (bkL b.conf b.index b.room (.slice ra b.live.length rc) (.slice sa b.done.length sc) b.modes), rS ra rc 9 (b.live.map rowOf), rS sa sc 8 (b.done.map callRow), rB b5 33 (bkL b.conf b.index b.room (.slice la b.live.length lc) (.slice da b.done.length dc) b.modes), rA aa_ ac_ 40 11 (ys.map chgRow), rMp b26 E, rS la lc 9 (b.live.map rowOf), rS da dc 8 (b.done.map callRow), rB b2 24 (cL c), rS pa pc 22 (ds.map deedRow)])) (ac0 : Act) (hz : ac0.tmps.size = 253) (so5 : ac0.eval (.tmp 5) = .pointer (some ⟨b5, 0, none⟩)) (so19 : ac0.eval (.tmp 19) = .slice (some y) ((liveV b).length) c45_1) (so20 : ac0.eval (.tmp 20) = .int .i64 k) {QR : Exit → Act → World → Prop} (hfin : ∀ (ac1 : Act) (wz : World), ac1.tmps.size = 253 → ac1.defers = ac0.defers → (∀ t, ([216, 217, 218, 219, 220, 221, 222, 223, 224, 225, 226, 227, 228, 229, 230, 231, 232, 233, 234, 235, 236, 237, 238, 239, 240, 241, 242, 243, 244, 245, 246, 247, 248, 249] : List Nat).contains t = false → ac1.eval (.tmp t) = ac0.eval (.tmp t)) → ac1.eval (.tmp 249) = .bool false →  Hid (Hp [] wa wz [rS (some y) c45_1 8 ((liveV b).map callRow), rB b15 33 (bkL b.conf b.index b.room (.slice ra b.live.length rc) (.slice sa b.done.length sc) b.modes), rS ra rc 9 (b.live.map rowOf), rS sa sc 8 (b.done.map callRow), rB b5 33 (bkL b.conf b.index b.room (.slice la b.live.length lc) (.slice da b.done.length dc) b.modes), rA aa_ ac_ 40 11 (ys.map chgRow), rMp b26 E, rS la lc 9 (b.live.map rowOf), rS da dc 8 (b.done.map callRow), rB b2 24 (cL c), rS pa pc 22 (ds.map deedRow)]) → QR .normal ac1 wz) : (regAt Try.f3 49).wp Try.prog QR ac0 wb := by
  refine wp_region_st mixedP ⟨[0, 0, 1, 2, 3, 4, 5, 6, 7, 8, 9, 9, 10, 11, 12, 13, 9, 9, 10, 11, 12, 14, 15, 16, 17, 18, 18, 19, 20, 21, 18, 19, 22, 23], by kernel_rfl⟩ [[], [], [0, 1], [0, 1, 2], [0, 1, 2, 3], [0, 1, 2, 3, 4], [0, 1, 2, 3, 4, 5], [0, 1, 2, 3, 4, 5, 6], [0, 1, 2, 3, 4, 5, 6, 7], [0, 1, 2, 3, 4, 5, 6, 7, 8], [0, 1, 2, 3, 4, 5, 6, 7, 8, 9], [0, 1, 2, 3, 4, 5, 6, 7, 8, 9], [0, 1, 2, 3, 4, 5, 6, 7, 8, 9, 11], [0, 1, 2, 3, 4, 5, 6, 7, 8, 9, 10, 11, 12], [0, 1, 2, 3, 4, 5, 6, 7, 8, 9, 10, 11, 12, 13], [0, 1, 2, 3, 4, 5, 6, 7, 8, 9, 10, 11, 12, 13, 14], [0, 1, 2, 3, 4, 5, 6, 7, 8, 9], [0, 1, 2, 3, 4, 5, 6, 7, 8, 9], [0, 1, 2, 3, 4, 5, 6, 7, 8, 9, 16, 17], [0, 1, 2, 3, 4, 5, 6, 7, 8, 9, 16, 17, 18], [0, 1, 2, 3, 4, 5, 6, 7, 8, 9, 16, 17, 18, 19], [0, 1, 2, 3, 4, 5, 6, 7, 8, 9, 10, 11, 12, 13, 14, 15, 16, 17, 18, 19, 20], [0, 1, 2, 3, 4, 5, 6, 7, 8, 9, 10, 11, 12, 13, 14, 15, 16, 17, 18, 19, 20, 21], [0, 1, 2, 3, 4, 5, 6, 7, 8, 9, 10, 11, 12, 13, 14, 15, 16, 17, 18, 19, 20, 21, 22], [0, 1, 2, 3, 4, 5, 6, 7, 8, 9, 10, 11, 12, 13, 14, 15, 16, 17, 18, 19, 20, 21, 22, 23], [0, 1, 2, 3, 4, 5, 6, 7, 8, 9, 10, 11, 12, 13, 14, 15, 16, 17, 18, 19, 20, 21, 22, 23, 24], [0, 1, 2, 3, 4, 5, 6, 7, 8, 9, 10, 11, 12, 13, 14, 15, 16, 17, 18, 19, 20, 21, 22, 23, 24], [0, 1, 2, 3, 4, 5, 6, 7, 8, 9, 10, 11, 12, 13, 14, 15, 16, 17, 18, 19, 20, 21, 22, 23, 24, 25, 26], [0, 1, 2, 3, 4, 5, 6, 7, 8, 9, 10, 11, 12, 13, 14, 15, 16, 17, 18, 19, 20, 21, 22, 23, 24, 25, 26, 27], [0, 1, 2, 3, 4, 5, 6, 7, 8, 9, 10, 11, 12, 13, 14, 15, 16, 17, 18, 19, 20, 21, 22, 23, 24, 25, 26, 27, 28], [0, 1, 2, 3, 4, 5, 6, 7, 8, 9, 10, 11, 12, 13, 14, 15, 16, 17, 18, 19, 20, 21, 22, 23, 24], [0, 1, 2, 3, 4, 5, 6, 7, 8, 9, 10, 11, 12, 13, 14, 15, 16, 17, 18, 19, 20, 21, 22, 23, 24, 30], [0, 1, 2, 3, 4, 5, 6, 7, 8, 9, 10, 11, 12, 13, 14, 15, 16, 17, 18, 19, 20, 21, 22, 23, 24, 25, 26, 27, 28, 29, 30, 31], [0, 1, 2, 3, 4, 5, 6, 7, 8, 9, 10, 11, 12, 13, 14, 15, 16, 17, 18, 19, 20, 21, 22, 23, 24, 25, 26, 27, 28, 29, 30, 31, 32]] (by kernel_rfl) (by kernel_rfl) 253 hz (by kernel_rfl) (fun (xx : Unit) jx => nth [.slice (some y) ((liveV b).length) c45_1, .int .i64 k, .pointer (some (y.add (k * 8))), .agg (xA x), .bool true, .bool false, .bool false, .int .i64 k, .bool false, .bool false, undef, undef, undef, undef, undef, undef, undef, undef, undef, undef, undef, undef, .bool false, .bool false, .bool false, .slice (some y) ((liveV b).length) c45_1, .int .i64 k, .pointer (some (y.add (k * 8))), .pointer (some (y.add (k * 8))), .int .i64 x.id, .agg (bkA b.conf b.index b.room (.slice la b.live.length lc) (.slice da b.done.length dc) b.modes), .int .i64 b.index, .bool false, .bool false] jx) (fun (LL : Nat → Bool) (xx : Unit) ww => Hp [] wa ww [rS (some y) c45_1 8 ((liveV b).map callRow), rB b15 33 (bkL b.conf b.index b.room (.slice ra b.live.length rc) (.slice sa b.done.length sc) b.modes), rS ra rc 9 (b.live.map rowOf), rS sa sc 8 (b.done.map callRow), rB b5 33 (bkL b.conf b.index b.room (.slice la b.live.length lc) (.slice da b.done.length dc) b.modes), rA aa_ ac_ 40 11 (ys.map chgRow), rMp b26 E, rS la lc 9 (b.live.map rowOf), rS da dc 8 (b.done.map callRow), rB b2 24 (cL c), rS pa pc 22 (ds.map deedRow)]) () H.out.drew ?_ (steps_al ?_) ?_ ?_
  · exact fun _ _ _ _ _ h => h
  · refine al_cons ?_ (al_cons ?_ (al_cons ?_ (al_cons ?_ (al_cons ?_ (al_cons ?_ (al_cons ?_ (al_cons ?_ (al_cons ?_ (al_cons ?_ (al_cons ?_ (al_cons ?_ (al_cons ?_ (al_cons ?_ (al_cons ?_ (al_cons ?_ (al_cons ?_ (al_cons ?_ (al_cons ?_ (al_cons ?_ (al_cons ?_ (al_cons ?_ (al_cons ?_ (al_cons ?_ (al_cons ?_ (al_cons ?_ (al_cons ?_ (al_cons ?_ (al_cons ?_ (al_cons ?_ (al_cons ?_ (al_cons ?_ (al_cons ?_ (al_cons ?_ (al_nil))))))))))))))))))))))))))))))))))
    · intro LL xx ac wc sg hst hwant QQ hgo
      exact op_val hwant hgo hst _ (exec_move rfl ((sg.free 19 (by kernel_rfl)).trans so19)) rfl
    · intro LL xx ac wc sg hst hwant QQ hgo
      exact op_val hwant hgo hst _ (exec_move rfl ((sg.free 20 (by kernel_rfl)).trans so20)) rfl
    · intro LL xx ac wc sg hst hwant QQ hgo
      have se216 : ac.eval (.tmp 216) = _ := (sg.slot 0 (sg.anc 0 rfl))
      have sg216 := gt_of se216
      have se217 : ac.eval (.tmp 217) = _ := (sg.slot 1 (sg.anc 1 rfl))
      have sg217 := gt_of se217
      (try simp only [nth] at se216 sg216 se217 sg217)
      exact op_val hwant hgo hst _ (by simp only [execOp, nth]; go_simp <;> omega) rfl
    · intro LL xx ac wc sg hst hwant QQ hgo
      have H := Lib.hid hst
      refine hpS_load tyapi_Call H (y := y) rfl (sg.slot 2 (sg.anc 2 rfl)) hwant (by (repeat (first | exact List.Mem.head _ | apply List.Mem.tail))) HRx.out rfl ?_
      exact hgo _ () _ (fun _ _ => rfl) rfl hst
    · intro LL xx ac wc sg hst hwant QQ hgo
      have se219 : ac.eval (.tmp 219) = _ := (sg.slot 3 (sg.anc 3 rfl))
      have sg219 := gt_of se219
      (try simp only [nth] at se219 sg219)
      refine op_call hwant hgo 18 #[.agg (xA x)] (by simp only [execOp]; go_simp) (by have h := livesC x wc; rw [hx1] at h; exact h) ?_
      rintro er wd ⟨rfl, hof⟩
      exact ⟨_, (), rfl, fun _ _ => rfl, rfl, Hp.quiet hst hof⟩
    · intro LL xx ac wc sg hst hwant QQ hgo
      have se220 : ac.eval (.tmp 220) = _ := (sg.slot 4 (sg.anc 4 rfl))
      have sg220 := gt_of se220
      (try simp only [nth] at se220 sg220)
      exact op_val hwant hgo hst _ (by simp only [execOp, nth]; go_simp <;> omega) rfl
    · intro LL xx ac wc sg hst hwant QQ hgo
      exact op_val hwant hgo hst _ (exec_move rfl (sg.slot 5 (sg.anc 5 rfl))) rfl
    · intro LL xx ac wc sg hst hwant QQ hgo
      exact op_val hwant hgo hst _ (exec_move rfl ((sg.free 20 (by kernel_rfl)).trans so20)) rfl
    · intro LL xx ac wc sg hst hwant QQ hgo
      have se223 : ac.eval (.tmp 223) = _ := (sg.slot 7 (sg.anc 7 rfl))
      have sg223 := gt_of se223
      (try simp only [nth] at se223 sg223)
      exact op_val hwant hgo hst _ (by simp only [execOp, nth]; go_simp <;> omega) rfl
    · intro LL xx ac wc sg hst hwant QQ hgo
      exact op_val hwant hgo hst _ (exec_move rfl (sg.slot 8 (sg.anc 8 rfl))) rfl
    · intro LL xx ac wc sg hst hwant QQ hgo
      exact absurd ((want_t rfl rfl (sg.slot 9 (sg.anc 9 rfl))).symm.trans hwant) (by simp)
    · intro LL xx ac wc sg hst hwant QQ hgo
      exact absurd ((want_t rfl rfl (sg.slot 9 (sg.anc 9 rfl))).symm.trans hwant) (by simp)
    · intro LL xx ac wc sg hst hwant QQ hgo
      exact absurd ((want_t rfl rfl (sg.slot 9 (sg.anc 9 rfl))).symm.trans hwant) (by simp)
    · intro LL xx ac wc sg hst hwant QQ hgo
      exact absurd ((want_t rfl rfl (sg.slot 9 (sg.anc 9 rfl))).symm.trans hwant) (by simp)
    · intro LL xx ac wc sg hst hwant QQ hgo
      exact absurd ((want_t rfl rfl (sg.slot 9 (sg.anc 9 rfl))).symm.trans hwant) (by simp)
    · intro LL xx ac wc sg hst hwant QQ hgo
      exact absurd ((want_t rfl rfl (sg.slot 9 (sg.anc 9 rfl))).symm.trans hwant) (by simp)
    · intro LL xx ac wc sg hst hwant QQ hgo
      exact absurd ((want_t rfl rfl (sg.slot 9 (sg.anc 9 rfl))).symm.trans hwant) (by simp)
    · intro LL xx ac wc sg hst hwant QQ hgo
      exact absurd ((want_t rfl rfl (sg.slot 9 (sg.anc 9 rfl))).symm.trans hwant) (by simp)
    · intro LL xx ac wc sg hst hwant QQ hgo
      exact absurd ((want_t rfl rfl (sg.slot 9 (sg.anc 9 rfl))).symm.trans hwant) (by simp)
    · intro LL xx ac wc sg hst hwant QQ hgo
      exact absurd ((want_t rfl rfl (sg.slot 9 (sg.anc 9 rfl))).symm.trans hwant) (by simp)
    · intro LL xx ac wc sg hst hwant QQ hgo
      exact absurd ((want_t rfl rfl (sg.slot 9 (sg.anc 9 rfl))).symm.trans hwant) (by simp)
    · intro LL xx ac wc sg hst hwant QQ hgo
      exact absurd ((want_t rfl rfl (sg.slot 9 (sg.anc 9 rfl))).symm.trans hwant) (by simp)
    · intro LL xx ac wc sg hst hwant QQ hgo
      exact op_val hwant hgo hst (.bool false) (exec_pick (B := false) (U := undef) (V := .bool false) rfl (sg.slot 9 (sg.anc 9 rfl)) (fun h => by cases h) (fun _ => rfl)) rfl
    · intro LL xx ac wc sg hst hwant QQ hgo
      exact op_val hwant hgo hst (.bool false) (exec_pick (B := false) (U := undef) (V := .bool false) rfl (sg.slot 6 (sg.anc 6 rfl)) (fun h => by cases h) (fun _ => (sg.slot 22 (sg.anc 22 rfl)))) rfl
    · intro LL xx ac wc sg hst hwant QQ hgo
      exact op_val hwant hgo hst _ (exec_move rfl (sg.slot 23 (sg.anc 23 rfl))) rfl
    · intro LL xx ac wc sg hst hwant QQ hgo
      exact op_val hwant hgo hst _ (exec_move rfl ((sg.free 19 (by kernel_rfl)).trans so19)) rfl
    · intro LL xx ac wc sg hst hwant QQ hgo
      exact op_val hwant hgo hst _ (exec_move rfl ((sg.free 20 (by kernel_rfl)).trans so20)) rfl
    · intro LL xx ac wc sg hst hwant QQ hgo
      have se241 : ac.eval (.tmp 241) = _ := (sg.slot 25 (sg.anc 25 rfl))
      have sg241 := gt_of se241
      have se242 : ac.eval (.tmp 242) = _ := (sg.slot 26 (sg.anc 26 rfl))
      have sg242 := gt_of se242
      (try simp only [nth] at se241 sg241 se242 sg242)
      exact op_val hwant hgo hst _ (by simp only [execOp, nth]; go_simp <;> omega) rfl
    · intro LL xx ac wc sg hst hwant QQ hgo
      have se243 : ac.eval (.tmp 243) = _ := (sg.slot 27 (sg.anc 27 rfl))
      have sg243 := gt_of se243
      (try simp only [nth] at se243 sg243)
      exact op_val hwant hgo hst _ (by simp only [execOp, nth]; go_simp <;> omega) rfl
    · intro LL xx ac wc sg hst hwant QQ hgo
      have H := Lib.hid hst
      refine hpS_load1 0 tyint H (y := y) rfl (sg.slot 28 (sg.anc 28 rfl)) hwant (by (repeat (first | exact List.Mem.head _ | apply List.Mem.tail))) HRx.out (by rfl) (by simp [Addr.add]) ?_
      exact hgo _ () _ (fun _ _ => rfl) rfl hst
    · intro LL xx ac wc sg hst hwant QQ hgo
      have H := Lib.hid hst
      refine hpA_load tybook_Book H rfl ((sg.free 5 (by kernel_rfl)).trans so5) hwant (by (repeat (first | exact List.Mem.head _ | apply List.Mem.tail))) (by rfl) rfl ?_
      exact hgo _ () _ (fun _ _ => rfl) rfl hst
    · intro LL xx ac wc sg hst hwant QQ hgo
      have se246 : ac.eval (.tmp 246) = _ := (sg.slot 30 (sg.anc 30 rfl))
      have sg246 := gt_of se246
      (try simp only [nth] at se246 sg246)
      have H := Lib.hid hst
      refine op_call hwant hgo 11 #[.agg (bkA b.conf b.index b.room (.slice la b.live.length lc) (.slice da b.done.length dc) b.modes)] (by simp only [execOp]; go_simp) (indexC b la lc da dc  wc (hp_held H (by (repeat (first | exact List.Mem.head _ | apply List.Mem.tail)))) (hp_held H (by (repeat (first | exact List.Mem.head _ | apply List.Mem.tail)))) (Lib.hid hI.out.ok)) ?_
      rintro er wd ⟨rfl, hof⟩
      exact ⟨_, (), rfl, fun _ _ => rfl, rfl, Hp.quiet hst hof⟩
    · intro LL xx ac wc sg hst hwant QQ hgo
      have se245 : ac.eval (.tmp 245) = _ := (sg.slot 29 (sg.anc 29 rfl))
      have sg245 := gt_of se245
      have se247 : ac.eval (.tmp 247) = _ := (sg.slot 31 (sg.anc 31 rfl))
      have sg247 := gt_of se247
      (try simp only [nth] at se245 sg245 se247 sg247)
      exact op_val hwant hgo hst _ (by simp only [execOp, nth]; go_simp <;> omega) rfl
    · intro LL xx ac wc sg hst hwant QQ hgo
      exact op_val hwant hgo hst (.bool false) (exec_pick (B := false) (U := undef) (V := .bool false) rfl (sg.slot 24 (sg.anc 24 rfl)) (fun h => by cases h) (fun _ => (sg.slot 32 (sg.anc 32 rfl)))) rfl
  · refine skips [7, 8, 9, 10, 11, 12, 13, 14, 15, 16, 17, 18, 19, 20, 21, 22, 25, 26, 27, 28, 29, 30, 31, 32] (by kernel_rfl) ?_
    refine List.forall_mem_cons.2 ⟨?_, List.forall_mem_cons.2 ⟨?_, List.forall_mem_cons.2 ⟨?_, List.forall_mem_cons.2 ⟨?_, List.forall_mem_cons.2 ⟨?_, List.forall_mem_cons.2 ⟨?_, List.forall_mem_cons.2 ⟨?_, List.forall_mem_cons.2 ⟨?_, List.forall_mem_cons.2 ⟨?_, List.forall_mem_cons.2 ⟨?_, List.forall_mem_cons.2 ⟨?_, List.forall_mem_cons.2 ⟨?_, List.forall_mem_cons.2 ⟨?_, List.forall_mem_cons.2 ⟨?_, List.forall_mem_cons.2 ⟨?_, List.forall_mem_cons.2 ⟨?_, List.forall_mem_cons.2 ⟨?_, List.forall_mem_cons.2 ⟨?_, List.forall_mem_cons.2 ⟨?_, List.forall_mem_cons.2 ⟨?_, List.forall_mem_cons.2 ⟨?_, List.forall_mem_cons.2 ⟨?_, List.forall_mem_cons.2 ⟨?_, List.forall_mem_cons.2 ⟨?_, fun _ h => by cases h⟩⟩⟩⟩⟩⟩⟩⟩⟩⟩⟩⟩⟩⟩⟩⟩⟩⟩⟩⟩⟩⟩⟩⟩
    · intro oo hop LL xx ac sg hwant
      cases Option.some.inj hop
      exact absurd ((want_f rfl rfl (sg.slot 6 (sg.anc 6 rfl))).symm.trans hwant) (by decide)
    · intro oo hop LL xx ac sg hwant
      cases Option.some.inj hop
      exact absurd ((want_f rfl rfl (sg.slot 6 (sg.anc 6 rfl))).symm.trans hwant) (by decide)
    · intro oo hop LL xx ac sg hwant
      cases Option.some.inj hop
      exact absurd ((want_f rfl rfl (sg.slot 6 (sg.anc 6 rfl))).symm.trans hwant) (by decide)
    · intro oo hop LL xx ac sg hwant
      cases Option.some.inj hop
      exact ⟨rfl, fun _ h => h⟩
    · intro oo hop LL xx ac sg hwant
      cases Option.some.inj hop
      exact ⟨rfl, fun _ h => h⟩
    · intro oo hop LL xx ac sg hwant
      cases Option.some.inj hop
      exact ⟨rfl, fun _ h => h⟩
    · intro oo hop LL xx ac sg hwant
      cases Option.some.inj hop
      exact ⟨rfl, fun _ h => h⟩
    · intro oo hop LL xx ac sg hwant
      cases Option.some.inj hop
      exact ⟨rfl, fun _ h => h⟩
    · intro oo hop LL xx ac sg hwant
      cases Option.some.inj hop
      exact ⟨rfl, fun _ h => h⟩
    · intro oo hop LL xx ac sg hwant
      cases Option.some.inj hop
      exact ⟨rfl, fun _ h => h⟩
    · intro oo hop LL xx ac sg hwant
      cases Option.some.inj hop
      exact ⟨rfl, fun _ h => h⟩
    · intro oo hop LL xx ac sg hwant
      cases Option.some.inj hop
      exact ⟨rfl, fun _ h => h⟩
    · intro oo hop LL xx ac sg hwant
      cases Option.some.inj hop
      exact ⟨rfl, fun _ h => h⟩
    · intro oo hop LL xx ac sg hwant
      cases Option.some.inj hop
      exact ⟨rfl, fun _ h => h⟩
    · intro oo hop LL xx ac sg hwant
      cases Option.some.inj hop
      exact ⟨rfl, fun _ h => h⟩
    · intro oo hop LL xx ac sg hwant
      cases Option.some.inj hop
      exact absurd ((want_f rfl rfl (sg.slot 6 (sg.anc 6 rfl))).symm.trans hwant) (by decide)
    · intro oo hop LL xx ac sg hwant
      cases Option.some.inj hop
      exact absurd ((want_f rfl rfl (sg.slot 24 (sg.anc 24 rfl))).symm.trans hwant) (by decide)
    · intro oo hop LL xx ac sg hwant
      cases Option.some.inj hop
      exact absurd ((want_f rfl rfl (sg.slot 24 (sg.anc 24 rfl))).symm.trans hwant) (by decide)
    · intro oo hop LL xx ac sg hwant
      cases Option.some.inj hop
      exact absurd ((want_f rfl rfl (sg.slot 24 (sg.anc 24 rfl))).symm.trans hwant) (by decide)
    · intro oo hop LL xx ac sg hwant
      cases Option.some.inj hop
      exact absurd ((want_f rfl rfl (sg.slot 24 (sg.anc 24 rfl))).symm.trans hwant) (by decide)
    · intro oo hop LL xx ac sg hwant
      cases Option.some.inj hop
      exact absurd ((want_f rfl rfl (sg.slot 24 (sg.anc 24 rfl))).symm.trans hwant) (by decide)
    · intro oo hop LL xx ac sg hwant
      cases Option.some.inj hop
      exact absurd ((want_f rfl rfl (sg.slot 24 (sg.anc 24 rfl))).symm.trans hwant) (by decide)
    · intro oo hop LL xx ac sg hwant
      cases Option.some.inj hop
      exact absurd ((want_f rfl rfl (sg.slot 24 (sg.anc 24 rfl))).symm.trans hwant) (by decide)
    · intro oo hop LL xx ac sg hwant
      cases Option.some.inj hop
      exact absurd ((want_f rfl rfl (sg.slot 24 (sg.anc 24 rfl))).symm.trans hwant) (by decide)
  · intro xx ac1 wz hfr hsl hst
    exact hfin ac1 wz (hfr.size.trans hz) hfr.defers (fr_keep hfr [216, 217, 218, 219, 220, 221, 222, 223, 224, 225, 226, 227, 228, 229, 230, 231, 232, 233, 234, 235, 236, 237, 238, 239, 240, 241, 242, 243, 244, 245, 246, 247, 248, 249] (by kernel_rfl)) (hsl 33 (by decide)) (Lib.hid hst)
set_option maxHeartbeats 16000000 in
set_option maxRecDepth 20000 in
theorem replays_w (c : Cfg) (pa : Option Addr) (pc : Nat) (ds : List DeedV) (w : World) (h1 : (rS pa pc 22 (ds.map deedRow)).holds w) (hon : Hid (∀ z ∈ ds, -9223372036854775808 ≤ z.ch.index ∧ z.ch.index ≤ 9223372036854775807)) : Calls Try.prog 3 #[.agg (cA c), .slice pa ds.length pc] w fun e w' => e = .returned (.bool true) ∧ Off [] w w' := by
 have H := Lib.hid (Hp.start [] w)
 have H := hp_old H h1 (by decide)
 clear h1
 refine wStart (args := [.agg (cA c), .slice pa ds.length pc]) Try.func3 rfl rfl rfl H ?_
 clear H
 show Wk 253 _ _ [(0, .agg (cA c)), (1, .slice pa ds.length pc)] _ _
 have hI0 : Hid (InvB (newB c)) := Lib.hid (inv_new c)
 refine wSeqK fun KK1 hK1 => ?_
 refine wReg ?_
 refine wBx rfl rfl rfl fun b2 => ?_
 refine p_replays_w rfl ?_
 refine wN ?_
 refine tN (wKK hK1 ?_)
 refine wSeqK fun KK2 hK2 => ?_
 refine wSeqK fun KK3 hK3 => ?_
 refine wReg ?_
 refine wQ (l := []) Try.func9 rfl (by kernel_rfl) (.bool true) (fun wc H => awake9 wc) rfl rfl rfl rfl ?_
 refine p_replays_w rfl ?_
 refine wN ?_
 refine tN (wKK hK3 ?_)
 refine wCf rfl ?_
 refine wSk ?_
 refine tN (wKK hK2 ?_)
 refine wSeqK fun KK4 hK4 => ?_
 refine wReg ?_
 refine wLr rfl tyapi_Config 0 rfl (cL c) rfl rfl ?_
 refine wC (l := [.agg (cA c)]) Try.func10 rfl (by kernel_rfl) (fun wc H => newBC c wc) rfl rfl rfl rfl ?_
 intro wc H
 rintro er wd ⟨la3_1, lc3_1, da3_1, dc3_1, rfl, hg⟩
 have H2 := hp_gotB H hg.2.2.2.2 hg.1 hg.2.1 (by decide) (by decide) hg.2.2.1 hg.2.2.2.1 (fun r hr => by cases hr)
 refine ⟨_, rfl, wkAt H2 ?_⟩
 clear H H2
 refine wAl rfl rfl tybook_Book fun b5 => ?_
 refine wSr rfl tybook_Book 0 rfl rfl rfl rfl (bkL ((newB c).conf) ((newB c).index) ((newB c).room) (.slice la3_1 ((newB c).live.length) lc3_1) (.slice da3_1 ((newB c).done.length) dc3_1) ((newB c).modes)) (by first | rfl | (simp only [spl]; rfl)) ?_
 refine wN ?_
 refine tN (wKK hK4 ?_)
 refine wSeqK fun KK5 hK5 => ?_
 refine wReg ?_
 intro aa ww nn dd hs H
 refine hp_bslice0 elChg H rfl (wnt_ok hs rfl) ?_
 intro wd b25 H2
 replace H2 : Hid (Hp [] w wd (rA (some ⟨b25, 0, none⟩) 0 40 11 (([] : List ChgV).map chgRow) :: _)) := H2
 refine wGo (v := .slice (some ⟨b25, 0, none⟩) 0 0) nn dd hs rfl H2 ?_
 clear nn dd hs H H2
 refine p_replays_w rfl ?_
 refine wN ?_
 refine tN (wKK hK5 ?_)
 refine wSeqK fun KK6 hK6 => ?_
 refine wReg ?_
 refine wMk rfl rfl rfl rfl ?_
 intro b26
 refine p_replays_w rfl ?_
 refine wN ?_
 refine tN (wKK hK6 ?_)
 refine wSeqK fun KK7 hK7 => ?_
 refine wSeqK fun KK8 hK8 => ?_
 refine wReg ?_
 refine p_replays_w rfl ?_
 refine wN ?_
 refine tN (wKK hK8 ?_)
 refine wBlk ?_
 refine wH (R' := [rB b5 33 (bkL ((newB c).conf) ((newB c).index) ((newB c).room) (.slice la3_1 ((newB c).live.length) lc3_1) (.slice da3_1 ((newB c).done.length) dc3_1) ((newB c).modes)), rA (some ⟨b25, 0, none⟩) 0 40 11 (([] : List ChgV).map chgRow), rMp b26 [], rS la3_1 lc3_1 9 ((newB c).live.map rowOf), rS da3_1 dc3_1 8 ((newB c).done.map callRow), rB b2 24 (cL c), rS pa pc 22 (ds.map deedRow)]) (fun ww H => hp_sel [2, 1, 0, 3, 4, 5, 6] H (by decide) rfl) ?_
 refine wLoop (fun ab wv => ∃ i : Nat, ∃ b : BookV, ∃ la : Option Addr, ∃ lc : Nat, ∃ da : Option Addr, ∃ dc : Nat, ∃ aa_ : Option Addr, ∃ ac_ : Nat, ∃ ys : List ChgV, ∃ E : List Int, (i ≤ ds.length) ∧ (i ≤ 60) ∧ (ys.length ≤ i) ∧ (Hid (RepI c ys E b)) ∧ ab.tmps.size = 253 ∧ ab.defers = [] ∧ Sat [(0, .agg (cA c)), (1, .slice pa ds.length pc), (2, .pointer (some ⟨b2, 0, none⟩)), (5, .pointer (some ⟨b5, 0, none⟩)), (6, .slice aa_ ys.length ac_), (7, .map (some b26)), (8, .int .i64 i), (22, .bool false)] ab ∧ Hid (Hp [] w wv [rB b5 33 (bkL b.conf b.index b.room (.slice la b.live.length lc) (.slice da b.done.length dc) b.modes), rA aa_ ac_ 40 11 (ys.map chgRow), rMp b26 E, rS la lc 9 (b.live.map rowOf), rS da dc 8 (b.done.map callRow), rB b2 24 (cL c), rS pa pc 22 (ds.map deedRow)])) (fun ab _ => 60 - (intOf (ab.eval (.tmp 8))).toNat) (fun aa ww nn dd hs H => ⟨0, (newB c), la3_1, lc3_1, da3_1, dc3_1, (some ⟨b25, 0, none⟩), 0, [], [], (Nat.zero_le _), (by omega), (Nat.zero_le _), (Lib.hid (rep_new c)), nn, dd, (sat_sub ⟨rfl, rfl, rfl, rfl, rfl, rfl, rfl, rfl, trivial⟩ hs), H⟩) ?_
 rintro a1 wv ⟨i, b, la, lc, da, dc, aa_, ac_, ys, E, hi, hi2, hyi, hR, nn, dd, hs, H⟩
 have mu1_8 := hs 8 _ rfl
 refine wIn nn dd hs H ?_
 clear nn dd hs H
 refine wSeqK fun KK9 hK9 => ?_
 refine wSeqK fun KK10 hK10 => ?_
 refine wReg ?_
 iterate 2 refine p_replays_w rfl ?_
 refine wE (.int .i64 ds.length) rfl rfl rfl (fun aa ww hs _ => by have e28 := hs 28 _ rfl; have g28 := gt_of e28; simp only [execOp]; go_simp <;> first | rfl | omega) ?_
 refine p_replays_w rfl ?_
 refine wB (c := decide (i < ds.length)) 30 rfl (by simp) ?_
 refine p_replays_w rfl ?_
 refine wCut 3 [(34, .bool ((decide (i < ds.length)) && (decide ((i : Int) < 60)))), (0, .agg (cA c)), (1, .slice pa ds.length pc), (2, .pointer (some ⟨b2, 0, none⟩)), (5, .pointer (some ⟨b5, 0, none⟩)), (6, .slice aa_ ys.length ac_), (7, .map (some b26)), (8, .int .i64 i), (22, .bool false)] ?_ ?_
 · intro KK hKK
   rcases Bool.eq_false_or_eq_true (decide (i < ds.length)) with u1 | u1
   · skip
     refine wB (c := true) 31 rfl u1 ?_
     iterate 2 refine p_replays_w rfl ?_
     refine p_replays_w rfl ?_
     refine wB (c := (decide (i < ds.length)) && (decide ((i : Int) < 60))) 34 rfl (by rw [u1]; rfl) ?_
     refine wN (tN ?_)
     exact fun aa ww nn dd hs H => hKK aa ww nn dd (sat_sub ⟨rfl, rfl, rfl, rfl, rfl, rfl, rfl, rfl, rfl, trivial⟩ hs) H
   · skip
     refine wB (c := false) 31 rfl u1 ?_
     iterate 2 refine p_replays_w rfl ?_
     refine p_replays_w rfl ?_
     refine wB (c := (decide (i < ds.length)) && (decide ((i : Int) < 60))) 34 rfl (by rw [u1]; rfl) ?_
     refine wN (tN ?_)
     exact fun aa ww nn dd hs H => hKK aa ww nn dd (sat_sub ⟨rfl, rfl, rfl, rfl, rfl, rfl, rfl, rfl, rfl, trivial⟩ hs) H
 refine wN ?_
 refine tN (wKK hK10 ?_)
 refine wCond (E := (decide (i < ds.length)) && (decide ((i : Int) < 60))) rfl (fun z2 => ?_) (fun z2 => ?_)
 · skip
   have z2l : (decide (i < ds.length)) = true := Reg.bl z2
   have z2ld : i < ds.length := of_decide_eq_true z2l
   have z2r : (decide ((i : Int) < 60)) = true := Reg.br z2
   have z2rd : (i : Int) < 60 := of_decide_eq_true z2r
   intro aa ww nn dd hs H
   obtain ⟨yx, rfl⟩ := some_of_row (i := i) (hp_held H (show rS pa _ 22 (ds.map deedRow) ∈ _ by (repeat (first | exact List.Mem.head _ | apply List.Mem.tail)))) (by simp; omega)
   obtain ⟨x, hx⟩ : ∃ x, ds[i]? = some x := ⟨ds[i], List.getElem?_eq_getElem (by omega)⟩
   have HRx := Lib.hid (show (ds.map deedRow)[i]? = some [.int .i64 x.kind, .int .i64 x.x.id, .int .i64 x.x.kind, .int .i64 x.x.src, .int .i64 x.x.dst, .int .i64 x.x.car, .int .i64 x.x.state, .int .i64 x.x.owner, .int .i64 x.x.born, .int .i64 x.n, .int .i64 x.m, .int .i64 x.ch.index, .int .i64 x.ch.call.id, .int .i64 x.ch.call.kind, .int .i64 x.ch.call.src, .int .i64 x.ch.call.dst, .int .i64 x.ch.call.car, .int .i64 x.ch.call.state, .int .i64 x.ch.call.owner, .int .i64 x.ch.call.born, .int .i64 x.ch.car, .int .i64 x.ch.mode] by rw [List.getElem?_map, hx]; rfl)
   have HXx := Lib.hid hx
   clear hx
   have hchi := hon.out x (List.mem_of_getElem? HXx.out)
   have hI : Hid (InvB b) := Lib.hid hR.out.inv
   have hbi := hI.out.ok.index
   have hbx : b.index ≤ (ys.length : Int) ∧ (ys.length : Int) ≤ b.index := by have := hR.out.ix; omega
   have hsm := hI.out.small
   have hll := live_len b
   have hl64 : (liveV b).length ≤ 64 := by omega
   clear hsm hll
   refine wIn nn dd hs H ?_
   refine wSk ?_
   refine tN (wKK hK9 ?_)
   refine wSeqK fun KK11 hK11 => ?_
   refine wBlk ?_
   refine wSeqK fun KK12 hK12 => ?_
   refine wReg ?_
   iterate 2 refine p_replays_w rfl ?_
   refine wE (.pointer (some (yx.add (i * 22)))) rfl rfl rfl (fun aa ww hs _ => by have e37 := hs 37 _ rfl; have g37 := gt_of e37; have e38 := hs 38 _ rfl; have g38 := gt_of e38; simp only [execOp]; go_simp <;> first | rfl | omega) ?_
   refine wX 40 (.agg #[.int .i64 x.kind, .int .i64 x.x.id, .int .i64 x.x.kind, .int .i64 x.x.src, .int .i64 x.x.dst, .int .i64 x.x.car, .int .i64 x.x.state, .int .i64 x.x.owner, .int .i64 x.x.born, .int .i64 x.n, .int .i64 x.m, .int .i64 x.ch.index, .int .i64 x.ch.call.id, .int .i64 x.ch.call.kind, .int .i64 x.ch.call.src, .int .i64 x.ch.call.dst, .int .i64 x.ch.call.car, .int .i64 x.ch.call.state, .int .i64 x.ch.call.owner, .int .i64 x.ch.call.born, .int .i64 x.ch.car, .int .i64 x.ch.mode]) rfl (fun aa ww KK hs H _ hk => hpS_load tyhoistwaylaw09_Deed H (y := yx) rfl (hs _ _ rfl) (wnt_ok hs rfl) (by (repeat (first | exact List.Mem.head _ | apply List.Mem.tail))) HRx.out rfl hk) ?_
   refine wAl rfl rfl tyhoistwaylaw09_Deed fun b9 => ?_
   refine wSr rfl tyhoistwaylaw09_Deed 0 rfl rfl rfl rfl [.int .i64 x.kind, .int .i64 x.x.id, .int .i64 x.x.kind, .int .i64 x.x.src, .int .i64 x.x.dst, .int .i64 x.x.car, .int .i64 x.x.state, .int .i64 x.x.owner, .int .i64 x.x.born, .int .i64 x.n, .int .i64 x.m, .int .i64 x.ch.index, .int .i64 x.ch.call.id, .int .i64 x.ch.call.kind, .int .i64 x.ch.call.src, .int .i64 x.ch.call.dst, .int .i64 x.ch.call.car, .int .i64 x.ch.call.state, .int .i64 x.ch.call.owner, .int .i64 x.ch.call.born, .int .i64 x.ch.car, .int .i64 x.ch.mode] (by first | rfl | (simp only [spl]; rfl)) ?_
   refine wN ?_
   refine tN (wKK hK12 ?_)
   refine wSeqK fun KK13 hK13 => ?_
   refine wReg ?_
   refine wLr rfl tybook_Book 1 rfl (bkL b.conf b.index b.room (.slice la b.live.length lc) (.slice da b.done.length dc) b.modes) rfl rfl ?_
   refine wQ (l := [.agg (bkA b.conf b.index b.room (.slice la b.live.length lc) (.slice da b.done.length dc) b.modes)]) Try.func11 rfl (by kernel_rfl) (.int .i64 b.index) (fun wc H => indexC b la lc da dc  wc (hp_held H (by (repeat (first | exact List.Mem.head _ | apply List.Mem.tail)))) (hp_held H (by (repeat (first | exact List.Mem.head _ | apply List.Mem.tail)))) (Lib.hid hI.out.ok)) rfl rfl rfl rfl ?_
   refine p_replays_w rfl ?_
   refine wN ?_
   refine tN (wKK hK13 ?_)
   refine wSeqK fun KK14 hK14 => ?_
   refine wReg ?_
   refine wLr rfl tybook_Book 1 rfl (bkL b.conf b.index b.room (.slice la b.live.length lc) (.slice da b.done.length dc) b.modes) rfl rfl ?_
   refine wC (l := [.agg (bkA b.conf b.index b.room (.slice la b.live.length lc) (.slice da b.done.length dc) b.modes)]) Try.func12 rfl (by kernel_rfl) (fun wc H => liveC b la lc da dc wc (hp_held H (by (repeat (first | exact List.Mem.head _ | apply List.Mem.tail)))) (hp_held H (by (repeat (first | exact List.Mem.head _ | apply List.Mem.tail)))) (Lib.hid hI.out.ok)) rfl rfl rfl rfl ?_
   intro wc H
   rintro er wd ⟨a11_1, c11_1, rfl, hgv⟩
   have H2 := hp_got H (Rs := []) hgv.2.2 hgv.1 (by decide) (From.new hgv.2.1) (fun r hr => by cases hr)
   refine ⟨_, rfl, wkAt H2 ?_⟩
   clear H H2
   refine wE (.int .i64 ((liveV b).length)) rfl rfl rfl (fun aa ww hs _ => by have e44 := hs 44 _ rfl; have g44 := gt_of e44; simp only [execOp]; go_simp <;> first | rfl | omega) ?_
   refine p_replays_w rfl ?_
   refine wN ?_
   refine tN (wKK hK14 ?_)
   refine wSeqK fun KK15 hK15 => ?_
   refine wReg ?_
   refine wLr rfl tybook_Book 2 rfl (bkL b.conf b.index b.room (.slice la b.live.length lc) (.slice da b.done.length dc) b.modes) rfl rfl ?_
   refine wAl rfl rfl tybook_Book fun b12 => ?_
   refine wSr rfl tybook_Book 0 rfl rfl rfl rfl (bkL b.conf b.index b.room (.slice la b.live.length lc) (.slice da b.done.length dc) b.modes) (by first | rfl | (simp only [spl]; rfl)) ?_
   refine wN ?_
   refine tN (wKK hK15 ?_)
   refine wSeqK fun KK16 hK16 => ?_
   refine wReg ?_
   refine wE (.agg (chA zeroCh)) rfl rfl rfl (fun aa ww hs _ => by simp only [execOp]; go_simp <;> first | rfl | omega) ?_
   refine wAl rfl rfl tyapi_Change fun b13 => ?_
   refine wSr rfl tyapi_Change 0 rfl rfl rfl rfl (chL zeroCh) (by first | rfl | (simp only [spl]; rfl)) ?_
   refine wN ?_
   refine tN (wKK hK16 ?_)
   refine wSeqK fun KK17 hK17 => ?_
   refine wReg ?_
   refine p_replays_w rfl ?_
   refine wN ?_
   refine tN (wKK hK17 ?_)
   refine wSeqK fun KK18 hK18 => ?_
   refine wSeqK fun KK19 hK19 => ?_
   refine wReg ?_
   refine p_replays_w rfl ?_
   refine wLd rfl tyint 3 rfl rfl ?_
   refine wN ?_
   refine tN (wKK hK19 ?_)
   refine wBlk ?_
   refine wSeqK fun KK20 hK20 => ?_
   refine wSeqK fun KK21 hK21 => ?_
   refine wReg ?_
   iterate 2 refine p_replays_w rfl ?_
   refine wN ?_
   refine tN (wKK hK21 ?_)
   have hjn1 : ∀ (bn : BookV) (lan : Option Addr) (lcn : Nat) (dan : Option Addr) (dcn : Nat) (ch : ChgV) (e : Int) , Hid (RepT b bn ch e) → Wk 253 [] w [(0, .agg (cA c)), (1, .slice (some yx) ds.length pc), (2, .pointer (some ⟨b2, 0, none⟩)), (5, .pointer (some ⟨b5, 0, none⟩)), (6, .slice aa_ ys.length ac_), (7, .map (some b26)), (8, .int .i64 i), (9, .pointer (some ⟨b9, 0, none⟩)), (10, .int .i64 b.index), (11, .int .i64 ((liveV b).length)), (12, .pointer (some ⟨b12, 0, none⟩)), (13, .pointer (some ⟨b13, 0, none⟩)), (14, .int .i64 e), (22, .bool false), (34, .bool ((decide (i < ds.length)) && (decide ((i : Int) < 60)))), (49, .int .i64 x.kind)] [rB b12 33 (bkL bn.conf bn.index bn.room (.slice lan bn.live.length lcn) (.slice dan bn.done.length dcn) bn.modes), rB b13 40 (chL ch), rS lan lcn 9 (bn.live.map rowOf), rS dan dcn 8 (bn.done.map callRow), rS a11_1 c11_1 8 ((liveV b).map callRow), rB b9 42 [.int .i64 x.kind, .int .i64 x.x.id, .int .i64 x.x.kind, .int .i64 x.x.src, .int .i64 x.x.dst, .int .i64 x.x.car, .int .i64 x.x.state, .int .i64 x.x.owner, .int .i64 x.x.born, .int .i64 x.n, .int .i64 x.m, .int .i64 x.ch.index, .int .i64 x.ch.call.id, .int .i64 x.ch.call.kind, .int .i64 x.ch.call.src, .int .i64 x.ch.call.dst, .int .i64 x.ch.call.car, .int .i64 x.ch.call.state, .int .i64 x.ch.call.owner, .int .i64 x.ch.call.born, .int .i64 x.ch.car, .int .i64 x.ch.mode], rB b5 33 (bkL b.conf b.index b.room (.slice la b.live.length lc) (.slice da b.done.length dc) b.modes), rA aa_ ac_ 40 11 (ys.map chgRow), rMp b26 E, rS la lc 9 (b.live.map rowOf), rS da dc 8 (b.done.map callRow), rB b2 24 (cL c), rS (some yx) pc 22 (ds.map deedRow)] KK18 := by
    intro bn lan lcn dan dcn ch e hT
    refine wKK hK18 ?_
    refine wSeqK fun KK22 hK22 => ?_
    refine wSeqK fun KK23 hK23 => ?_
    refine wReg ?_
    refine wLr rfl tybook_Book 6 rfl (bkL b.conf b.index b.room (.slice la b.live.length lc) (.slice da b.done.length dc) b.modes) rfl rfl ?_
    refine wQ (l := [.agg (bkA b.conf b.index b.room (.slice la b.live.length lc) (.slice da b.done.length dc) b.modes)]) Try.func11 rfl (by kernel_rfl) (.int .i64 b.index) (fun wc H => indexC b la lc da dc  wc (hp_held H (by (repeat (first | exact List.Mem.head _ | apply List.Mem.tail)))) (hp_held H (by (repeat (first | exact List.Mem.head _ | apply List.Mem.tail)))) (Lib.hid hI.out.ok)) rfl rfl rfl rfl ?_
    iterate 2 refine p_replays_w rfl ?_
    refine wB (c := false) 103 rfl (by simp) ?_
    refine p_replays_w rfl ?_
    refine wLr rfl tybook_Book 6 rfl (bkL b.conf b.index b.room (.slice la b.live.length lc) (.slice da b.done.length dc) b.modes) rfl rfl ?_
    refine wC (l := [.agg (bkA b.conf b.index b.room (.slice la b.live.length lc) (.slice da b.done.length dc) b.modes)]) Try.func12 rfl (by kernel_rfl) (fun wc H => liveC b la lc da dc wc (hp_held H (by (repeat (first | exact List.Mem.head _ | apply List.Mem.tail)))) (hp_held H (by (repeat (first | exact List.Mem.head _ | apply List.Mem.tail)))) (Lib.hid hI.out.ok)) rfl rfl rfl rfl ?_
    intro wc H
    rintro er wd ⟨a26_6, c26_6, rfl, hgv⟩
    have H2 := hp_got H (Rs := []) hgv.2.2 hgv.1 (by decide) (From.new hgv.2.1) (fun r hr => by cases hr)
    refine ⟨_, rfl, wkAt H2 ?_⟩
    clear H H2
    refine wE (.int .i64 ((liveV b).length)) rfl rfl rfl (fun aa ww hs _ => by have e106 := hs 106 _ rfl; have g106 := gt_of e106; simp only [execOp]; go_simp <;> first | rfl | omega) ?_
    iterate 2 refine p_replays_w rfl ?_
    refine wB (c := false) 109 rfl (by simp) ?_
    refine p_replays_w rfl ?_
    refine wN ?_
    refine tN (wKK hK23 ?_)
    refine wCf rfl ?_
    refine wSk ?_
    refine tN (wKK hK22 ?_)
    refine wSeqK fun KK24 hK24 => ?_
    refine wSeqK fun KK25 hK25 => ?_
    refine wReg ?_
    iterate 2 refine p_replays_w rfl ?_
    refine wN ?_
    refine tN (wKK hK25 ?_)
    refine wCond (E := e != 0) rfl (fun z3 => ?_) (fun z3 => ?_)
    · skip
      have z3o : (e == 0) = false := neq_t z3
      intro aa ww nn dd hs H
      have hI2 : Hid (InvB bn) := Lib.hid hT.out.inv
      have hz := hT.out.no z3
      have hz1 : (decide (ch = (⟨0, (⟨0, 0, 0, 0, 0, 0, 0, 0⟩ : CallV), 0, 0⟩ : ChgV))) = true := decide_eq_true hz.1
      have hz2 : ((bn.index) != 0) = false := by rw [hz.2]; rfl
      have hz3 : (((liveV bn).length : Int) != 0) = false := by rw [hz.2]; rfl
      refine wIn nn dd hs H ?_
      refine wSeqK fun KK26 hK26 => ?_
      refine wSeqK fun KK27 hK27 => ?_
      refine wReg ?_
      refine wLr rfl tyapi_Change 2 rfl (chL ch) rfl rfl ?_
      refine wE (.agg (chA zeroCh)) rfl rfl rfl (fun aa ww hs _ => by simp only [execOp]; go_simp <;> first | rfl | omega) ?_
      refine wE (.bool (!(decide (ch = (⟨0, (⟨0, 0, 0, 0, 0, 0, 0, 0⟩ : CallV), 0, 0⟩ : ChgV))))) rfl rfl rfl (fun aa wc hs H => exec_neq rfl (hs _ _ rfl) (hs _ _ rfl) (by kernel_rfl) (run_eq_chg ch (⟨0, (⟨0, 0, 0, 0, 0, 0, 0, 0⟩ : CallV), 0, 0⟩ : ChgV) wc)) ?_
      refine wB 115 rfl (by rw [hz1] <;> rfl) ?_
      refine p_replays_w rfl ?_
      refine wLr rfl tybook_Book 1 rfl (bkL bn.conf bn.index bn.room (.slice lan bn.live.length lcn) (.slice dan bn.done.length dcn) bn.modes) rfl rfl ?_
      refine wQ (l := [.agg (bkA bn.conf bn.index bn.room (.slice lan bn.live.length lcn) (.slice dan bn.done.length dcn) bn.modes)]) Try.func11 rfl (by kernel_rfl) (.int .i64 bn.index) (fun wc H => indexC bn lan lcn dan dcn  wc (hp_held H (by (repeat (first | exact List.Mem.head _ | apply List.Mem.tail)))) (hp_held H (by (repeat (first | exact List.Mem.head _ | apply List.Mem.tail)))) (Lib.hid hI2.out.ok)) rfl rfl rfl rfl ?_
      refine p_replays_w rfl ?_
      refine wB 119 rfl hz2 ?_
      iterate 2 refine p_replays_w rfl ?_
      refine wLr rfl tybook_Book 1 rfl (bkL bn.conf bn.index bn.room (.slice lan bn.live.length lcn) (.slice dan bn.done.length dcn) bn.modes) rfl rfl ?_
      refine wC (l := [.agg (bkA bn.conf bn.index bn.room (.slice lan bn.live.length lcn) (.slice dan bn.done.length dcn) bn.modes)]) Try.func12 rfl (by kernel_rfl) (fun wc H => liveC bn lan lcn dan dcn wc (hp_held H (by (repeat (first | exact List.Mem.head _ | apply List.Mem.tail)))) (hp_held H (by (repeat (first | exact List.Mem.head _ | apply List.Mem.tail)))) (Lib.hid hI2.out.ok)) rfl rfl rfl rfl ?_
      intro wc H
      rintro er wd ⟨a29_10, c29_10, rfl, hgv⟩
      have H2 := hp_got H (Rs := []) hgv.2.2 hgv.1 (by decide) (From.new hgv.2.1) (fun r hr => by cases hr)
      refine ⟨_, rfl, wkAt H2 ?_⟩
      clear H H2
      refine wE (.int .i64 ((liveV bn).length)) rfl rfl rfl (fun aa ww hs _ => by have e123 := hs 123 _ rfl; have g123 := gt_of e123; simp only [execOp]; go_simp <;> first | rfl | omega) ?_
      refine p_replays_w rfl ?_
      refine wB 125 rfl hz3 ?_
      refine p_replays_w rfl ?_
      refine wN ?_
      refine tN (wKK hK27 ?_)
      refine wCf rfl ?_
      refine wSk ?_
      refine tN (wKK hK26 ?_)
      refine wEx ?_
      refine tX (bX (tN (wKK hK11 ?_)))
      refine wReg ?_
      iterate 2 refine p_replays_w rfl ?_
      refine wI 36 rfl (IntWalk.i64_in _ (by omega)) ?_
      refine p_replays_w rfl ?_
      refine wN ?_
      refine tN ?_
      intro aa ww nn dd hs H
      refine ⟨⟨i + 1, b, la, lc, da, dc, aa_, ac_, ys, E, (by omega), (by omega), (by omega), hR, nn, dd, (sat_sub ⟨rfl, rfl, rfl, rfl, rfl, rfl, rfl, rfl, trivial⟩ hs), (hp_sel [8, 9, 10, 11, 12, 13, 14] H (by decide) rfl)⟩, ?_⟩
      have m8 := hs 8 _ rfl
      simp only [mu1_8, m8, intOf]
      omega
    · skip
      have z3o : (e == 0) = true := neq_f z3
      intro aa ww nn dd hs H
      have hI2 : Hid (InvB bn) := Lib.hid hT.out.inv
      have hS := Lib.hid (rep_step hR.out (by omega) (hT.out.yes z3).2 (hT.out.yes z3).1)
      have hsm2 := hI2.out.small
      have hll2 := live_len bn
      have hl642 : (liveV bn).length ≤ 64 := by omega
      have hs1 := hS.out.1
      have hs2 := hS.out.2.1
      have hs3 := hS.out.2.2.1
      have hc64 : c.calls ≤ 9223372036854775807 ∨ True := .inr trivial
      have hz1 : ((bn.index) != (b.index + 1)) = false := by simp; omega
      have hz2 : ((ch.index) != (b.index + 1)) = false := by simp; omega
      have hz3 : (decide (c.calls < ((liveV bn).length : Int))) = false := decide_eq_false (by rw [hll2]; omega)
      have hz4 : (decide (c.calls < (bn.done.length : Int))) = false := decide_eq_false (by omega)
      have hz5 : ((endV E (ch.call.id)) != 0) = false := endV_no hs3.1
      have hkw : (Lit.int .i64 ch.call.id).wf = true := key_wf (by omega)
      have hE8 : E.length < 1000000 := by have := hR.out.few; omega
      clear hsm2 hll2 hs1 hs2 hs3 hc64
      refine wIn nn dd hs H ?_
      refine wSk ?_
      refine tN (wKK hK24 ?_)
      refine wSeqK fun KK28 hK28 => ?_
      refine wSeqK fun KK29 hK29 => ?_
      intro aa ww nn dd hs H
      refine replays_w_r31 c pc ds b2 b5 b26 i b la lc da dc aa_ ac_ ys E yx x b9 a11_1 c11_1 b12 b13 bn lan lcn dan dcn ch a26_6 c26_6 hi hi2 hyi z2ld z2rd hchi hbi hbx hl64 hI2 hz1 hz2 hz3 hz4 hz5 hl642 hkw hE8 H aa nn (hs 2 _ rfl) (hs 7 _ rfl) (hs 10 _ rfl) (hs 12 _ rfl) (hs 13 _ rfl) ?_
      intro a31_14 c31_14 a31_22 c31_22 ab wv nn2 dd2 kp o168 H2
      refine wIn nn2 (dd2.trans dd) (Sat.cons (Sat.cons (Sat.cons (Sat.cons (Sat.cons (Sat.cons (Sat.cons (Sat.cons (Sat.cons (Sat.cons (Sat.cons (Sat.cons (Sat.cons (Sat.cons (Sat.cons (Sat.cons (Sat.cons (Sat.cons (Sat.cons (sat_nil ab) ((kp 112 rfl).trans (hs 112 _ rfl))) ((kp 110 rfl).trans (hs 110 _ rfl))) ((kp 49 rfl).trans (hs 49 _ rfl))) ((kp 34 rfl).trans (hs 34 _ rfl))) ((kp 22 rfl).trans (hs 22 _ rfl))) ((kp 14 rfl).trans (hs 14 _ rfl))) ((kp 13 rfl).trans (hs 13 _ rfl))) ((kp 12 rfl).trans (hs 12 _ rfl))) ((kp 11 rfl).trans (hs 11 _ rfl))) ((kp 10 rfl).trans (hs 10 _ rfl))) ((kp 9 rfl).trans (hs 9 _ rfl))) ((kp 8 rfl).trans (hs 8 _ rfl))) ((kp 7 rfl).trans (hs 7 _ rfl))) ((kp 6 rfl).trans (hs 6 _ rfl))) ((kp 5 rfl).trans (hs 5 _ rfl))) ((kp 2 rfl).trans (hs 2 _ rfl))) ((kp 1 rfl).trans (hs 1 _ rfl))) ((kp 0 rfl).trans (hs 0 _ rfl))) o168) H2 ?_
      clear hs H kp H2 dd dd2 nn nn2 o168
      refine tN (wKK hK29 ?_)
      refine wCf rfl ?_
      refine wSk ?_
      refine tN (wKK hK28 ?_)
      refine wSeqK fun KK30 hK30 => ?_
      refine wSeqK fun KK31 hK31 => ?_
      refine wReg ?_
      iterate 2 refine p_replays_w rfl ?_
      refine wLd rfl tyint 4 rfl rfl ?_
      iterate 2 refine p_replays_w rfl ?_
      refine wCut 5 [(178, .bool ((ch.call.id != 0) && (!(livesV ch.call)))), (0, .agg (cA c)), (1, .slice (some yx) ds.length pc), (2, .pointer (some ⟨b2, 0, none⟩)), (5, .pointer (some ⟨b5, 0, none⟩)), (6, .slice aa_ ys.length ac_), (7, .map (some b26)), (8, .int .i64 i), (9, .pointer (some ⟨b9, 0, none⟩)), (10, .int .i64 b.index), (11, .int .i64 ((liveV b).length)), (12, .pointer (some ⟨b12, 0, none⟩)), (13, .pointer (some ⟨b13, 0, none⟩)), (14, .int .i64 e), (22, .bool false), (34, .bool ((decide (i < ds.length)) && (decide ((i : Int) < 60)))), (49, .int .i64 x.kind), (110, .bool false), (112, .bool (e != 0)), (168, .bool false)] ?_ ?_
      · intro KK hKK
        rcases Bool.eq_false_or_eq_true (ch.call.id != 0) with u4 | u4
        · skip
          refine wB (c := true) 173 rfl u4 ?_
          refine p_replays_w rfl ?_
          refine wLr rfl tyapi_Call 4 rfl (xL ch.call) rfl rfl ?_
          refine wQ (l := [.agg (xA ch.call)]) Try.func18 rfl (by kernel_rfl) (.bool (livesV ch.call)) (fun wc H => livesC ch.call wc) rfl rfl rfl rfl ?_
          refine p_replays_w rfl ?_
          refine p_replays_w rfl ?_
          refine wB (c := (ch.call.id != 0) && (!(livesV ch.call))) 178 rfl (by rw [u4]; rfl) ?_
          refine wN (tN ?_)
          exact fun aa ww nn dd hs H => hKK aa ww nn dd (sat_sub ⟨rfl, rfl, rfl, rfl, rfl, rfl, rfl, rfl, rfl, rfl, rfl, rfl, rfl, rfl, rfl, rfl, rfl, rfl, rfl, rfl, trivial⟩ hs) H
        · skip
          refine wB (c := false) 173 rfl u4 ?_
          iterate 4 refine p_replays_w rfl ?_
          refine p_replays_w rfl ?_
          refine wB (c := (ch.call.id != 0) && (!(livesV ch.call))) 178 rfl (by rw [u4]; rfl) ?_
          refine wN (tN ?_)
          exact fun aa ww nn dd hs H => hKK aa ww nn dd (sat_sub ⟨rfl, rfl, rfl, rfl, rfl, rfl, rfl, rfl, rfl, rfl, rfl, rfl, rfl, rfl, rfl, rfl, rfl, rfl, rfl, rfl, trivial⟩ hs) H
      refine wN ?_
      refine tN (wKK hK31 ?_)
      refine wCond (E := (ch.call.id != 0) && (!(livesV ch.call))) rfl (fun z5 => ?_) (fun z5 => ?_)
      · skip
        have z5l : (ch.call.id != 0) = true := Reg.bl z5
        have z5lo : (ch.call.id == 0) = false := neq_t z5l
        have z5r : (!(livesV ch.call)) = true := Reg.br z5
        have z5rn : (livesV ch.call) = false := Reg.bn z5r
        refine wReg ?_
        iterate 3 refine p_replays_w rfl ?_
        refine wLd rfl tyint 4 rfl rfl ?_
        refine wMu rfl rfl rfl rfl rfl rfl 11 rfl hE8 hkw ?_
        refine wN ?_
        refine tN (wKK hK30 ?_)
        refine wSeqK fun KK32 hK32 => ?_
        refine wReg ?_
        refine p_replays_w rfl ?_
        refine wLr rfl tyapi_Change 4 rfl (chL ch) rfl rfl ?_
        refine wBs (cs := (chL ch)) rfl rfl rfl rfl Try.underlying35 tyapi_Change rfl (by decide) (by decide) (by kernel_rfl) fun b185 => ?_
        intro aa ww nn dd hs H
        refine hp_append (news := [chgRow ch]) elChg H rfl rfl 11 rfl (hs _ _ rfl) (by simp) (hs _ _ rfl) rfl (hp_single (e := 40) H (List.mem_of_getElem? (i := 0) rfl) rfl (by simp [chgRow, Value.oneCell'])) (by simp; omega) (by decide) ?_
        intro wd a186 c186 H2
        rw [show ys.map chgRow ++ [chgRow ch] = (ys ++ [ch]).map chgRow by simp] at H2 ⊢
        rw [List.length_map]
        refine wGo (v := .slice a186 ((ys ++ [ch]).length) c186) nn dd hs rfl H2 ?_
        clear nn dd hs H H2
        refine p_replays_w rfl ?_
        refine wN ?_
        refine tN (wKK hK32 ?_)
        refine wReg ?_
        refine wLr rfl tybook_Book 4 rfl (bkL bn.conf bn.index bn.room (.slice lan bn.live.length lcn) (.slice dan bn.done.length dcn) bn.modes) rfl rfl ?_
        refine wSr rfl tybook_Book 10 rfl rfl rfl rfl (bkL bn.conf bn.index bn.room (.slice lan bn.live.length lcn) (.slice dan bn.done.length dcn) bn.modes) (by first | rfl | (simp only [spl]; rfl)) ?_
        refine wN ?_
        refine bN (tN (wKK hK11 ?_))
        refine wReg ?_
        iterate 2 refine p_replays_w rfl ?_
        refine wI 36 rfl (IntWalk.i64_in _ (by omega)) ?_
        refine p_replays_w rfl ?_
        refine wN ?_
        refine tN ?_
        intro aa ww nn dd hs H
        refine ⟨⟨i + 1, bn, lan, lcn, dan, dcn, a186, c186, (ys ++ [ch]), ch.call.id :: E, (by omega), (by omega), (by rw [List.length_append]; simp; omega), (Lib.hid (by have h := hS.out.2.2.2; unfold endE at h; rw [z5] at h; exact h)), nn, dd, (sat_sub ⟨rfl, rfl, rfl, rfl, rfl, rfl, rfl, rfl, trivial⟩ hs), (hp_sel [10, 11, 12, 6, 7, 15, 16] H (by decide) rfl)⟩, ?_⟩
        have m8 := hs 8 _ rfl
        simp only [mu1_8, m8, intOf]
        omega
      · skip
        refine wSk ?_
        refine tN (wKK hK30 ?_)
        refine wSeqK fun KK33 hK33 => ?_
        refine wReg ?_
        refine p_replays_w rfl ?_
        refine wLr rfl tyapi_Change 4 rfl (chL ch) rfl rfl ?_
        refine wBs (cs := (chL ch)) rfl rfl rfl rfl Try.underlying35 tyapi_Change rfl (by decide) (by decide) (by kernel_rfl) fun b185 => ?_
        intro aa ww nn dd hs H
        refine hp_append (news := [chgRow ch]) elChg H rfl rfl 11 rfl (hs _ _ rfl) (by simp) (hs _ _ rfl) rfl (hp_single (e := 40) H (List.mem_of_getElem? (i := 0) rfl) rfl (by simp [chgRow, Value.oneCell'])) (by simp; omega) (by decide) ?_
        intro wd a186 c186 H2
        rw [show ys.map chgRow ++ [chgRow ch] = (ys ++ [ch]).map chgRow by simp] at H2 ⊢
        rw [List.length_map]
        refine wGo (v := .slice a186 ((ys ++ [ch]).length) c186) nn dd hs rfl H2 ?_
        clear nn dd hs H H2
        refine p_replays_w rfl ?_
        refine wN ?_
        refine tN (wKK hK33 ?_)
        refine wReg ?_
        refine wLr rfl tybook_Book 4 rfl (bkL bn.conf bn.index bn.room (.slice lan bn.live.length lcn) (.slice dan bn.done.length dcn) bn.modes) rfl rfl ?_
        refine wSr rfl tybook_Book 10 rfl rfl rfl rfl (bkL bn.conf bn.index bn.room (.slice lan bn.live.length lcn) (.slice dan bn.done.length dcn) bn.modes) (by first | rfl | (simp only [spl]; rfl)) ?_
        refine wN ?_
        refine bN (tN (wKK hK11 ?_))
        refine wReg ?_
        iterate 2 refine p_replays_w rfl ?_
        refine wI 36 rfl (IntWalk.i64_in _ (by omega)) ?_
        refine p_replays_w rfl ?_
        refine wN ?_
        refine tN ?_
        intro aa ww nn dd hs H
        refine ⟨⟨i + 1, bn, lan, lcn, dan, dcn, a186, c186, (ys ++ [ch]), E, (by omega), (by omega), (by rw [List.length_append]; simp; omega), (Lib.hid (by have h := hS.out.2.2.2; unfold endE at h; rw [z5] at h; exact h)), nn, dd, (sat_sub ⟨rfl, rfl, rfl, rfl, rfl, rfl, rfl, rfl, trivial⟩ hs), (hp_sel [10, 11, 12, 6, 7, 15, 16] H (by decide) rfl)⟩, ?_⟩
        have m8 := hs 8 _ rfl
        simp only [mu1_8, m8, intOf]
        omega
   refine wCond (E := x.kind == 1) rfl (fun z6 => ?_) (fun z6 => ?_)
   · skip
     have z6o : (x.kind != 1) = false := eqq_t z6
     refine wSk ?_
     refine tN (wKK hK20 ?_)
     refine wCond (E := x.kind == 1) rfl (fun _ => ?_) (fun zz => absurd (z6.symm.trans zz) (by decide))
     refine wReg ?_
     refine wLr rfl tybook_Book 4 rfl (bkL b.conf b.index b.room (.slice la b.live.length lc) (.slice da b.done.length dc) b.modes) rfl rfl ?_
     refine p_replays_w rfl ?_
     refine wLr rfl tyapi_Call 3 rfl (xL x.x) rfl rfl ?_
     refine p_replays_w rfl ?_
     refine wLd rfl tyint 3 rfl rfl ?_
     refine p_replays_w rfl ?_
     refine wLd rfl tyint 3 rfl rfl ?_
     refine wC (l := [.agg (bkA b.conf b.index b.room (.slice la b.live.length lc) (.slice da b.done.length dc) b.modes), .agg (xA x.x), .int .i64 x.n, .int .i64 x.m]) Try.func13 rfl (by kernel_rfl) (fun wc H => placeC b la lc da dc x.x x.n x.m wc (hp_held H (by (repeat (first | exact List.Mem.head _ | apply List.Mem.tail)))) (hp_held H (by (repeat (first | exact List.Mem.head _ | apply List.Mem.tail)))) (Lib.hid hI.out.ok) ) rfl rfl rfl rfl ?_
     intro wc H
     rintro er wd ⟨la21_7, lc21_7, da21_7, dc21_7, rfl, hg⟩
     have H2 := hp_gotB H hg.2.2.2.2 hg.1 hg.2.1 (by decide) (by decide) hg.2.2.1 hg.2.2.2.1 (List.forall_mem_cons.2 ⟨(by (repeat (first | exact List.Mem.head _ | apply List.Mem.tail))), List.forall_mem_cons.2 ⟨(by (repeat (first | exact List.Mem.head _ | apply List.Mem.tail))), fun _ h => by cases h⟩⟩)
     refine ⟨_, rfl, wkAt H2 ?_⟩
     clear H H2
     iterate 4 refine p_replays_w rfl ?_
     refine wSr rfl tybook_Book 3 rfl rfl rfl rfl (bkL (((placeV b x.x x.n x.m).1).conf) (((placeV b x.x x.n x.m).1).index) (((placeV b x.x x.n x.m).1).room) (.slice la21_7 (((placeV b x.x x.n x.m).1).live.length) lc21_7) (.slice da21_7 (((placeV b x.x x.n x.m).1).done.length) dc21_7) (((placeV b x.x x.n x.m).1).modes)) (by first | rfl | (simp only [spl]; rfl)) ?_
     refine wSr rfl tyapi_Change 2 rfl rfl rfl rfl (chL ((placeV b x.x x.n x.m).2.1)) (by first | rfl | (simp only [spl]; rfl)) ?_
     refine p_replays_w rfl ?_
     refine wN ?_
     refine bN (tN ?_)
     intro aa ww nn dd hs H
     exact hjn1 ((placeV b x.x x.n x.m).1) la21_7 lc21_7 da21_7 dc21_7 ((placeV b x.x x.n x.m).2.1) ((placeV b x.x x.n x.m).2.2) (Lib.hid (repT_place hI.out (by omega) _ _ _)) aa ww nn dd (sat_sub ⟨rfl, rfl, rfl, rfl, rfl, rfl, rfl, rfl, rfl, rfl, rfl, rfl, rfl, rfl, rfl, rfl, trivial⟩ hs) (hp_sel [3, 2, 0, 1, 4, 5, 6, 7, 8, 9, 10, 11, 12] H (by decide) rfl)
   · skip
     have z6o : (x.kind != 1) = true := eqq_f z6
     refine wReg ?_
     iterate 2 refine p_replays_w rfl ?_
     refine wN ?_
     refine tN (wKK hK20 ?_)
     refine wCond (E := x.kind == 2) rfl (fun z7 => ?_) (fun z7 => ?_)
     · skip
       have z7o : (x.kind != 2) = false := eqq_t z7
       refine wReg ?_
       refine wLr rfl tybook_Book 4 rfl (bkL b.conf b.index b.room (.slice la b.live.length lc) (.slice da b.done.length dc) b.modes) rfl rfl ?_
       refine p_replays_w rfl ?_
       refine wLr rfl tyapi_Call 3 rfl (xL x.x) rfl rfl ?_
       refine p_replays_w rfl ?_
       refine wLd rfl tyint 3 rfl rfl ?_
       refine p_replays_w rfl ?_
       refine wLd rfl tyint 3 rfl rfl ?_
       refine wC (l := [.agg (bkA b.conf b.index b.room (.slice la b.live.length lc) (.slice da b.done.length dc) b.modes), .agg (xA x.x), .int .i64 x.n, .int .i64 x.m]) Try.func13 rfl (by kernel_rfl) (fun wc H => placeC b la lc da dc x.x x.n x.m wc (hp_held H (by (repeat (first | exact List.Mem.head _ | apply List.Mem.tail)))) (hp_held H (by (repeat (first | exact List.Mem.head _ | apply List.Mem.tail)))) (Lib.hid hI.out.ok) ) rfl rfl rfl rfl ?_
       intro wc H
       rintro er wd ⟨la21_7, lc21_7, da21_7, dc21_7, rfl, hg⟩
       have H2 := hp_gotB H hg.2.2.2.2 hg.1 hg.2.1 (by decide) (by decide) hg.2.2.1 hg.2.2.2.1 (List.forall_mem_cons.2 ⟨(by (repeat (first | exact List.Mem.head _ | apply List.Mem.tail))), List.forall_mem_cons.2 ⟨(by (repeat (first | exact List.Mem.head _ | apply List.Mem.tail))), fun _ h => by cases h⟩⟩)
       refine ⟨_, rfl, wkAt H2 ?_⟩
       clear H H2
       iterate 4 refine p_replays_w rfl ?_
       refine wSr rfl tybook_Book 3 rfl rfl rfl rfl (bkL (((placeV b x.x x.n x.m).1).conf) (((placeV b x.x x.n x.m).1).index) (((placeV b x.x x.n x.m).1).room) (.slice la21_7 (((placeV b x.x x.n x.m).1).live.length) lc21_7) (.slice da21_7 (((placeV b x.x x.n x.m).1).done.length) dc21_7) (((placeV b x.x x.n x.m).1).modes)) (by first | rfl | (simp only [spl]; rfl)) ?_
       refine wSr rfl tyapi_Change 2 rfl rfl rfl rfl (chL ((placeV b x.x x.n x.m).2.1)) (by first | rfl | (simp only [spl]; rfl)) ?_
       refine p_replays_w rfl ?_
       refine wN ?_
       refine bN (tN ?_)
       intro aa ww nn dd hs H
       exact hjn1 ((placeV b x.x x.n x.m).1) la21_7 lc21_7 da21_7 dc21_7 ((placeV b x.x x.n x.m).2.1) ((placeV b x.x x.n x.m).2.2) (Lib.hid (repT_place hI.out (by omega) _ _ _)) aa ww nn dd (sat_sub ⟨rfl, rfl, rfl, rfl, rfl, rfl, rfl, rfl, rfl, rfl, rfl, rfl, rfl, rfl, rfl, rfl, trivial⟩ hs) (hp_sel [3, 2, 0, 1, 4, 5, 6, 7, 8, 9, 10, 11, 12] H (by decide) rfl)
     · skip
       have z7o : (x.kind != 2) = true := eqq_f z7
       refine wSeqK fun KK34 hK34 => ?_
       refine wReg ?_
       iterate 2 refine p_replays_w rfl ?_
       refine wN ?_
       refine tN (wKK hK34 ?_)
       refine wCond (E := x.kind == 3) rfl (fun z8 => ?_) (fun z8 => ?_)
       · skip
         have z8o : (x.kind != 3) = false := eqq_t z8
         refine wReg ?_
         refine wLr rfl tybook_Book 4 rfl (bkL b.conf b.index b.room (.slice la b.live.length lc) (.slice da b.done.length dc) b.modes) rfl rfl ?_
         refine p_replays_w rfl ?_
         refine wLd rfl tyint 3 rfl rfl ?_
         refine p_replays_w rfl ?_
         refine wLd rfl tyint 3 rfl rfl ?_
         refine wC (l := [.agg (bkA b.conf b.index b.room (.slice la b.live.length lc) (.slice da b.done.length dc) b.modes), .int .i64 x.n, .int .i64 x.m]) Try.func14 rfl (by kernel_rfl) (fun wc H => cancelBC b la lc da dc x.n x.m wc (hp_held H (by (repeat (first | exact List.Mem.head _ | apply List.Mem.tail)))) (hp_held H (by (repeat (first | exact List.Mem.head _ | apply List.Mem.tail)))) (Lib.hid hI.out.ok) ) rfl rfl rfl rfl ?_
         intro wc H
         rintro er wd ⟨la23_5, lc23_5, da23_5, dc23_5, rfl, hg⟩
         have H2 := hp_gotB H hg.2.2.2.2 hg.1 hg.2.1 (by decide) (by decide) hg.2.2.1 hg.2.2.2.1 (List.forall_mem_cons.2 ⟨(by (repeat (first | exact List.Mem.head _ | apply List.Mem.tail))), List.forall_mem_cons.2 ⟨(by (repeat (first | exact List.Mem.head _ | apply List.Mem.tail))), fun _ h => by cases h⟩⟩)
         refine ⟨_, rfl, wkAt H2 ?_⟩
         clear H H2
         iterate 4 refine p_replays_w rfl ?_
         refine wSr rfl tybook_Book 3 rfl rfl rfl rfl (bkL (((cancelBV b x.n x.m).1).conf) (((cancelBV b x.n x.m).1).index) (((cancelBV b x.n x.m).1).room) (.slice la23_5 (((cancelBV b x.n x.m).1).live.length) lc23_5) (.slice da23_5 (((cancelBV b x.n x.m).1).done.length) dc23_5) (((cancelBV b x.n x.m).1).modes)) (by first | rfl | (simp only [spl]; rfl)) ?_
         refine wSr rfl tyapi_Change 2 rfl rfl rfl rfl (chL ((cancelBV b x.n x.m).2.1)) (by first | rfl | (simp only [spl]; rfl)) ?_
         refine p_replays_w rfl ?_
         refine wN ?_
         refine bN (tN ?_)
         intro aa ww nn dd hs H
         exact hjn1 ((cancelBV b x.n x.m).1) la23_5 lc23_5 da23_5 dc23_5 ((cancelBV b x.n x.m).2.1) ((cancelBV b x.n x.m).2.2) (Lib.hid (repT_cancel hI.out _ _)) aa ww nn dd (sat_sub ⟨rfl, rfl, rfl, rfl, rfl, rfl, rfl, rfl, rfl, rfl, rfl, rfl, rfl, rfl, rfl, rfl, trivial⟩ hs) (hp_sel [3, 2, 0, 1, 4, 5, 6, 7, 8, 9, 10, 11, 12] H (by decide) rfl)
       · skip
         have z8o : (x.kind != 3) = true := eqq_f z8
         refine wSeqK fun KK35 hK35 => ?_
         refine wReg ?_
         iterate 2 refine p_replays_w rfl ?_
         refine wN ?_
         refine tN (wKK hK35 ?_)
         refine wCond (E := x.kind == 4) rfl (fun z9 => ?_) (fun z9 => ?_)
         · skip
           have z9o : (x.kind != 4) = false := eqq_t z9
           refine wReg ?_
           refine wLr rfl tybook_Book 4 rfl (bkL b.conf b.index b.room (.slice la b.live.length lc) (.slice da b.done.length dc) b.modes) rfl rfl ?_
           refine p_replays_w rfl ?_
           refine wLd rfl tyint 3 rfl rfl ?_
           refine p_replays_w rfl ?_
           refine wLd rfl tyint 3 rfl rfl ?_
           refine wC (l := [.agg (bkA b.conf b.index b.room (.slice la b.live.length lc) (.slice da b.done.length dc) b.modes), .int .i64 x.n, .int .i64 x.m]) Try.func15 rfl (by kernel_rfl) (fun wc H => setC b la lc da dc x.n x.m wc (hp_held H (by (repeat (first | exact List.Mem.head _ | apply List.Mem.tail)))) (hp_held H (by (repeat (first | exact List.Mem.head _ | apply List.Mem.tail)))) (Lib.hid hI.out.ok) ) rfl rfl rfl rfl ?_
           intro wc H
           rintro er wd ⟨la25_5, lc25_5, da25_5, dc25_5, rfl, hg⟩
           have H2 := hp_gotB H hg.2.2.2.2 hg.1 hg.2.1 (by decide) (by decide) hg.2.2.1 hg.2.2.2.1 (List.forall_mem_cons.2 ⟨(by (repeat (first | exact List.Mem.head _ | apply List.Mem.tail))), List.forall_mem_cons.2 ⟨(by (repeat (first | exact List.Mem.head _ | apply List.Mem.tail))), fun _ h => by cases h⟩⟩)
           refine ⟨_, rfl, wkAt H2 ?_⟩
           clear H H2
           iterate 4 refine p_replays_w rfl ?_
           refine wSr rfl tybook_Book 3 rfl rfl rfl rfl (bkL (((setV b x.n x.m).1).conf) (((setV b x.n x.m).1).index) (((setV b x.n x.m).1).room) (.slice la25_5 (((setV b x.n x.m).1).live.length) lc25_5) (.slice da25_5 (((setV b x.n x.m).1).done.length) dc25_5) (((setV b x.n x.m).1).modes)) (by first | rfl | (simp only [spl]; rfl)) ?_
           refine wSr rfl tyapi_Change 2 rfl rfl rfl rfl (chL ((setV b x.n x.m).2.1)) (by first | rfl | (simp only [spl]; rfl)) ?_
           refine p_replays_w rfl ?_
           refine wN ?_
           refine bN (tN ?_)
           intro aa ww nn dd hs H
           exact hjn1 ((setV b x.n x.m).1) la25_5 lc25_5 da25_5 dc25_5 ((setV b x.n x.m).2.1) ((setV b x.n x.m).2.2) (Lib.hid (repT_set hI.out _ _)) aa ww nn dd (sat_sub ⟨rfl, rfl, rfl, rfl, rfl, rfl, rfl, rfl, rfl, rfl, rfl, rfl, rfl, rfl, rfl, rfl, trivial⟩ hs) (hp_sel [3, 2, 0, 1, 4, 5, 6, 7, 8, 9, 10, 11, 12] H (by decide) rfl)
         · skip
           have z9o : (x.kind != 4) = true := eqq_f z9
           refine wSeqK fun KK36 hK36 => ?_
           refine wReg ?_
           refine wLr rfl tybook_Book 4 rfl (bkL b.conf b.index b.room (.slice la b.live.length lc) (.slice da b.done.length dc) b.modes) rfl rfl ?_
           refine p_replays_w rfl ?_
           refine wLr rfl tyapi_Change 3 rfl (chL x.ch) rfl rfl ?_
           refine wC (l := [.agg (bkA b.conf b.index b.room (.slice la b.live.length lc) (.slice da b.done.length dc) b.modes), .agg (chA x.ch)]) Try.func16 rfl (by kernel_rfl) (fun wc H => applyC b la lc da dc x.ch wc (hp_held H (by (repeat (first | exact List.Mem.head _ | apply List.Mem.tail)))) (hp_held H (by (repeat (first | exact List.Mem.head _ | apply List.Mem.tail)))) (Lib.hid hI.out.ok) ) rfl rfl rfl rfl ?_
           intro wc H
           rintro er wd ⟨la16_3, lc16_3, da16_3, dc16_3, rfl, hg⟩
           have H2 := hp_gotB H hg.2.2.2.2 hg.1 hg.2.1 (by decide) (by decide) hg.2.2.1 hg.2.2.2.1 (List.forall_mem_cons.2 ⟨(by (repeat (first | exact List.Mem.head _ | apply List.Mem.tail))), List.forall_mem_cons.2 ⟨(by (repeat (first | exact List.Mem.head _ | apply List.Mem.tail))), fun _ h => by cases h⟩⟩)
           refine ⟨_, rfl, wkAt H2 ?_⟩
           clear H H2
           iterate 3 refine p_replays_w rfl ?_
           refine wSr rfl tybook_Book 3 rfl rfl rfl rfl (bkL (((applyV b x.ch).1).conf) (((applyV b x.ch).1).index) (((applyV b x.ch).1).room) (.slice la16_3 (((applyV b x.ch).1).live.length) lc16_3) (.slice da16_3 (((applyV b x.ch).1).done.length) dc16_3) (((applyV b x.ch).1).modes)) (by first | rfl | (simp only [spl]; rfl)) ?_
           refine p_replays_w rfl ?_
           refine wN ?_
           refine tN (wKK hK36 ?_)
           refine wSeqK fun KK37 hK37 => ?_
           refine wReg ?_
           iterate 2 refine p_replays_w rfl ?_
           refine wN ?_
           refine tN (wKK hK37 ?_)
           refine wCond (E := ((applyV b x.ch).2) == 0) rfl (fun z10 => ?_) (fun z10 => ?_)
           · skip
             have z10o : (((applyV b x.ch).2) != 0) = false := eqq_t z10
             refine wReg ?_
             refine p_replays_w rfl ?_
             refine wLr rfl tyapi_Change 5 rfl (chL x.ch) rfl rfl ?_
             refine wSr rfl tyapi_Change 2 rfl rfl rfl rfl (chL x.ch) (by first | rfl | (simp only [spl]; rfl)) ?_
             refine wN ?_
             refine bN (tN ?_)
             intro aa ww nn dd hs H
             exact hjn1 ((applyV b x.ch).1) la16_3 lc16_3 da16_3 dc16_3 x.ch ((applyV b x.ch).2) (Lib.hid (repT_yes hI.out (by omega) hchi z10)) aa ww nn dd (sat_sub ⟨rfl, rfl, rfl, rfl, rfl, rfl, rfl, rfl, rfl, rfl, rfl, rfl, rfl, rfl, rfl, rfl, trivial⟩ hs) (hp_sel [3, 2, 0, 1, 4, 5, 6, 7, 8, 9, 10, 11, 12] H (by decide) rfl)
           · skip
             have z10o : (((applyV b x.ch).2) != 0) = true := eqq_f z10
             refine wSk ?_
             refine bN (tN ?_)
             intro aa ww nn dd hs H
             exact hjn1 ((applyV b x.ch).1) la16_3 lc16_3 da16_3 dc16_3 (⟨0, (⟨0, 0, 0, 0, 0, 0, 0, 0⟩ : CallV), 0, 0⟩ : ChgV) ((applyV b x.ch).2) (Lib.hid (repT_no hI.out (by omega) hchi z10)) aa ww nn dd (sat_sub ⟨rfl, rfl, rfl, rfl, rfl, rfl, rfl, rfl, rfl, rfl, rfl, rfl, rfl, rfl, rfl, rfl, trivial⟩ hs) (hp_sel [3, 2, 0, 1, 4, 5, 6, 7, 8, 9, 10, 11, 12] H (by decide) rfl)
 · skip
   intro aa ww nn dd hs H
   have hI : Hid (InvB b) := Lib.hid hR.out.inv
   have hbi := hI.out.ok.index
   have hsm := hI.out.small
   have hll := live_len b
   have hl64 : (liveV b).length ≤ 64 := by omega
   clear hsm hll
   refine wIn nn dd hs H ?_
   refine wEx ?_
   refine tX (tX (bX (tN (wKK hK7 ?_))))
   refine wSeqK fun KK38 hK38 => ?_
   refine wReg ?_
   refine wLr rfl tyapi_Config 5 rfl (cL c) rfl rfl ?_
   refine wC (l := [.agg (cA c)]) Try.func10 rfl (by kernel_rfl) (fun wc H => newBC c wc) rfl rfl rfl rfl ?_
   intro wc H
   rintro er wd ⟨la37_1, lc37_1, da37_1, dc37_1, rfl, hg⟩
   have H2 := hp_gotB H hg.2.2.2.2 hg.1 hg.2.1 (by decide) (by decide) hg.2.2.1 hg.2.2.2.1 (fun r hr => by cases hr)
   refine ⟨_, rfl, wkAt H2 ?_⟩
   clear H H2
   refine wAl rfl rfl tybook_Book fun b15 => ?_
   refine wSr rfl tybook_Book 0 rfl rfl rfl rfl (bkL ((newB c).conf) ((newB c).index) ((newB c).room) (.slice la37_1 ((newB c).live.length) lc37_1) (.slice da37_1 ((newB c).done.length) dc37_1) ((newB c).modes)) (by first | rfl | (simp only [spl]; rfl)) ?_
   refine wN ?_
   refine tN (wKK hK38 ?_)
   refine wSeqK fun KK39 hK39 => ?_
   refine wSeqK fun KK40 hK40 => ?_
   refine wReg ?_
   refine p_replays_w rfl ?_
   refine wN ?_
   refine tN (wKK hK40 ?_)
   refine wBlk ?_
   refine wH (R' := [rB b15 33 (bkL ((newB c).conf) ((newB c).index) ((newB c).room) (.slice la37_1 ((newB c).live.length) lc37_1) (.slice da37_1 ((newB c).done.length) dc37_1) ((newB c).modes)), rS la37_1 lc37_1 9 ((newB c).live.map rowOf), rS da37_1 dc37_1 8 ((newB c).done.map callRow), rB b5 33 (bkL b.conf b.index b.room (.slice la b.live.length lc) (.slice da b.done.length dc) b.modes), rA aa_ ac_ 40 11 (ys.map chgRow), rMp b26 E, rS la lc 9 (b.live.map rowOf), rS da dc 8 (b.done.map callRow), rB b2 24 (cL c), rS pa pc 22 (ds.map deedRow)]) (fun ww H => hp_sel [0, 1, 2, 3, 4, 5, 6, 7, 8, 9] H (by decide) rfl) ?_
   refine wLoop (fun ab wv => ∃ j : Nat, ∃ r : BookV, ∃ ra : Option Addr, ∃ rc : Nat, ∃ sa : Option Addr, ∃ sc : Nat, (j ≤ ys.length) ∧ (Hid (r = foldB c (ys.take j))) ∧ ab.tmps.size = 253 ∧ ab.defers = [] ∧ Sat [(0, .agg (cA c)), (1, .slice pa ds.length pc), (2, .pointer (some ⟨b2, 0, none⟩)), (5, .pointer (some ⟨b5, 0, none⟩)), (6, .slice aa_ ys.length ac_), (7, .map (some b26)), (8, .int .i64 i), (15, .pointer (some ⟨b15, 0, none⟩)), (16, .int .i64 j), (22, .bool false), (34, .bool ((decide (i < ds.length)) && (decide ((i : Int) < 60))))] ab ∧ Hid (Hp [] w wv [rB b15 33 (bkL r.conf r.index r.room (.slice ra r.live.length rc) (.slice sa r.done.length sc) r.modes), rS ra rc 9 (r.live.map rowOf), rS sa sc 8 (r.done.map callRow), rB b5 33 (bkL b.conf b.index b.room (.slice la b.live.length lc) (.slice da b.done.length dc) b.modes), rA aa_ ac_ 40 11 (ys.map chgRow), rMp b26 E, rS la lc 9 (b.live.map rowOf), rS da dc 8 (b.done.map callRow), rB b2 24 (cL c), rS pa pc 22 (ds.map deedRow)])) (fun ab _ => ys.length - (intOf (ab.eval (.tmp 16))).toNat) (fun aa ww nn dd hs H => ⟨0, (newB c), la37_1, lc37_1, da37_1, dc37_1, (Nat.zero_le _), (Lib.hid rfl), nn, dd, (sat_sub ⟨rfl, rfl, rfl, rfl, rfl, rfl, rfl, rfl, rfl, rfl, rfl, trivial⟩ hs), H⟩) ?_
   rintro a2 wv ⟨j, r, ra, rc, sa, sc, hj, hr, nn, dd, hs, H⟩
   have mu2_16 := hs 16 _ rfl
   refine wIn nn dd hs H ?_
   clear nn dd hs H
   refine wSeqK fun KK41 hK41 => ?_
   refine wSeqK fun KK42 hK42 => ?_
   refine wReg ?_
   iterate 2 refine p_replays_w rfl ?_
   refine wE (.int .i64 ys.length) rfl rfl rfl (fun aa ww hs _ => by have e191 := hs 191 _ rfl; have g191 := gt_of e191; simp only [execOp]; go_simp <;> first | rfl | omega) ?_
   refine p_replays_w rfl ?_
   refine wB (c := decide (j < ys.length)) 193 rfl (by simp) ?_
   refine wN ?_
   refine tN (wKK hK42 ?_)
   refine wCond (E := decide (j < ys.length)) rfl (fun z11 => ?_) (fun z11 => ?_)
   · skip
     have z11d : j < ys.length := of_decide_eq_true z11
     intro aa ww nn dd hs H
     obtain ⟨y, rfl⟩ := some_of_row (i := j) (hp_held (hp_read H 4 rfl) (show rS aa_ _ 11 (ys.map chgRow) ∈ _ by (repeat (first | exact List.Mem.head _ | apply List.Mem.tail)))) (by simp; omega)
     obtain ⟨z, hz0⟩ : ∃ z, ys[j]? = some z := ⟨ys[j], List.getElem?_eq_getElem (by omega)⟩
     have hz := Lib.hid hz0
     have HRz := Lib.hid (show (ys.map chgRow)[j]? = some [.int .i64 z.index, .int .i64 z.call.id, .int .i64 z.call.kind, .int .i64 z.call.src, .int .i64 z.call.dst, .int .i64 z.call.car, .int .i64 z.call.state, .int .i64 z.call.owner, .int .i64 z.call.born, .int .i64 z.car, .int .i64 z.mode] by rw [List.getElem?_map, hz0]; rfl)
     clear hz0
     have hA := hR.out.all j z hz.out
     have hIr : Hid (InvB r) := Lib.hid (by rw [hr.out]; exact (hR.out.invs j hj).1)
     have hrx : r.index ≤ (j : Int) ∧ (j : Int) ≤ r.index := by have h := (hR.out.invs j hj).2; rw [← hr.out] at h; omega
     have hz0 : ((applyV r z).2 != 0) = false := by rw [hr.out, hA.1]; rfl
     have hchz : -9223372036854775808 ≤ z.index ∧ z.index ≤ 9223372036854775807 := by have h := hA.2; omega
     refine wIn nn dd hs H ?_
     refine wSk ?_
     refine tN (wKK hK41 ?_)
     refine wSeqK fun KK43 hK43 => ?_
     refine wBlk ?_
     refine wSeqK fun KK44 hK44 => ?_
     intro aa ww nn dd hs H
     refine replays_w_r41 c pa pc ds b2 b5 b26 i b la lc da dc ac_ ys E b15 j r ra rc sa sc y z hi hi2 hyi hbi hl64 hj z11d hz HRz hIr hrx hz0 hchz H aa nn (hs 6 _ rfl) (hs 15 _ rfl) (hs 16 _ rfl) ?_
     intro b17 la41_5 lc41_5 da41_5 dc41_5 ab wv nn2 dd2 kp o17 o18 H2
     refine wIn nn2 (dd2.trans dd) (Sat.cons (Sat.cons (Sat.cons (Sat.cons (Sat.cons (Sat.cons (Sat.cons (Sat.cons (Sat.cons (Sat.cons (Sat.cons (Sat.cons (Sat.cons (Sat.cons (sat_nil ab) ((kp 193 rfl).trans (hs 193 _ rfl))) ((kp 34 rfl).trans (hs 34 _ rfl))) ((kp 22 rfl).trans (hs 22 _ rfl))) ((kp 16 rfl).trans (hs 16 _ rfl))) ((kp 15 rfl).trans (hs 15 _ rfl))) ((kp 8 rfl).trans (hs 8 _ rfl))) ((kp 7 rfl).trans (hs 7 _ rfl))) ((kp 6 rfl).trans (hs 6 _ rfl))) ((kp 5 rfl).trans (hs 5 _ rfl))) ((kp 2 rfl).trans (hs 2 _ rfl))) ((kp 1 rfl).trans (hs 1 _ rfl))) ((kp 0 rfl).trans (hs 0 _ rfl))) o18) o17) H2 ?_
     clear hs H kp H2 dd dd2 nn nn2 o17 o18
     refine tN (wKK hK44 ?_)
     refine wSeqK fun KK45 hK45 => ?_
     refine wSeqK fun KK46 hK46 => ?_
     refine wReg ?_
     iterate 2 refine p_replays_w rfl ?_
     refine wB 206 rfl hz0 ?_
     refine wN ?_
     refine tN (wKK hK46 ?_)
     refine wCf rfl ?_
     refine wSk ?_
     refine tN (wKK hK45 ?_)
     refine wReg ?_
     refine wLr rfl tybook_Book 2 rfl (bkL (((applyV r z).1).conf) (((applyV r z).1).index) (((applyV r z).1).room) (.slice la41_5 (((applyV r z).1).live.length) lc41_5) (.slice da41_5 (((applyV r z).1).done.length) dc41_5) (((applyV r z).1).modes)) rfl rfl ?_
     refine wSr rfl tybook_Book 3 rfl rfl rfl rfl (bkL (((applyV r z).1).conf) (((applyV r z).1).index) (((applyV r z).1).room) (.slice la41_5 (((applyV r z).1).live.length) lc41_5) (.slice da41_5 (((applyV r z).1).done.length) dc41_5) (((applyV r z).1).modes)) (by first | rfl | (simp only [spl]; rfl)) ?_
     refine wN ?_
     refine bN (tN (wKK hK43 ?_))
     refine wReg ?_
     iterate 2 refine p_replays_w rfl ?_
     refine wI 195 rfl (IntWalk.i64_in _ (by omega)) ?_
     refine p_replays_w rfl ?_
     refine wN ?_
     refine tN ?_
     intro aa ww nn dd hs H
     refine ⟨⟨j + 1, ((applyV r z).1), la41_5, lc41_5, da41_5, dc41_5, (by omega), (Lib.hid (by rw [hr.out, fold_next hz.out])), nn, dd, (sat_sub ⟨rfl, rfl, rfl, rfl, rfl, rfl, rfl, rfl, rfl, rfl, rfl, trivial⟩ hs), (hp_sel [3, 0, 1, 6, 7, 8, 9, 10, 11, 12] H (by decide) rfl)⟩, ?_⟩
     have m16 := hs 16 _ rfl
     simp only [mu2_16, m16, intOf]
     omega
   · skip
     have z11d : ¬ (j < ys.length) := of_decide_eq_false z11
     intro aa ww nn dd hs H
     obtain rfl : b = r := by rw [hr.out, List.take_of_length_le (by omega)]; exact hR.out.book
     refine wIn nn dd hs H ?_
     refine wEx ?_
     refine tX (tX (bX (tN (wKK hK39 ?_))))
     refine wSeqK fun KK47 hK47 => ?_
     refine wReg ?_
     refine wLr rfl tybook_Book 3 rfl (bkL b.conf b.index b.room (.slice la b.live.length lc) (.slice da b.done.length dc) b.modes) rfl rfl ?_
     refine wC (l := [.agg (bkA b.conf b.index b.room (.slice la b.live.length lc) (.slice da b.done.length dc) b.modes)]) Try.func12 rfl (by kernel_rfl) (fun wc H => liveC b la lc da dc wc (hp_held H (by (repeat (first | exact List.Mem.head _ | apply List.Mem.tail)))) (hp_held H (by (repeat (first | exact List.Mem.head _ | apply List.Mem.tail)))) (Lib.hid hI.out.ok)) rfl rfl rfl rfl ?_
     intro wc H
     rintro er wd ⟨a45_1, c45_1, rfl, hgv⟩
     have H2 := hp_got H (Rs := []) hgv.2.2 hgv.1 (by decide) (From.new hgv.2.1) (fun r hr => by cases hr)
     refine ⟨_, rfl, wkAt H2 ?_⟩
     clear H H2
     refine p_replays_w rfl ?_
     refine wN ?_
     refine tN (wKK hK47 ?_)
     refine wSeqK fun KK48 hK48 => ?_
     refine wSeqK fun KK49 hK49 => ?_
     refine wReg ?_
     refine p_replays_w rfl ?_
     refine wN ?_
     refine tN (wKK hK49 ?_)
     refine wBlk ?_
     refine wLoop (fun ab wv => ∃ k : Nat, (k ≤ (liveV b).length) ∧ ab.tmps.size = 253 ∧ ab.defers = [] ∧ Sat [(0, .agg (cA c)), (1, .slice pa ds.length pc), (2, .pointer (some ⟨b2, 0, none⟩)), (5, .pointer (some ⟨b5, 0, none⟩)), (6, .slice aa_ ys.length ac_), (7, .map (some b26)), (8, .int .i64 i), (15, .pointer (some ⟨b15, 0, none⟩)), (16, .int .i64 j), (19, .slice a45_1 ((liveV b).length) c45_1), (20, .int .i64 k), (22, .bool false), (34, .bool ((decide (i < ds.length)) && (decide ((i : Int) < 60)))), (193, .bool (decide (j < ys.length)))] ab ∧ Hid (Hp [] w wv [rS a45_1 c45_1 8 ((liveV b).map callRow), rB b15 33 (bkL b.conf b.index b.room (.slice ra b.live.length rc) (.slice sa b.done.length sc) b.modes), rS ra rc 9 (b.live.map rowOf), rS sa sc 8 (b.done.map callRow), rB b5 33 (bkL b.conf b.index b.room (.slice la b.live.length lc) (.slice da b.done.length dc) b.modes), rA aa_ ac_ 40 11 (ys.map chgRow), rMp b26 E, rS la lc 9 (b.live.map rowOf), rS da dc 8 (b.done.map callRow), rB b2 24 (cL c), rS pa pc 22 (ds.map deedRow)])) (fun ab _ => (liveV b).length - (intOf (ab.eval (.tmp 20))).toNat) (fun aa ww nn dd hs H => ⟨0, (by omega), nn, dd, (sat_sub ⟨rfl, rfl, rfl, rfl, rfl, rfl, rfl, rfl, rfl, rfl, rfl, rfl, rfl, rfl, trivial⟩ hs), H⟩) ?_
     rintro a3 wv ⟨k, hk, nn, dd, hs, H⟩
     have mu3_20 := hs 20 _ rfl
     refine wIn nn dd hs H ?_
     clear nn dd hs H
     refine wSeqK fun KK50 hK50 => ?_
     refine wSeqK fun KK51 hK51 => ?_
     refine wReg ?_
     iterate 2 refine p_replays_w rfl ?_
     refine wE (.int .i64 ((liveV b).length)) rfl rfl rfl (fun aa ww hs _ => by have e211 := hs 211 _ rfl; have g211 := gt_of e211; simp only [execOp]; go_simp <;> first | rfl | omega) ?_
     refine p_replays_w rfl ?_
     refine wB (c := decide (k < ((liveV b).length))) 213 rfl (by simp) ?_
     refine wN ?_
     refine tN (wKK hK51 ?_)
     refine wCond (E := decide (k < ((liveV b).length))) rfl (fun z12 => ?_) (fun z12 => ?_)
     · skip
       have z12d : k < ((liveV b).length) := of_decide_eq_true z12
       intro aa ww nn dd hs H
       obtain ⟨y, rfl⟩ := some_of_row (i := k) (hp_held H (show rS a45_1 _ 8 ((liveV b).map callRow) ∈ _ by (repeat (first | exact List.Mem.head _ | apply List.Mem.tail)))) (by simp; omega)
       obtain ⟨x, hx⟩ : ∃ x, (liveV b)[k]? = some x := ⟨(liveV b)[k], List.getElem?_eq_getElem (by omega)⟩
       have HRx := Lib.hid (show ((liveV b).map callRow)[k]? = some [.int .i64 x.id, .int .i64 x.kind, .int .i64 x.src, .int .i64 x.dst, .int .i64 x.car, .int .i64 x.state, .int .i64 x.owner, .int .i64 x.born] by rw [List.getElem?_map, hx]; rfl)
       have hla := live_all hR.out.inv hx
       have hx1 : (livesV x) = true := hla.1
       have hx2 : (decide (b.index < x.id)) = false := decide_eq_false (by omega)
       refine wIn nn dd hs H ?_
       refine wSk ?_
       refine tN (wKK hK50 ?_)
       refine wSeqK fun KK52 hK52 => ?_
       refine wBlk ?_
       refine wSeqK fun KK53 hK53 => ?_
       rcases Bool.eq_false_or_eq_true (decide (0 < (k : Int))) with y13 | y13
       · skip
         intro aa ww nn dd hs H
         obtain ⟨k1, hk1⟩ : ∃ k1 : Nat, k = k1 + 1 := ⟨k - 1, by have := of_decide_eq_true y13; omega⟩
         have hk1i : (k : Int) - 1 = (k1 : Int) := by omega
         have hk1w : IntKind.i64.wrap (k1 : Int) = (k1 : Int) := IntWalk.i64_in _ (by omega)
         obtain ⟨p, hp⟩ : ∃ x, (liveV b)[k1]? = some x := ⟨(liveV b)[k1], List.getElem?_eq_getElem (by omega)⟩
         have HRp := Lib.hid (show ((liveV b).map callRow)[k1]? = some [.int .i64 p.id, .int .i64 p.kind, .int .i64 p.src, .int .i64 p.dst, .int .i64 p.car, .int .i64 p.state, .int .i64 p.owner, .int .i64 p.born] by rw [List.getElem?_map, hp]; rfl)
         have hlt := live_rise hR.out.inv hp (by rw [← hk1]; exact hx)
         replace hk1 := Lib.hid hk1
         have hx3 : (decide (x.id ≤ p.id)) = false := decide_eq_false (by omega)
         refine wIn nn dd hs H ?_
         intro aa ww nn dd hs H
         refine replays_w_r49 c pa pc ds b2 b5 b26 i b la lc da dc aa_ ac_ ys E b15 j ra rc sa sc c45_1 k y x k1 p hi hi2 hyi hI hbi hl64 hj z11d hk z12d HRx hx1 hx2 y13 HRp hk1i hk1w hx3 H aa nn (hs 5 _ rfl) (hs 19 _ rfl) (hs 20 _ rfl) ?_
         intro ab wv nn2 dd2 kp o249 H2
         refine wIn nn2 (dd2.trans dd) (Sat.cons (Sat.cons (Sat.cons (Sat.cons (Sat.cons (Sat.cons (Sat.cons (Sat.cons (Sat.cons (Sat.cons (Sat.cons (Sat.cons (Sat.cons (Sat.cons (Sat.cons (Sat.cons (sat_nil ab) ((kp 213 rfl).trans (hs 213 _ rfl))) ((kp 193 rfl).trans (hs 193 _ rfl))) ((kp 34 rfl).trans (hs 34 _ rfl))) ((kp 22 rfl).trans (hs 22 _ rfl))) ((kp 20 rfl).trans (hs 20 _ rfl))) ((kp 19 rfl).trans (hs 19 _ rfl))) ((kp 16 rfl).trans (hs 16 _ rfl))) ((kp 15 rfl).trans (hs 15 _ rfl))) ((kp 8 rfl).trans (hs 8 _ rfl))) ((kp 7 rfl).trans (hs 7 _ rfl))) ((kp 6 rfl).trans (hs 6 _ rfl))) ((kp 5 rfl).trans (hs 5 _ rfl))) ((kp 2 rfl).trans (hs 2 _ rfl))) ((kp 1 rfl).trans (hs 1 _ rfl))) ((kp 0 rfl).trans (hs 0 _ rfl))) o249) H2 ?_
         clear hs H kp H2 dd dd2 nn nn2 o249
         refine tN (wKK hK53 ?_)
         refine wCf rfl ?_
         refine wSk ?_
         refine bN (tN (wKK hK52 ?_))
         refine wReg ?_
         iterate 2 refine p_replays_w rfl ?_
         refine wI 215 rfl (IntWalk.i64_in _ (by omega)) ?_
         refine p_replays_w rfl ?_
         refine wN ?_
         refine tN ?_
         intro aa ww nn dd hs H
         refine ⟨⟨k + 1, (by omega), nn, dd, (sat_sub ⟨rfl, rfl, rfl, rfl, rfl, rfl, rfl, rfl, rfl, rfl, rfl, rfl, rfl, rfl, trivial⟩ hs), (Lib.hid (H.out.sub (by repeat (first | exact List.Sublist.refl _ | apply List.Sublist.cons₂ | apply List.Sublist.cons))))⟩, ?_⟩
         have m20 := hs 20 _ rfl
         simp only [mu3_20, m20, intOf]
         omega
       · skip
         have y13d : ¬ (0 < (k : Int)) := of_decide_eq_false y13
         intro aa ww nn dd hs H
         refine replays_w_r49x1 c pa pc ds b2 b5 b26 i b la lc da dc aa_ ac_ ys E b15 j ra rc sa sc c45_1 k y x hi hi2 hyi hI hbi hl64 hj z11d hk z12d HRx hx1 hx2 y13 y13d H aa nn (hs 5 _ rfl) (hs 19 _ rfl) (hs 20 _ rfl) ?_
         intro ab wv nn2 dd2 kp o249 H2
         refine wIn nn2 (dd2.trans dd) (Sat.cons (Sat.cons (Sat.cons (Sat.cons (Sat.cons (Sat.cons (Sat.cons (Sat.cons (Sat.cons (Sat.cons (Sat.cons (Sat.cons (Sat.cons (Sat.cons (Sat.cons (Sat.cons (sat_nil ab) ((kp 213 rfl).trans (hs 213 _ rfl))) ((kp 193 rfl).trans (hs 193 _ rfl))) ((kp 34 rfl).trans (hs 34 _ rfl))) ((kp 22 rfl).trans (hs 22 _ rfl))) ((kp 20 rfl).trans (hs 20 _ rfl))) ((kp 19 rfl).trans (hs 19 _ rfl))) ((kp 16 rfl).trans (hs 16 _ rfl))) ((kp 15 rfl).trans (hs 15 _ rfl))) ((kp 8 rfl).trans (hs 8 _ rfl))) ((kp 7 rfl).trans (hs 7 _ rfl))) ((kp 6 rfl).trans (hs 6 _ rfl))) ((kp 5 rfl).trans (hs 5 _ rfl))) ((kp 2 rfl).trans (hs 2 _ rfl))) ((kp 1 rfl).trans (hs 1 _ rfl))) ((kp 0 rfl).trans (hs 0 _ rfl))) o249) H2 ?_
         clear hs H kp H2 dd dd2 nn nn2 o249
         refine tN (wKK hK53 ?_)
         refine wCf rfl ?_
         refine wSk ?_
         refine bN (tN (wKK hK52 ?_))
         refine wReg ?_
         iterate 2 refine p_replays_w rfl ?_
         refine wI 215 rfl (IntWalk.i64_in _ (by omega)) ?_
         refine p_replays_w rfl ?_
         refine wN ?_
         refine tN ?_
         intro aa ww nn dd hs H
         refine ⟨⟨k + 1, (by omega), nn, dd, (sat_sub ⟨rfl, rfl, rfl, rfl, rfl, rfl, rfl, rfl, rfl, rfl, rfl, rfl, rfl, rfl, trivial⟩ hs), (Lib.hid (H.out.sub (by repeat (first | exact List.Sublist.refl _ | apply List.Sublist.cons₂ | apply List.Sublist.cons))))⟩, ?_⟩
         have m20 := hs 20 _ rfl
         simp only [mu3_20, m20, intOf]
         omega
     · skip
       have z12d : ¬ (k < ((liveV b).length)) := of_decide_eq_false z12
       refine wEx ?_
       refine tX (tX (bX (tN (wKK hK48 ?_))))
       refine wSeqK fun KK54 hK54 => ?_
       refine wReg ?_
       refine wLr rfl tybook_Book 1 rfl (bkL b.conf b.index b.room (.slice ra b.live.length rc) (.slice sa b.done.length sc) b.modes) rfl rfl ?_
       refine wLr rfl tybook_Book 4 rfl (bkL b.conf b.index b.room (.slice la b.live.length lc) (.slice da b.done.length dc) b.modes) rfl rfl ?_
       refine wQ (l := [.agg (bkA b.conf b.index b.room (.slice ra b.live.length rc) (.slice sa b.done.length sc) b.modes), .agg (bkA b.conf b.index b.room (.slice la b.live.length lc) (.slice da b.done.length dc) b.modes)]) Try.func19 rfl (by kernel_rfl) (.bool true) (fun wc H => sameT b ra rc sa sc la lc da dc wc (hp_held H (by (repeat (first | exact List.Mem.head _ | apply List.Mem.tail)))) (hp_held H (by (repeat (first | exact List.Mem.head _ | apply List.Mem.tail)))) (hp_held H (by (repeat (first | exact List.Mem.head _ | apply List.Mem.tail)))) (hp_held H (by (repeat (first | exact List.Mem.head _ | apply List.Mem.tail)))) hI) rfl rfl rfl rfl ?_
       refine p_replays_w rfl ?_
       refine wN ?_
       refine tN (wKK hK54 ?_)
       refine wRet ?_
       exact wR1 rfl rfl (fun ww H => ⟨rfl, H.out.off⟩)
end Go.Proofs.Ytnanihffljpdbaa.Bk
