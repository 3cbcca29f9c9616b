/- Who cancels first plays no part: the walk. -/
import Derived.Test.YtnanihffljpdbaaProg
import Derived.Below
import Derived.WalkKit
import Derived.KernelRfl
import Derived.RowKit3
import Derived.Deep.LoopGhost
import Derived.Deep.QuietTactic
import Derived.BigQuiet
import Derived.WideLaws
import Derived.Deep.DeepCutAuto
import Derived.Deep.CutBlock
import Derived.Lib.Hide
import Derived.Laws.BitsLemmas
import Derived.Laws.Bits64
import Derived.Laws.BitsAllLaws
import Derived.IntWalk
import Derived.Outline
import Derived.WalkSpells
import Derived.Test.YtnanihffljpdbaaMem
import Derived.Test.YtnanihffljpdbaaBp4
namespace Go.Proofs.Ytnanihffljpdbaa.Bk
open Go.RowKit Go.Proofs.Ytnanihffljpdbaa.Mem Go.Proofs.Ytnanihffljpdbaa.Reg Go.Proofs.Ytnanihffljpdbaa.Wk Go.Proofs.Ytnanihffljpdbaa.Si Go.Proofs.Ytnanihffljpdbaa.Ca Go.Proofs.Ytnanihffljpdbaa.Sc6
set_option linter.unusedVariables false
set_option linter.unusedSimpArgs false

theorem exec_rem {P : Program} {o : Oper} {act : Act} {w : World} {p q : Operand} {ty yt : TypeId} {kd : IntKind} {u v : Int} (ho : o.op = .binOp .rem ty p q yt) (hp : act.eval p = .int kd u) (hq : act.eval q = .int kd v) (hv : v ≠ 0) : (execOp act.eval o).run P w = .ok (.value (.int kd (u.tmod v))) w := by
  unfold execOp
  simp [ho, hp, hq, binOp_rem, Op.intDiv, hv, eqGuard]
theorem u64_nn (n : Int) : 0 ≤ IntKind.u64.wrap n := by
  have h1 : IntKind.u64.bits = 64 := rfl
  unfold IntKind.wrap
  simp [h1, IntKind.signed]
  omega
theorem two_is (n : Int) : ∃ m : Int, IntKind.i64.wrap ((IntKind.u64.wrap n).tmod 2) = m ∧ (m = 0 ∨ m = 1) := by
  have hP := u64_nn n
  have hm : 0 ≤ (IntKind.u64.wrap n).tmod 2 ∧ (IntKind.u64.wrap n).tmod 2 < 2 := ⟨Int.tmod_nonneg _ hP, Int.tmod_lt_of_pos _ (by omega)⟩
  exact ⟨_, IntWalk.i64_in _ (by omega), by omega⟩
def tab_apart_w : Wk.Tab := [(38, 6, 6)]
theorem p_apart_w {ops : Array Oper} {rest : List Oper} {o : Oper} {w0 : World} {Q : Exit → Act → World → Prop} {S : List Nat} {R : List Res} {K K' : Wk.Env} {N : Nat} (h : Wk.stp tab_apart_w N ops K o = some K') (n : Wk.Wk N S w0 K' R (wpList Try.prog ops Q rest)) : Wk.Wk N S w0 K R (wpList Try.prog ops Q (o :: rest)) := Wk.wP (T := tab_apart_w) (by kernel_rfl) h n
set_option maxHeartbeats 4000000 in
set_option maxRecDepth 20000 in
theorem apart_w_r8 (n2 : Int) (c : Cfg) (pc : Nat) (ds : List DeedV) (md : Int) (b5 : Nat) (b11 : Nat) (i : Nat) (b : BookV) (la : Option Addr) (lc : Nat) (da : Option Addr) (dc : Nat) (yx : Addr) (x : DeedV) (hn01 : n2 = 0 ∨ n2 = 1) (hn2 : IntKind.i64.wrap ((IntKind.u64.wrap md).tmod 2) = n2) (hi : i ≤ ds.length) (hi2 : i ≤ 60) (hix : b.index ≤ (i : Int)) (z2ld : i < ds.length) (z2rd : (i : Int) < 60) (HRx : Hid ((ds.map deedRow)[i]? = some [.int .i64 x.kind, .int .i64 x.x.id, .int .i64 x.x.kind, .int .i64 x.x.src, .int .i64 x.x.dst, .int .i64 x.x.car, .int .i64 x.x.state, .int .i64 x.x.owner, .int .i64 x.x.born, .int .i64 x.n, .int .i64 x.m, .int .i64 x.ch.index, .int .i64 x.ch.call.id, .int .i64 x.ch.call.kind, .int .i64 x.ch.call.src, .int .i64 x.ch.call.dst, .int .i64 x.ch.call.car, .int .i64 x.ch.call.state, .int .i64 x.ch.call.owner, .int .i64 x.ch.call.born, .int .i64 x.ch.car, .int .i64 x.ch.mode])) (hI : Hid (InvB b)) (hbi : 0 ≤ b.index ∧ b.index ≤ 1073741824) {wa wb : World} (H : Hid (Hp [] wa wb [rB b11 33 (bkL b.conf b.index b.room (.slice la b.live.length lc) (.slice da b.done.length dc) b.modes), rS la lc 9 (b.live.map rowOf), rS da dc 8 (b.done.map callRow), rB b5 24 (cL c), rS (some yx) pc 22 (ds.map deedRow)])) (ac0 : Act) (hz : ac0.tmps.size = 224) (so1 : ac0.eval (.tmp 1) = .slice (some yx) ds.length pc) (so11 : ac0.eval (.tmp 11) = .pointer (some ⟨b11, 0, none⟩)) (so12 : ac0.eval (.tmp 12) = .int .i64 i) {QR : Exit → Act → World → Prop} (hfin : ∀ (b13 : Nat) (b14 : Nat) (la8_16 : Option Addr) (lc8_16 : Nat) (da8_16 : Option Addr) (dc8_16 : Nat) (ac1 : Act) (wz : World), ac1.tmps.size = 224 → ac1.defers = ac0.defers → (∀ t, ([13, 14, 15, 66, 67, 68, 69, 70, 71, 72, 73, 74, 75, 76, 77, 78, 79, 80, 81, 82, 83, 84, 85, 86] : List Nat).contains t = false → ac1.eval (.tmp t) = ac0.eval (.tmp t)) → ac1.eval (.tmp 13) = .pointer (some ⟨b13, 0, none⟩) → ac1.eval (.tmp 15) = .int .i64 ((placeV b x.x x.n x.m).2.2) →  Hid (Hp [] wa wz [rS la8_16 lc8_16 9 (((placeV b x.x x.n x.m).1).live.map rowOf), rS da8_16 dc8_16 8 (((placeV b x.x x.n x.m).1).done.map callRow), rB b14 40 (chL ((placeV b x.x x.n x.m).2.1)), rB b13 33 (bkL (((placeV b x.x x.n x.m).1).conf) (((placeV b x.x x.n x.m).1).index) (((placeV b x.x x.n x.m).1).room) (.slice la8_16 (((placeV b x.x x.n x.m).1).live.length) lc8_16) (.slice da8_16 (((placeV b x.x x.n x.m).1).done.length) dc8_16) (((placeV b x.x x.n x.m).1).modes)), rB b11 33 (bkL b.conf b.index b.room (.slice la b.live.length lc) (.slice da b.done.length dc) b.modes), rS la lc 9 (b.live.map rowOf), rS da dc 8 (b.done.map callRow), rB b5 24 (cL c), rS (some yx) pc 22 (ds.map deedRow)]) → QR .normal ac1 wz) : (regAt Try.f4 8).wp Try.prog QR ac0 wb := by
  refine wp_region_st mixedP ⟨[0, 0, 0, 1, 2, 3, 0, 0, 1, 2, 3, 0, 0, 1, 2, 3, 4, 5, 6, 6, 6, 0, 0, 7, 8, 9], by kernel_rfl⟩ [[], [], [], [1, 2], [1, 2, 3], [1, 2, 3, 4], [], [], [6, 7], [6, 7, 8], [6, 7, 8, 9], [], [], [11, 12], [11, 12, 13], [11, 12, 13, 14], [0, 1, 2, 3, 4, 5, 6, 7, 8, 9, 10, 11, 12, 13, 14, 15], [0, 1, 2, 3, 4, 5, 6, 7, 8, 9, 10, 11, 12, 13, 14, 15, 16], [0, 1, 2, 3, 4, 5, 6, 7, 8, 9, 10, 11, 12, 13, 14, 15, 16, 17], [0, 1, 2, 3, 4, 5, 6, 7, 8, 9, 10, 11, 12, 13, 14, 15, 16, 17], [0, 1, 2, 3, 4, 5, 6, 7, 8, 9, 10, 11, 12, 13, 14, 15, 16, 17], [], [], [0, 1, 2, 3, 4, 5, 6, 7, 8, 9, 10, 11, 12, 13, 14, 15, 16, 17, 18, 21, 22], [0, 1, 2, 3, 4, 5, 6, 7, 8, 9, 10, 11, 12, 13, 14, 15, 16, 17, 18, 19, 21, 22, 23], [0, 1, 2, 3, 4, 5, 6, 7, 8, 9, 10, 11, 12, 13, 14, 15, 16, 17, 18, 19, 20, 21, 22, 23, 24]] (by kernel_rfl) (by kernel_rfl) 224 hz (by kernel_rfl) (fun (xx : Nat × Nat × Option Addr × Nat × Option Addr × Nat) jx => match xx with | (b13, b14, la8_16, lc8_16, da8_16, dc8_16) => nth [.agg (bkA b.conf b.index b.room (.slice la b.live.length lc) (.slice da b.done.length dc) b.modes), .slice (some yx) ds.length pc, .int .i64 i, .pointer (some (yx.add (i * 22))), .pointer (some ⟨(yx.add (i * 22)).block, (yx.add (i * 22)).off + 1, none⟩), .agg (xA x.x), .slice (some yx) ds.length pc, .int .i64 i, .pointer (some (yx.add (i * 22))), .pointer (some ⟨(yx.add (i * 22)).block, (yx.add (i * 22)).off + 9, none⟩), .int .i64 x.n, .slice (some yx) ds.length pc, .int .i64 i, .pointer (some (yx.add (i * 22))), .pointer (some ⟨(yx.add (i * 22)).block, (yx.add (i * 22)).off + 10, none⟩), .int .i64 x.m, .tuple #[.agg (bkA (((placeV b x.x x.n x.m).1).conf) (((placeV b x.x x.n x.m).1).index) (((placeV b x.x x.n x.m).1).room) (.slice la8_16 (((placeV b x.x x.n x.m).1).live.length) lc8_16) (.slice da8_16 (((placeV b x.x x.n x.m).1).done.length) dc8_16) (((placeV b x.x x.n x.m).1).modes)), .agg (chA ((placeV b x.x x.n x.m).2.1)), .int .i64 ((placeV b x.x x.n x.m).2.2)], .tuple #[.agg (bkA (((placeV b x.x x.n x.m).1).conf) (((placeV b x.x x.n x.m).1).index) (((placeV b x.x x.n x.m).1).room) (.slice la8_16 (((placeV b x.x x.n x.m).1).live.length) lc8_16) (.slice da8_16 (((placeV b x.x x.n x.m).1).done.length) dc8_16) (((placeV b x.x x.n x.m).1).modes)), .agg (chA ((placeV b x.x x.n x.m).2.1)), .int .i64 ((placeV b x.x x.n x.m).2.2)], .agg (bkA (((placeV b x.x x.n x.m).1).conf) (((placeV b x.x x.n x.m).1).index) (((placeV b x.x x.n x.m).1).room) (.slice la8_16 (((placeV b x.x x.n x.m).1).live.length) lc8_16) (.slice da8_16 (((placeV b x.x x.n x.m).1).done.length) dc8_16) (((placeV b x.x x.n x.m).1).modes)), .agg (chA ((placeV b x.x x.n x.m).2.1)), .int .i64 ((placeV b x.x x.n x.m).2.2), .pointer (some ⟨b13, 0, none⟩), .pointer (some ⟨b14, 0, none⟩), undef, undef, .int .i64 ((placeV b x.x x.n x.m).2.2)] jx) (fun (LL : Nat → Bool) (xx : Nat × Nat × Option Addr × Nat × Option Addr × Nat) ww => match xx with | (b13, b14, la8_16, lc8_16, da8_16, dc8_16) => Hp [] wa ww (bif LL 21 then (bif LL 22 then (bif LL 16 then (bif LL 23 then (bif LL 24 then [rS la8_16 lc8_16 9 (((placeV b x.x x.n x.m).1).live.map rowOf), rS da8_16 dc8_16 8 (((placeV b x.x x.n x.m).1).done.map callRow), rB b14 40 (chL ((placeV b x.x x.n x.m).2.1)), rB b13 33 (bkL (((placeV b x.x x.n x.m).1).conf) (((placeV b x.x x.n x.m).1).index) (((placeV b x.x x.n x.m).1).room) (.slice la8_16 (((placeV b x.x x.n x.m).1).live.length) lc8_16) (.slice da8_16 (((placeV b x.x x.n x.m).1).done.length) dc8_16) (((placeV b x.x x.n x.m).1).modes)), rB b11 33 (bkL b.conf b.index b.room (.slice la b.live.length lc) (.slice da b.done.length dc) b.modes), rS la lc 9 (b.live.map rowOf), rS da dc 8 (b.done.map callRow), rB b5 24 (cL c), rS (some yx) pc 22 (ds.map deedRow)] else [rS la8_16 lc8_16 9 (((placeV b x.x x.n x.m).1).live.map rowOf), rS da8_16 dc8_16 8 (((placeV b x.x x.n x.m).1).done.map callRow), rB b14 40 (chL zeroCh), rB b13 33 (bkL (((placeV b x.x x.n x.m).1).conf) (((placeV b x.x x.n x.m).1).index) (((placeV b x.x x.n x.m).1).room) (.slice la8_16 (((placeV b x.x x.n x.m).1).live.length) lc8_16) (.slice da8_16 (((placeV b x.x x.n x.m).1).done.length) dc8_16) (((placeV b x.x x.n x.m).1).modes)), rB b11 33 (bkL b.conf b.index b.room (.slice la b.live.length lc) (.slice da b.done.length dc) b.modes), rS la lc 9 (b.live.map rowOf), rS da dc 8 (b.done.map callRow), rB b5 24 (cL c), rS (some yx) pc 22 (ds.map deedRow)]) else [rS la8_16 lc8_16 9 (((placeV b x.x x.n x.m).1).live.map rowOf), rS da8_16 dc8_16 8 (((placeV b x.x x.n x.m).1).done.map callRow), rB b14 40 (chL zeroCh), rB b13 33 (bkL zeroF 0 0 (.slice none 0 0) (.slice none 0 0) ([0, 0, 0, 0])), rB b11 33 (bkL b.conf b.index b.room (.slice la b.live.length lc) (.slice da b.done.length dc) b.modes), rS la lc 9 (b.live.map rowOf), rS da dc 8 (b.done.map callRow), rB b5 24 (cL c), rS (some yx) pc 22 (ds.map deedRow)]) else [rB b14 40 (chL zeroCh), rB b13 33 (bkL zeroF 0 0 (.slice none 0 0) (.slice none 0 0) ([0, 0, 0, 0])), rB b11 33 (bkL b.conf b.index b.room (.slice la b.live.length lc) (.slice da b.done.length dc) b.modes), rS la lc 9 (b.live.map rowOf), rS da dc 8 (b.done.map callRow), rB b5 24 (cL c), rS (some yx) pc 22 (ds.map deedRow)]) else (bif LL 16 then [rS la8_16 lc8_16 9 (((placeV b x.x x.n x.m).1).live.map rowOf), rS da8_16 dc8_16 8 (((placeV b x.x x.n x.m).1).done.map callRow), rB b13 33 (bkL zeroF 0 0 (.slice none 0 0) (.slice none 0 0) ([0, 0, 0, 0])), rB b11 33 (bkL b.conf b.index b.room (.slice la b.live.length lc) (.slice da b.done.length dc) b.modes), rS la lc 9 (b.live.map rowOf), rS da dc 8 (b.done.map callRow), rB b5 24 (cL c), rS (some yx) pc 22 (ds.map deedRow)] else [rB b13 33 (bkL zeroF 0 0 (.slice none 0 0) (.slice none 0 0) ([0, 0, 0, 0])), rB b11 33 (bkL b.conf b.index b.room (.slice la b.live.length lc) (.slice da b.done.length dc) b.modes), rS la lc 9 (b.live.map rowOf), rS da dc 8 (b.done.map callRow), rB b5 24 (cL c), rS (some yx) pc 22 (ds.map deedRow)])) else (bif LL 22 then (bif LL 16 then [rS la8_16 lc8_16 9 (((placeV b x.x x.n x.m).1).live.map rowOf), rS da8_16 dc8_16 8 (((placeV b x.x x.n x.m).1).done.map callRow), rB b14 40 (chL zeroCh), rB b11 33 (bkL b.conf b.index b.room (.slice la b.live.length lc) (.slice da b.done.length dc) b.modes), rS la lc 9 (b.live.map rowOf), rS da dc 8 (b.done.map callRow), rB b5 24 (cL c), rS (some yx) pc 22 (ds.map deedRow)] else [rB b14 40 (chL zeroCh), rB b11 33 (bkL b.conf b.index b.room (.slice la b.live.length lc) (.slice da b.done.length dc) b.modes), rS la lc 9 (b.live.map rowOf), rS da dc 8 (b.done.map callRow), rB b5 24 (cL c), rS (some yx) pc 22 (ds.map deedRow)]) else (bif LL 16 then [rS la8_16 lc8_16 9 (((placeV b x.x x.n x.m).1).live.map rowOf), rS da8_16 dc8_16 8 (((placeV b x.x x.n x.m).1).done.map callRow), rB b11 33 (bkL b.conf b.index b.room (.slice la b.live.length lc) (.slice da b.done.length dc) b.modes), rS la lc 9 (b.live.map rowOf), rS da dc 8 (b.done.map callRow), rB b5 24 (cL c), rS (some yx) pc 22 (ds.map deedRow)] else [rB b11 33 (bkL b.conf b.index b.room (.slice la b.live.length lc) (.slice da b.done.length dc) b.modes), rS la lc 9 (b.live.map rowOf), rS da dc 8 (b.done.map callRow), rB b5 24 (cL c), rS (some yx) pc 22 (ds.map deedRow)])))) (default, default, default, default, default, default) H.out.drew ?_ (steps_al ?_) ?_ ?_
  · intro L1 L2 xx ww hL sg
    have lh21 := hL 21 (by decide)
    have lh22 := hL 22 (by decide)
    have lh16 := hL 16 (by decide)
    have lh23 := hL 23 (by decide)
    have lh24 := hL 24 (by decide)
    simp only [lh21, lh22, lh16, lh23, lh24] at sg
    exact sg
  · refine al_cons ?_ (al_cons ?_ (al_cons ?_ (al_cons ?_ (al_cons ?_ (al_cons ?_ (al_cons ?_ (al_cons ?_ (al_cons ?_ (al_cons ?_ (al_cons ?_ (al_cons ?_ (al_cons ?_ (al_cons ?_ (al_cons ?_ (al_cons ?_ (al_cons ?_ (al_cons ?_ (al_cons ?_ (al_cons ?_ (al_cons ?_ (al_cons ?_ (al_cons ?_ (al_cons ?_ (al_cons ?_ (al_cons ?_ (al_nil))))))))))))))))))))))))))
    · intro LL xx ac wc sg hst hwant QQ hgo
      obtain ⟨b13, b14, la8_16, lc8_16, da8_16, dc8_16⟩ := xx
      rcases Bool.eq_false_or_eq_true (LL 21) with lh21 | lh21
      · skip
        rcases Bool.eq_false_or_eq_true (LL 22) with lh22 | lh22
        · skip
          have H := Lib.hid hst
          simp only [lh21, lh22, sg.des 16 rfl, sg.des 23 rfl, sg.des 24 rfl, cond_true, cond_false] at H
          refine hpA_load tybook_Book H rfl ((sg.free 11 (by kernel_rfl)).trans so11) hwant (by (repeat (first | exact List.Mem.head _ | apply List.Mem.tail))) (by rfl) rfl ?_
          exact hgo _ (b13, b14, la8_16, lc8_16, da8_16, dc8_16) _ (fun _ _ => rfl) rfl hst
        · skip
          have H := Lib.hid hst
          simp only [lh21, lh22, sg.des 16 rfl, sg.des 23 rfl, sg.des 24 rfl, cond_true, cond_false] at H
          refine hpA_load tybook_Book H rfl ((sg.free 11 (by kernel_rfl)).trans so11) hwant (by (repeat (first | exact List.Mem.head _ | apply List.Mem.tail))) (by rfl) rfl ?_
          exact hgo _ (b13, b14, la8_16, lc8_16, da8_16, dc8_16) _ (fun _ _ => rfl) rfl hst
      · skip
        rcases Bool.eq_false_or_eq_true (LL 22) with lh22 | lh22
        · skip
          have H := Lib.hid hst
          simp only [lh21, lh22, sg.des 16 rfl, sg.des 23 rfl, sg.des 24 rfl, cond_true, cond_false] at H
          refine hpA_load tybook_Book H rfl ((sg.free 11 (by kernel_rfl)).trans so11) hwant (by (repeat (first | exact List.Mem.head _ | apply List.Mem.tail))) (by rfl) rfl ?_
          exact hgo _ (b13, b14, la8_16, lc8_16, da8_16, dc8_16) _ (fun _ _ => rfl) rfl hst
        · skip
          have H := Lib.hid hst
          simp only [lh21, lh22, sg.des 16 rfl, sg.des 23 rfl, sg.des 24 rfl, cond_true, cond_false] at H
          refine hpA_load tybook_Book H rfl ((sg.free 11 (by kernel_rfl)).trans so11) hwant (by (repeat (first | exact List.Mem.head _ | apply List.Mem.tail))) (by rfl) rfl ?_
          exact hgo _ (b13, b14, la8_16, lc8_16, da8_16, dc8_16) _ (fun _ _ => rfl) rfl hst
    · intro LL xx ac wc sg hst hwant QQ hgo
      obtain ⟨b13, b14, la8_16, lc8_16, da8_16, dc8_16⟩ := xx
      exact op_val hwant hgo hst _ (exec_move rfl ((sg.free 1 (by kernel_rfl)).trans so1)) rfl
    · intro LL xx ac wc sg hst hwant QQ hgo
      obtain ⟨b13, b14, la8_16, lc8_16, da8_16, dc8_16⟩ := xx
      exact op_val hwant hgo hst _ (exec_move rfl ((sg.free 12 (by kernel_rfl)).trans so12)) rfl
    · intro LL xx ac wc sg hst hwant QQ hgo
      obtain ⟨b13, b14, la8_16, lc8_16, da8_16, dc8_16⟩ := xx
      have se68 : ac.eval (.tmp 68) = _ := (sg.slot 1 (sg.anc 1 rfl))
      have sg68 := gt_of se68
      have se69 : ac.eval (.tmp 69) = _ := (sg.slot 2 (sg.anc 2 rfl))
      have sg69 := gt_of se69
      (try simp only [nth] at se68 sg68 se69 sg69)
      exact op_val hwant hgo hst _ (by simp only [execOp, nth]; go_simp <;> omega) rfl
    · intro LL xx ac wc sg hst hwant QQ hgo
      obtain ⟨b13, b14, la8_16, lc8_16, da8_16, dc8_16⟩ := xx
      have se70 : ac.eval (.tmp 70) = _ := (sg.slot 3 (sg.anc 3 rfl))
      have sg70 := gt_of se70
      (try simp only [nth] at se70 sg70)
      exact op_val hwant hgo hst _ (by simp only [execOp, nth]; go_simp <;> omega) rfl
    · intro LL xx ac wc sg hst hwant QQ hgo
      obtain ⟨b13, b14, la8_16, lc8_16, da8_16, dc8_16⟩ := xx
      rcases Bool.eq_false_or_eq_true (LL 21) with lh21 | lh21
      · skip
        rcases Bool.eq_false_or_eq_true (LL 22) with lh22 | lh22
        · skip
          have H := Lib.hid hst
          simp only [lh21, lh22, sg.des 16 rfl, sg.des 23 rfl, sg.des 24 rfl, cond_true, cond_false] at H
          refine hpS_loadk 1 tyapi_Call H (y := yx) rfl (sg.slot 4 (sg.anc 4 rfl)) hwant (by (repeat (first | exact List.Mem.head _ | apply List.Mem.tail))) HRx.out (by rfl) rfl (by simp [Addr.add]) ?_
          exact hgo _ (b13, b14, la8_16, lc8_16, da8_16, dc8_16) _ (fun _ _ => rfl) rfl hst
        · skip
          have H := Lib.hid hst
          simp only [lh21, lh22, sg.des 16 rfl, sg.des 23 rfl, sg.des 24 rfl, cond_true, cond_false] at H
          refine hpS_loadk 1 tyapi_Call H (y := yx) rfl (sg.slot 4 (sg.anc 4 rfl)) hwant (by (repeat (first | exact List.Mem.head _ | apply List.Mem.tail))) HRx.out (by rfl) rfl (by simp [Addr.add]) ?_
          exact hgo _ (b13, b14, la8_16, lc8_16, da8_16, dc8_16) _ (fun _ _ => rfl) rfl hst
      · skip
        rcases Bool.eq_false_or_eq_true (LL 22) with lh22 | lh22
        · skip
          have H := Lib.hid hst
          simp only [lh21, lh22, sg.des 16 rfl, sg.des 23 rfl, sg.des 24 rfl, cond_true, cond_false] at H
          refine hpS_loadk 1 tyapi_Call H (y := yx) rfl (sg.slot 4 (sg.anc 4 rfl)) hwant (by (repeat (first | exact List.Mem.head _ | apply List.Mem.tail))) HRx.out (by rfl) rfl (by simp [Addr.add]) ?_
          exact hgo _ (b13, b14, la8_16, lc8_16, da8_16, dc8_16) _ (fun _ _ => rfl) rfl hst
        · skip
          have H := Lib.hid hst
          simp only [lh21, lh22, sg.des 16 rfl, sg.des 23 rfl, sg.des 24 rfl, cond_true, cond_false] at H
          refine hpS_loadk 1 tyapi_Call H (y := yx) rfl (sg.slot 4 (sg.anc 4 rfl)) hwant (by (repeat (first | exact List.Mem.head _ | apply List.Mem.tail))) HRx.out (by rfl) rfl (by simp [Addr.add]) ?_
          exact hgo _ (b13, b14, la8_16, lc8_16, da8_16, dc8_16) _ (fun _ _ => rfl) rfl hst
    · intro LL xx ac wc sg hst hwant QQ hgo
      obtain ⟨b13, b14, la8_16, lc8_16, da8_16, dc8_16⟩ := xx
      exact op_val hwant hgo hst _ (exec_move rfl ((sg.free 1 (by kernel_rfl)).trans so1)) rfl
    · intro LL xx ac wc sg hst hwant QQ hgo
      obtain ⟨b13, b14, la8_16, lc8_16, da8_16, dc8_16⟩ := xx
      exact op_val hwant hgo hst _ (exec_move rfl ((sg.free 12 (by kernel_rfl)).trans so12)) rfl
    · intro LL xx ac wc sg hst hwant QQ hgo
      obtain ⟨b13, b14, la8_16, lc8_16, da8_16, dc8_16⟩ := xx
      have se73 : ac.eval (.tmp 73) = _ := (sg.slot 6 (sg.anc 6 rfl))
      have sg73 := gt_of se73
      have se74 : ac.eval (.tmp 74) = _ := (sg.slot 7 (sg.anc 7 rfl))
      have sg74 := gt_of se74
      (try simp only [nth] at se73 sg73 se74 sg74)
      exact op_val hwant hgo hst _ (by simp only [execOp, nth]; go_simp <;> omega) rfl
    · intro LL xx ac wc sg hst hwant QQ hgo
      obtain ⟨b13, b14, la8_16, lc8_16, da8_16, dc8_16⟩ := xx
      have se75 : ac.eval (.tmp 75) = _ := (sg.slot 8 (sg.anc 8 rfl))
      have sg75 := gt_of se75
      (try simp only [nth] at se75 sg75)
      exact op_val hwant hgo hst _ (by simp only [execOp, nth]; go_simp <;> omega) rfl
    · intro LL xx ac wc sg hst hwant QQ hgo
      obtain ⟨b13, b14, la8_16, lc8_16, da8_16, dc8_16⟩ := xx
      rcases Bool.eq_false_or_eq_true (LL 21) with lh21 | lh21
      · skip
        rcases Bool.eq_false_or_eq_true (LL 22) with lh22 | lh22
        · skip
          have H := Lib.hid hst
          simp only [lh21, lh22, sg.des 16 rfl, sg.des 23 rfl, sg.des 24 rfl, cond_true, cond_false] at H
          refine hpS_load1 9 tyint H (y := yx) rfl (sg.slot 9 (sg.anc 9 rfl)) hwant (by (repeat (first | exact List.Mem.head _ | apply List.Mem.tail))) HRx.out (by rfl) (by simp [Addr.add]) ?_
          exact hgo _ (b13, b14, la8_16, lc8_16, da8_16, dc8_16) _ (fun _ _ => rfl) rfl hst
        · skip
          have H := Lib.hid hst
          simp only [lh21, lh22, sg.des 16 rfl, sg.des 23 rfl, sg.des 24 rfl, cond_true, cond_false] at H
          refine hpS_load1 9 tyint H (y := yx) rfl (sg.slot 9 (sg.anc 9 rfl)) hwant (by (repeat (first | exact List.Mem.head _ | apply List.Mem.tail))) HRx.out (by rfl) (by simp [Addr.add]) ?_
          exact hgo _ (b13, b14, la8_16, lc8_16, da8_16, dc8_16) _ (fun _ _ => rfl) rfl hst
      · skip
        rcases Bool.eq_false_or_eq_true (LL 22) with lh22 | lh22
        · skip
          have H := Lib.hid hst
          simp only [lh21, lh22, sg.des 16 rfl, sg.des 23 rfl, sg.des 24 rfl, cond_true, cond_false] at H
          refine hpS_load1 9 tyint H (y := yx) rfl (sg.slot 9 (sg.anc 9 rfl)) hwant (by (repeat (first | exact List.Mem.head _ | apply List.Mem.tail))) HRx.out (by rfl) (by simp [Addr.add]) ?_
          exact hgo _ (b13, b14, la8_16, lc8_16, da8_16, dc8_16) _ (fun _ _ => rfl) rfl hst
        · skip
          have H := Lib.hid hst
          simp only [lh21, lh22, sg.des 16 rfl, sg.des 23 rfl, sg.des 24 rfl, cond_true, cond_false] at H
          refine hpS_load1 9 tyint H (y := yx) rfl (sg.slot 9 (sg.anc 9 rfl)) hwant (by (repeat (first | exact List.Mem.head _ | apply List.Mem.tail))) HRx.out (by rfl) (by simp [Addr.add]) ?_
          exact hgo _ (b13, b14, la8_16, lc8_16, da8_16, dc8_16) _ (fun _ _ => rfl) rfl hst
    · intro LL xx ac wc sg hst hwant QQ hgo
      obtain ⟨b13, b14, la8_16, lc8_16, da8_16, dc8_16⟩ := xx
      exact op_val hwant hgo hst _ (exec_move rfl ((sg.free 1 (by kernel_rfl)).trans so1)) rfl
    · intro LL xx ac wc sg hst hwant QQ hgo
      obtain ⟨b13, b14, la8_16, lc8_16, da8_16, dc8_16⟩ := xx
      exact op_val hwant hgo hst _ (exec_move rfl ((sg.free 12 (by kernel_rfl)).trans so12)) rfl
    · intro LL xx ac wc sg hst hwant QQ hgo
      obtain ⟨b13, b14, la8_16, lc8_16, da8_16, dc8_16⟩ := xx
      have se78 : ac.eval (.tmp 78) = _ := (sg.slot 11 (sg.anc 11 rfl))
      have sg78 := gt_of se78
      have se79 : ac.eval (.tmp 79) = _ := (sg.slot 12 (sg.anc 12 rfl))
      have sg79 := gt_of se79
      (try simp only [nth] at se78 sg78 se79 sg79)
      exact op_val hwant hgo hst _ (by simp only [execOp, nth]; go_simp <;> omega) rfl
    · intro LL xx ac wc sg hst hwant QQ hgo
      obtain ⟨b13, b14, la8_16, lc8_16, da8_16, dc8_16⟩ := xx
      have se80 : ac.eval (.tmp 80) = _ := (sg.slot 13 (sg.anc 13 rfl))
      have sg80 := gt_of se80
      (try simp only [nth] at se80 sg80)
      exact op_val hwant hgo hst _ (by simp only [execOp, nth]; go_simp <;> omega) rfl
    · intro LL xx ac wc sg hst hwant QQ hgo
      obtain ⟨b13, b14, la8_16, lc8_16, da8_16, dc8_16⟩ := xx
      rcases Bool.eq_false_or_eq_true (LL 21) with lh21 | lh21
      · skip
        rcases Bool.eq_false_or_eq_true (LL 22) with lh22 | lh22
        · skip
          have H := Lib.hid hst
          simp only [lh21, lh22, sg.des 16 rfl, sg.des 23 rfl, sg.des 24 rfl, cond_true, cond_false] at H
          refine hpS_load1 10 tyint H (y := yx) rfl (sg.slot 14 (sg.anc 14 rfl)) hwant (by (repeat (first | exact List.Mem.head _ | apply List.Mem.tail))) HRx.out (by rfl) (by simp [Addr.add]) ?_
          exact hgo _ (b13, b14, la8_16, lc8_16, da8_16, dc8_16) _ (fun _ _ => rfl) rfl hst
        · skip
          have H := Lib.hid hst
          simp only [lh21, lh22, sg.des 16 rfl, sg.des 23 rfl, sg.des 24 rfl, cond_true, cond_false] at H
          refine hpS_load1 10 tyint H (y := yx) rfl (sg.slot 14 (sg.anc 14 rfl)) hwant (by (repeat (first | exact List.Mem.head _ | apply List.Mem.tail))) HRx.out (by rfl) (by simp [Addr.add]) ?_
          exact hgo _ (b13, b14, la8_16, lc8_16, da8_16, dc8_16) _ (fun _ _ => rfl) rfl hst
      · skip
        rcases Bool.eq_false_or_eq_true (LL 22) with lh22 | lh22
        · skip
          have H := Lib.hid hst
          simp only [lh21, lh22, sg.des 16 rfl, sg.des 23 rfl, sg.des 24 rfl, cond_true, cond_false] at H
          refine hpS_load1 10 tyint H (y := yx) rfl (sg.slot 14 (sg.anc 14 rfl)) hwant (by (repeat (first | exact List.Mem.head _ | apply List.Mem.tail))) HRx.out (by rfl) (by simp [Addr.add]) ?_
          exact hgo _ (b13, b14, la8_16, lc8_16, da8_16, dc8_16) _ (fun _ _ => rfl) rfl hst
        · skip
          have H := Lib.hid hst
          simp only [lh21, lh22, sg.des 16 rfl, sg.des 23 rfl, sg.des 24 rfl, cond_true, cond_false] at H
          refine hpS_load1 10 tyint H (y := yx) rfl (sg.slot 14 (sg.anc 14 rfl)) hwant (by (repeat (first | exact List.Mem.head _ | apply List.Mem.tail))) HRx.out (by rfl) (by simp [Addr.add]) ?_
          exact hgo _ (b13, b14, la8_16, lc8_16, da8_16, dc8_16) _ (fun _ _ => rfl) rfl hst
    · intro LL xx ac wc sg hst hwant QQ hgo
      obtain ⟨b13, b14, _, _, _, _⟩ := xx
      have se67 : ac.eval (.tmp 67) = _ := (sg.slot 0 (sg.anc 0 rfl))
      have sg67 := gt_of se67
      have se72 : ac.eval (.tmp 72) = _ := (sg.slot 5 (sg.anc 5 rfl))
      have sg72 := gt_of se72
      have se77 : ac.eval (.tmp 77) = _ := (sg.slot 10 (sg.anc 10 rfl))
      have sg77 := gt_of se77
      have se82 : ac.eval (.tmp 82) = _ := (sg.slot 15 (sg.anc 15 rfl))
      have sg82 := gt_of se82
      (try simp only [nth] at se67 sg67 se72 sg72 se77 sg77 se82 sg82)
      rcases Bool.eq_false_or_eq_true (LL 21) with lh21 | lh21
      · skip
        rcases Bool.eq_false_or_eq_true (LL 22) with lh22 | lh22
        · skip
          have H := Lib.hid hst
          simp only [lh21, lh22, sg.self, sg.des 23 rfl, sg.des 24 rfl, cond_true, cond_false] at H
          refine op_call hwant hgo 13 #[.agg (bkA b.conf b.index b.room (.slice la b.live.length lc) (.slice da b.done.length dc) b.modes), .agg (xA x.x), .int .i64 x.n, .int .i64 x.m] (by simp only [execOp]; go_simp) (placeC b la lc da dc x.x x.n x.m wc (hp_held H (by (repeat (first | exact List.Mem.head _ | apply List.Mem.tail)))) (hp_held H (by (repeat (first | exact List.Mem.head _ | apply List.Mem.tail)))) (Lib.hid hI.out.ok) ) ?_
          rintro er wd ⟨la8_16, lc8_16, da8_16, dc8_16, rfl, hg⟩
          have H2 := hp_gotB H hg.2.2.2.2 hg.1 hg.2.1 (by decide) (by decide) hg.2.2.1 hg.2.2.2.1 (List.forall_mem_cons.2 ⟨(by (repeat (first | exact List.Mem.head _ | apply List.Mem.tail))), List.forall_mem_cons.2 ⟨(by (repeat (first | exact List.Mem.head _ | apply List.Mem.tail))), fun _ h => by cases h⟩⟩)
          exact ⟨_, (b13, b14, la8_16, lc8_16, da8_16, dc8_16), rfl, (sg.agree (x' := (b13, b14, la8_16, lc8_16, da8_16, dc8_16)) (n := 26) rfl (by (iterate 26 (refine ix_cons (by first | exact fun _ => rfl | exact no sg.self | exact no (sg.des _ rfl)) ?_)); exact ix_nil)), rfl, (by simp only [(show upd LL 16 21 = LL 21 from rfl), lh21, (show upd LL 16 22 = LL 22 from rfl), lh22, (show upd LL 16 16 = true from rfl), (show upd LL 16 23 = LL 23 from rfl), sg.des 23 rfl, (show upd LL 16 24 = LL 24 from rfl), sg.des 24 rfl, cond_true, cond_false]; exact H2.out)⟩
        · skip
          have H := Lib.hid hst
          simp only [lh21, lh22, sg.self, sg.des 23 rfl, sg.des 24 rfl, cond_true, cond_false] at H
          refine op_call hwant hgo 13 #[.agg (bkA b.conf b.index b.room (.slice la b.live.length lc) (.slice da b.done.length dc) b.modes), .agg (xA x.x), .int .i64 x.n, .int .i64 x.m] (by simp only [execOp]; go_simp) (placeC b la lc da dc x.x x.n x.m wc (hp_held H (by (repeat (first | exact List.Mem.head _ | apply List.Mem.tail)))) (hp_held H (by (repeat (first | exact List.Mem.head _ | apply List.Mem.tail)))) (Lib.hid hI.out.ok) ) ?_
          rintro er wd ⟨la8_16, lc8_16, da8_16, dc8_16, rfl, hg⟩
          have H2 := hp_gotB H hg.2.2.2.2 hg.1 hg.2.1 (by decide) (by decide) hg.2.2.1 hg.2.2.2.1 (List.forall_mem_cons.2 ⟨(by (repeat (first | exact List.Mem.head _ | apply List.Mem.tail))), List.forall_mem_cons.2 ⟨(by (repeat (first | exact List.Mem.head _ | apply List.Mem.tail))), fun _ h => by cases h⟩⟩)
          exact ⟨_, (b13, b14, la8_16, lc8_16, da8_16, dc8_16), rfl, (sg.agree (x' := (b13, b14, la8_16, lc8_16, da8_16, dc8_16)) (n := 26) rfl (by (iterate 26 (refine ix_cons (by first | exact fun _ => rfl | exact no sg.self | exact no (sg.des _ rfl)) ?_)); exact ix_nil)), rfl, (by simp only [(show upd LL 16 21 = LL 21 from rfl), lh21, (show upd LL 16 22 = LL 22 from rfl), lh22, (show upd LL 16 16 = true from rfl), (show upd LL 16 23 = LL 23 from rfl), sg.des 23 rfl, (show upd LL 16 24 = LL 24 from rfl), sg.des 24 rfl, cond_true, cond_false]; exact H2.out)⟩
      · skip
        rcases Bool.eq_false_or_eq_true (LL 22) with lh22 | lh22
        · skip
          have H := Lib.hid hst
          simp only [lh21, lh22, sg.self, sg.des 23 rfl, sg.des 24 rfl, cond_true, cond_false] at H
          refine op_call hwant hgo 13 #[.agg (bkA b.conf b.index b.room (.slice la b.live.length lc) (.slice da b.done.length dc) b.modes), .agg (xA x.x), .int .i64 x.n, .int .i64 x.m] (by simp only [execOp]; go_simp) (placeC b la lc da dc x.x x.n x.m wc (hp_held H (by (repeat (first | exact List.Mem.head _ | apply List.Mem.tail)))) (hp_held H (by (repeat (first | exact List.Mem.head _ | apply List.Mem.tail)))) (Lib.hid hI.out.ok) ) ?_
          rintro er wd ⟨la8_16, lc8_16, da8_16, dc8_16, rfl, hg⟩
          have H2 := hp_gotB H hg.2.2.2.2 hg.1 hg.2.1 (by decide) (by decide) hg.2.2.1 hg.2.2.2.1 (List.forall_mem_cons.2 ⟨(by (repeat (first | exact List.Mem.head _ | apply List.Mem.tail))), List.forall_mem_cons.2 ⟨(by (repeat (first | exact List.Mem.head _ | apply List.Mem.tail))), fun _ h => by cases h⟩⟩)
          exact ⟨_, (b13, b14, la8_16, lc8_16, da8_16, dc8_16), rfl, (sg.agree (x' := (b13, b14, la8_16, lc8_16, da8_16, dc8_16)) (n := 26) rfl (by (iterate 26 (refine ix_cons (by first | exact fun _ => rfl | exact no sg.self | exact no (sg.des _ rfl)) ?_)); exact ix_nil)), rfl, (by simp only [(show upd LL 16 21 = LL 21 from rfl), lh21, (show upd LL 16 22 = LL 22 from rfl), lh22, (show upd LL 16 16 = true from rfl), (show upd LL 16 23 = LL 23 from rfl), sg.des 23 rfl, (show upd LL 16 24 = LL 24 from rfl), sg.des 24 rfl, cond_true, cond_false]; exact H2.out)⟩
        · skip
          have H := Lib.hid hst
          simp only [lh21, lh22, sg.self, sg.des 23 rfl, sg.des 24 rfl, cond_true, cond_false] at H
          refine op_call hwant hgo 13 #[.agg (bkA b.conf b.index b.room (.slice la b.live.length lc) (.slice da b.done.length dc) b.modes), .agg (xA x.x), .int .i64 x.n, .int .i64 x.m] (by simp only [execOp]; go_simp) (placeC b la lc da dc x.x x.n x.m wc (hp_held H (by (repeat (first | exact List.Mem.head _ | apply List.Mem.tail)))) (hp_held H (by (repeat (first | exact List.Mem.head _ | apply List.Mem.tail)))) (Lib.hid hI.out.ok) ) ?_
          rintro er wd ⟨la8_16, lc8_16, da8_16, dc8_16, rfl, hg⟩
          have H2 := hp_gotB H hg.2.2.2.2 hg.1 hg.2.1 (by decide) (by decide) hg.2.2.1 hg.2.2.2.1 (List.forall_mem_cons.2 ⟨(by (repeat (first | exact List.Mem.head _ | apply List.Mem.tail))), List.forall_mem_cons.2 ⟨(by (repeat (first | exact List.Mem.head _ | apply List.Mem.tail))), fun _ h => by cases h⟩⟩)
          exact ⟨_, (b13, b14, la8_16, lc8_16, da8_16, dc8_16), rfl, (sg.agree (x' := (b13, b14, la8_16, lc8_16, da8_16, dc8_16)) (n := 26) rfl (by (iterate 26 (refine ix_cons (by first | exact fun _ => rfl | exact no sg.self | exact no (sg.des _ rfl)) ?_)); exact ix_nil)), rfl, (by simp only [(show upd LL 16 21 = LL 21 from rfl), lh21, (show upd LL 16 22 = LL 22 from rfl), lh22, (show upd LL 16 16 = true from rfl), (show upd LL 16 23 = LL 23 from rfl), sg.des 23 rfl, (show upd LL 16 24 = LL 24 from rfl), sg.des 24 rfl, cond_true, cond_false]; exact H2.out)⟩
    · intro LL xx ac wc sg hst hwant QQ hgo
      obtain ⟨b13, b14, la8_16, lc8_16, da8_16, dc8_16⟩ := xx
      exact op_val hwant hgo hst _ (exec_move rfl (sg.slot 16 (sg.anc 16 rfl))) rfl
    · intro LL xx ac wc sg hst hwant QQ hgo
      obtain ⟨b13, b14, la8_16, lc8_16, da8_16, dc8_16⟩ := xx
      have se66 : ac.eval (.tmp 66) = _ := (sg.slot 17 (sg.anc 17 rfl))
      have sg66 := gt_of se66
      (try simp only [nth] at se66 sg66)
      exact op_val hwant hgo hst _ (by simp only [execOp, nth]; go_simp <;> omega) rfl
    · intro LL xx ac wc sg hst hwant QQ hgo
      obtain ⟨b13, b14, la8_16, lc8_16, da8_16, dc8_16⟩ := xx
      have se66 : ac.eval (.tmp 66) = _ := (sg.slot 17 (sg.anc 17 rfl))
      have sg66 := gt_of se66
      (try simp only [nth] at se66 sg66)
      exact op_val hwant hgo hst _ (by simp only [execOp, nth]; go_simp <;> omega) rfl
    · intro LL xx ac wc sg hst hwant QQ hgo
      obtain ⟨b13, b14, la8_16, lc8_16, da8_16, dc8_16⟩ := xx
      have se66 : ac.eval (.tmp 66) = _ := (sg.slot 17 (sg.anc 17 rfl))
      have sg66 := gt_of se66
      (try simp only [nth] at se66 sg66)
      exact op_val hwant hgo hst _ (by simp only [execOp, nth]; go_simp <;> omega) rfl
    · intro LL xx ac wc sg hst hwant QQ hgo
      obtain ⟨_, b14, la8_16, lc8_16, da8_16, dc8_16⟩ := xx
      rcases Bool.eq_false_or_eq_true (LL 22) with lh22 | lh22
      · skip
        rcases Bool.eq_false_or_eq_true (LL 16) with lh16 | lh16
        · skip
          have H := Lib.hid hst
          simp only [sg.self, lh22, lh16, sg.des 23 rfl, sg.des 24 rfl, cond_true, cond_false] at H
          refine hpA_alloc tybook_Book H rfl rfl ?_
          intro wd b13 H2
          replace H2 := hp_front H2 8 rfl
          replace H2 := hp_front H2 8 rfl
          replace H2 := hp_front H2 8 rfl
          replace H2 := hp_front H2 8 rfl
          replace H2 := hp_front H2 8 rfl
          replace H2 := hp_front H2 5 rfl
          replace H2 := hp_front H2 8 rfl
          replace H2 := hp_front H2 8 rfl
          replace H2 := hp_front H2 8 rfl
          exact hgo _ (b13, b14, la8_16, lc8_16, da8_16, dc8_16) _ (sg.agree (x' := (b13, b14, la8_16, lc8_16, da8_16, dc8_16)) (n := 26) rfl (by (iterate 26 (refine ix_cons (by first | exact fun _ => rfl | exact no sg.self | exact no (sg.des _ rfl)) ?_)); exact ix_nil)) rfl (by simp only [(show upd LL 21 21 = true from rfl), (show upd LL 21 22 = LL 22 from rfl), lh22, (show upd LL 21 16 = LL 16 from rfl), lh16, (show upd LL 21 23 = LL 23 from rfl), sg.des 23 rfl, (show upd LL 21 24 = LL 24 from rfl), sg.des 24 rfl, cond_true, cond_false]; exact H2.out)
        · skip
          have H := Lib.hid hst
          simp only [sg.self, lh22, lh16, sg.des 23 rfl, sg.des 24 rfl, cond_true, cond_false] at H
          refine hpA_alloc tybook_Book H rfl rfl ?_
          intro wd b13 H2
          replace H2 := hp_front H2 6 rfl
          replace H2 := hp_front H2 6 rfl
          replace H2 := hp_front H2 6 rfl
          replace H2 := hp_front H2 6 rfl
          replace H2 := hp_front H2 6 rfl
          replace H2 := hp_front H2 5 rfl
          replace H2 := hp_front H2 6 rfl
          exact hgo _ (b13, b14, la8_16, lc8_16, da8_16, dc8_16) _ (sg.agree (x' := (b13, b14, la8_16, lc8_16, da8_16, dc8_16)) (n := 26) rfl (by (iterate 26 (refine ix_cons (by first | exact fun _ => rfl | exact no sg.self | exact no (sg.des _ rfl)) ?_)); exact ix_nil)) rfl (by simp only [(show upd LL 21 21 = true from rfl), (show upd LL 21 22 = LL 22 from rfl), lh22, (show upd LL 21 16 = LL 16 from rfl), lh16, (show upd LL 21 23 = LL 23 from rfl), sg.des 23 rfl, (show upd LL 21 24 = LL 24 from rfl), sg.des 24 rfl, cond_true, cond_false]; exact H2.out)
      · skip
        rcases Bool.eq_false_or_eq_true (LL 16) with lh16 | lh16
        · skip
          have H := Lib.hid hst
          simp only [sg.self, lh22, lh16, sg.des 23 rfl, sg.des 24 rfl, cond_true, cond_false] at H
          refine hpA_alloc tybook_Book H rfl rfl ?_
          intro wd b13 H2
          replace H2 := hp_front H2 7 rfl
          replace H2 := hp_front H2 7 rfl
          replace H2 := hp_front H2 7 rfl
          replace H2 := hp_front H2 7 rfl
          replace H2 := hp_front H2 7 rfl
          replace H2 := hp_front H2 5 rfl
          replace H2 := hp_front H2 7 rfl
          replace H2 := hp_front H2 7 rfl
          exact hgo _ (b13, b14, la8_16, lc8_16, da8_16, dc8_16) _ (sg.agree (x' := (b13, b14, la8_16, lc8_16, da8_16, dc8_16)) (n := 26) rfl (by (iterate 26 (refine ix_cons (by first | exact fun _ => rfl | exact no sg.self | exact no (sg.des _ rfl)) ?_)); exact ix_nil)) rfl (by simp only [(show upd LL 21 21 = true from rfl), (show upd LL 21 22 = LL 22 from rfl), lh22, (show upd LL 21 16 = LL 16 from rfl), lh16, (show upd LL 21 23 = LL 23 from rfl), sg.des 23 rfl, (show upd LL 21 24 = LL 24 from rfl), sg.des 24 rfl, cond_true, cond_false]; exact H2.out)
        · skip
          have H := Lib.hid hst
          simp only [sg.self, lh22, lh16, sg.des 23 rfl, sg.des 24 rfl, cond_true, cond_false] at H
          refine hpA_alloc tybook_Book H rfl rfl ?_
          intro wd b13 H2
          exact hgo _ (b13, b14, la8_16, lc8_16, da8_16, dc8_16) _ (sg.agree (x' := (b13, b14, la8_16, lc8_16, da8_16, dc8_16)) (n := 26) rfl (by (iterate 26 (refine ix_cons (by first | exact fun _ => rfl | exact no sg.self | exact no (sg.des _ rfl)) ?_)); exact ix_nil)) rfl (by simp only [(show upd LL 21 21 = true from rfl), (show upd LL 21 22 = LL 22 from rfl), lh22, (show upd LL 21 16 = LL 16 from rfl), lh16, (show upd LL 21 23 = LL 23 from rfl), sg.des 23 rfl, (show upd LL 21 24 = LL 24 from rfl), sg.des 24 rfl, cond_true, cond_false]; exact H2.out)
    · intro LL xx ac wc sg hst hwant QQ hgo
      obtain ⟨b13, _, la8_16, lc8_16, da8_16, dc8_16⟩ := xx
      rcases Bool.eq_false_or_eq_true (LL 21) with lh21 | lh21
      · skip
        rcases Bool.eq_false_or_eq_true (LL 16) with lh16 | lh16
        · skip
          have H := Lib.hid hst
          simp only [lh21, sg.self, lh16, sg.des 23 rfl, sg.des 24 rfl, cond_true, cond_false] at H
          refine hpA_alloc tyapi_Change H rfl rfl ?_
          intro wd b14 H2
          replace H2 := hp_front H2 8 rfl
          replace H2 := hp_front H2 8 rfl
          replace H2 := hp_front H2 8 rfl
          replace H2 := hp_front H2 8 rfl
          replace H2 := hp_front H2 8 rfl
          replace H2 := hp_front H2 8 rfl
          replace H2 := hp_front H2 6 rfl
          replace H2 := hp_front H2 8 rfl
          replace H2 := hp_front H2 8 rfl
          exact hgo _ (b13, b14, la8_16, lc8_16, da8_16, dc8_16) _ (sg.agree (x' := (b13, b14, la8_16, lc8_16, da8_16, dc8_16)) (n := 26) rfl (by (iterate 26 (refine ix_cons (by first | exact fun _ => rfl | exact no sg.self | exact no (sg.des _ rfl)) ?_)); exact ix_nil)) rfl (by simp only [(show upd LL 22 21 = LL 21 from rfl), lh21, (show upd LL 22 22 = true from rfl), (show upd LL 22 16 = LL 16 from rfl), lh16, (show upd LL 22 23 = LL 23 from rfl), sg.des 23 rfl, (show upd LL 22 24 = LL 24 from rfl), sg.des 24 rfl, cond_true, cond_false]; exact H2.out)
        · skip
          have H := Lib.hid hst
          simp only [lh21, sg.self, lh16, sg.des 23 rfl, sg.des 24 rfl, cond_true, cond_false] at H
          refine hpA_alloc tyapi_Change H rfl rfl ?_
          intro wd b14 H2
          exact hgo _ (b13, b14, la8_16, lc8_16, da8_16, dc8_16) _ (sg.agree (x' := (b13, b14, la8_16, lc8_16, da8_16, dc8_16)) (n := 26) rfl (by (iterate 26 (refine ix_cons (by first | exact fun _ => rfl | exact no sg.self | exact no (sg.des _ rfl)) ?_)); exact ix_nil)) rfl (by simp only [(show upd LL 22 21 = LL 21 from rfl), lh21, (show upd LL 22 22 = true from rfl), (show upd LL 22 16 = LL 16 from rfl), lh16, (show upd LL 22 23 = LL 23 from rfl), sg.des 23 rfl, (show upd LL 22 24 = LL 24 from rfl), sg.des 24 rfl, cond_true, cond_false]; exact H2.out)
      · skip
        rcases Bool.eq_false_or_eq_true (LL 16) with lh16 | lh16
        · skip
          have H := Lib.hid hst
          simp only [lh21, sg.self, lh16, sg.des 23 rfl, sg.des 24 rfl, cond_true, cond_false] at H
          refine hpA_alloc tyapi_Change H rfl rfl ?_
          intro wd b14 H2
          replace H2 := hp_front H2 7 rfl
          replace H2 := hp_front H2 7 rfl
          replace H2 := hp_front H2 7 rfl
          replace H2 := hp_front H2 7 rfl
          replace H2 := hp_front H2 7 rfl
          replace H2 := hp_front H2 5 rfl
          replace H2 := hp_front H2 7 rfl
          replace H2 := hp_front H2 7 rfl
          exact hgo _ (b13, b14, la8_16, lc8_16, da8_16, dc8_16) _ (sg.agree (x' := (b13, b14, la8_16, lc8_16, da8_16, dc8_16)) (n := 26) rfl (by (iterate 26 (refine ix_cons (by first | exact fun _ => rfl | exact no sg.self | exact no (sg.des _ rfl)) ?_)); exact ix_nil)) rfl (by simp only [(show upd LL 22 21 = LL 21 from rfl), lh21, (show upd LL 22 22 = true from rfl), (show upd LL 22 16 = LL 16 from rfl), lh16, (show upd LL 22 23 = LL 23 from rfl), sg.des 23 rfl, (show upd LL 22 24 = LL 24 from rfl), sg.des 24 rfl, cond_true, cond_false]; exact H2.out)
        · skip
          have H := Lib.hid hst
          simp only [lh21, sg.self, lh16, sg.des 23 rfl, sg.des 24 rfl, cond_true, cond_false] at H
          refine hpA_alloc tyapi_Change H rfl rfl ?_
          intro wd b14 H2
          exact hgo _ (b13, b14, la8_16, lc8_16, da8_16, dc8_16) _ (sg.agree (x' := (b13, b14, la8_16, lc8_16, da8_16, dc8_16)) (n := 26) rfl (by (iterate 26 (refine ix_cons (by first | exact fun _ => rfl | exact no sg.self | exact no (sg.des _ rfl)) ?_)); exact ix_nil)) rfl (by simp only [(show upd LL 22 21 = LL 21 from rfl), lh21, (show upd LL 22 22 = true from rfl), (show upd LL 22 16 = LL 16 from rfl), lh16, (show upd LL 22 23 = LL 23 from rfl), sg.des 23 rfl, (show upd LL 22 24 = LL 24 from rfl), sg.des 24 rfl, cond_true, cond_false]; exact H2.out)
    · intro LL xx ac wc sg hst hwant QQ hgo
      obtain ⟨b13, b14, la8_16, lc8_16, da8_16, dc8_16⟩ := xx
      have H := Lib.hid hst
      simp only [sg.anc 21 rfl, sg.anc 22 rfl, sg.anc 16 rfl, sg.self, sg.des 24 rfl, cond_true, cond_false] at H
      refine hpA_store tybook_Book H rfl rfl (sg.slot 21 (sg.anc 21 rfl)) (sg.slot 18 (sg.anc 18 rfl)) rfl (by repeat (first | apply Put.head | apply Put.tail)) (by simp [xA, xL, cA, cL, chA, chL, bkA, bkL, rbA, rbL]) (by simp [xA, xL, cA, cL, chA, chL, bkA, bkL, rbA, rbL, Value.oneCell']) (by first | rfl | (simp only [spl]; rfl)) rfl ?_
      intro wd H2
      exact hgo _ (b13, b14, la8_16, lc8_16, da8_16, dc8_16) _ (sg.agree (x' := (b13, b14, la8_16, lc8_16, da8_16, dc8_16)) (n := 26) rfl (by (iterate 26 (refine ix_cons (by first | exact fun _ => rfl | exact no sg.self | exact no (sg.des _ rfl)) ?_)); exact ix_nil)) rfl (by simp only [(show upd LL 23 21 = LL 21 from rfl), sg.anc 21 rfl, (show upd LL 23 22 = LL 22 from rfl), sg.anc 22 rfl, (show upd LL 23 16 = LL 16 from rfl), sg.anc 16 rfl, (show upd LL 23 23 = true from rfl), (show upd LL 23 24 = LL 24 from rfl), sg.des 24 rfl, cond_true, cond_false]; exact H2.out)
    · intro LL xx ac wc sg hst hwant QQ hgo
      obtain ⟨b13, b14, la8_16, lc8_16, da8_16, dc8_16⟩ := xx
      have H := Lib.hid hst
      simp only [sg.anc 21 rfl, sg.anc 22 rfl, sg.anc 16 rfl, sg.anc 23 rfl, sg.self, cond_true, cond_false] at H
      refine hpA_store tyapi_Change H rfl rfl (sg.slot 22 (sg.anc 22 rfl)) (sg.slot 19 (sg.anc 19 rfl)) rfl (by repeat (first | apply Put.head | apply Put.tail)) (by simp [xA, xL, cA, cL, chA, chL, bkA, bkL, rbA, rbL]) (by simp [xA, xL, cA, cL, chA, chL, bkA, bkL, rbA, rbL, Value.oneCell']) (by first | rfl | (simp only [spl]; rfl)) rfl ?_
      intro wd H2
      exact hgo _ (b13, b14, la8_16, lc8_16, da8_16, dc8_16) _ (sg.agree (x' := (b13, b14, la8_16, lc8_16, da8_16, dc8_16)) (n := 26) rfl (by (iterate 26 (refine ix_cons (by first | exact fun _ => rfl | exact no sg.self | exact no (sg.des _ rfl)) ?_)); exact ix_nil)) rfl (by simp only [(show upd LL 24 21 = LL 21 from rfl), sg.anc 21 rfl, (show upd LL 24 22 = LL 22 from rfl), sg.anc 22 rfl, (show upd LL 24 16 = LL 16 from rfl), sg.anc 16 rfl, (show upd LL 24 23 = LL 23 from rfl), sg.anc 23 rfl, (show upd LL 24 24 = true from rfl), cond_true, cond_false]; exact H2.out)
    · intro LL xx ac wc sg hst hwant QQ hgo
      obtain ⟨b13, b14, la8_16, lc8_16, da8_16, dc8_16⟩ := xx
      exact op_val hwant hgo hst _ (exec_assign rfl (sg.slot 20 (sg.anc 20 rfl))) rfl
  · exact skips [] (by kernel_rfl) (fun _ h => by cases h)
  · intro xx ac1 wz hfr hsl hst
    obtain ⟨b13, b14, la8_16, lc8_16, da8_16, dc8_16⟩ := xx
    exact hfin b13 b14 la8_16 lc8_16 da8_16 dc8_16 ac1 wz (hfr.size.trans hz) hfr.defers (fr_keep hfr [13, 14, 15, 66, 67, 68, 69, 70, 71, 72, 73, 74, 75, 76, 77, 78, 79, 80, 81, 82, 83, 84, 85, 86] (by kernel_rfl)) (hsl 21 (by decide)) (hsl 25 (by decide)) (Lib.hid hst)
set_option maxHeartbeats 4000000 in
set_option maxRecDepth 20000 in
theorem apart_w_r21 (n2 : Int) (c : Cfg) (pa : Option Addr) (pc : Nat) (ds : List DeedV) (a : Int) (k : Int) (md : Int) (b5 : Nat) (b11 : Nat) (i : Nat) (b : BookV) (la : Option Addr) (lc : Nat) (da : Option Addr) (dc : Nat) (b16 : Nat) (b18 : Nat) (la15_4 : Option Addr) (lc15_4 : Nat) (da15_4 : Option Addr) (dc15_4 : Nat) (b20 : Nat) (b21 : Nat) (la16_6 : Option Addr) (lc16_6 : Nat) (da16_6 : Option Addr) (dc16_6 : Nat) (b23 : Nat) (b24 : Nat) (la17_4 : Option Addr) (lc17_4 : Nat) (da17_4 : Option Addr) (dc17_4 : Nat) (b26 : Nat) (b27 : Nat) (la18_4 : Option Addr) (lc18_4 : Nat) (da18_4 : Option Addr) (dc18_4 : Nat) (b29 : Nat) (b30 : Nat) (la19_4 : Option Addr) (lc19_4 : Nat) (da19_4 : Option Addr) (dc19_4 : Nat) (b32 : Nat) (b33 : Nat) (la20_6 : Option Addr) (lc20_6 : Nat) (da20_6 : Option Addr) (dc20_6 : Nat) (b35 : Nat) (b36 : Nat) (hn01 : n2 = 0 ∨ n2 = 1) (hn2 : IntKind.i64.wrap ((IntKind.u64.wrap md).tmod 2) = n2) (hi : i ≤ ds.length) (hi2 : i ≤ 60) (hix : b.index ≤ (i : Int)) (hI : Hid (InvB b)) (hbi : 0 ≤ b.index ∧ b.index ≤ 1073741824) (e_p : (((aP b a).2.2) == 0) = true) (e_q : (((aQ b a (1 + n2)).2.2) == 0) = true) (e_r : (((aR b a k (1 + n2)).2.2) == 0) = true) (h_ir : Hid (InvB (aR b a k (1 + n2)).1)) (e_u : (((aP b k).2.2) == 0) = true) (e_v : (((aV b a k).2.2) == 0) = true) (e_w : (((aW b a k (1 + n2)).2.2) == 0) = true) (h_iw : Hid (InvB (aW b a k (1 + n2)).1)) (hxw : (((aR b a k (1 + n2)).1.index) == ((aW b a k (1 + n2)).1.index)) = true) (hmw : (modeV ((aW b a k (1 + n2)).1) 1) = modeV ((aR b a k (1 + n2)).1) 1) (hlz : (((liveV (aR b a k (1 + n2)).1).length : Int) == ((liveV b).length : Int) - 2) = true) (hlw : liveV (aW b a k (1 + n2)).1 = liveV (aR b a k (1 + n2)).1) (hl1 : (liveV b).length ≤ 64) (hl2 : (liveV (aR b a k (1 + n2)).1).length ≤ 64) {wa wb : World} (H : Hid (Hp [] wa wb [rB b36 40 (chL ((aW b a k (1 + n2)).2.1)), rB b35 33 (bkL (((aW b a k (1 + n2)).1).conf) (((aW b a k (1 + n2)).1).index) (((aW b a k (1 + n2)).1).room) (.slice la20_6 (((aW b a k (1 + n2)).1).live.length) lc20_6) (.slice da20_6 (((aW b a k (1 + n2)).1).done.length) dc20_6) (((aW b a k (1 + n2)).1).modes)), rS la20_6 lc20_6 9 (((aW b a k (1 + n2)).1).live.map rowOf), rS da20_6 dc20_6 8 (((aW b a k (1 + n2)).1).done.map callRow), rB b33 40 (chL ((aV b a k).2.1)), rB b32 33 (bkL (((aV b a k).1).conf) (((aV b a k).1).index) (((aV b a k).1).room) (.slice la19_4 (((aV b a k).1).live.length) lc19_4) (.slice da19_4 (((aV b a k).1).done.length) dc19_4) (((aV b a k).1).modes)), rS la19_4 lc19_4 9 (((aV b a k).1).live.map rowOf), rS da19_4 dc19_4 8 (((aV b a k).1).done.map callRow), rB b30 40 (chL ((aP b k).2.1)), rB b29 33 (bkL (((aP b k).1).conf) (((aP b k).1).index) (((aP b k).1).room) (.slice la18_4 (((aP b k).1).live.length) lc18_4) (.slice da18_4 (((aP b k).1).done.length) dc18_4) (((aP b k).1).modes)), rS la18_4 lc18_4 9 (((aP b k).1).live.map rowOf), rS da18_4 dc18_4 8 (((aP b k).1).done.map callRow), rB b27 40 (chL ((aR b a k (1 + n2)).2.1)), rB b26 33 (bkL (((aR b a k (1 + n2)).1).conf) (((aR b a k (1 + n2)).1).index) (((aR b a k (1 + n2)).1).room) (.slice la17_4 (((aR b a k (1 + n2)).1).live.length) lc17_4) (.slice da17_4 (((aR b a k (1 + n2)).1).done.length) dc17_4) (((aR b a k (1 + n2)).1).modes)), rS la17_4 lc17_4 9 (((aR b a k (1 + n2)).1).live.map rowOf), rS da17_4 dc17_4 8 (((aR b a k (1 + n2)).1).done.map callRow), rB b24 40 (chL ((aQ b a (1 + n2)).2.1)), rB b23 33 (bkL (((aQ b a (1 + n2)).1).conf) (((aQ b a (1 + n2)).1).index) (((aQ b a (1 + n2)).1).room) (.slice la16_6 (((aQ b a (1 + n2)).1).live.length) lc16_6) (.slice da16_6 (((aQ b a (1 + n2)).1).done.length) dc16_6) (((aQ b a (1 + n2)).1).modes)), rS la16_6 lc16_6 9 (((aQ b a (1 + n2)).1).live.map rowOf), rS da16_6 dc16_6 8 (((aQ b a (1 + n2)).1).done.map callRow), rB b21 40 (chL ((aP b a).2.1)), rB b20 33 (bkL (((aP b a).1).conf) (((aP b a).1).index) (((aP b a).1).room) (.slice la15_4 (((aP b a).1).live.length) lc15_4) (.slice da15_4 (((aP b a).1).done.length) dc15_4) (((aP b a).1).modes)), rS la15_4 lc15_4 9 (((aP b a).1).live.map rowOf), rS da15_4 dc15_4 8 (((aP b a).1).done.map callRow), rB b18 38 (xL ((findV b k).1)), rB b16 38 (xL ((findV b a).1)), rB b11 33 (bkL b.conf b.index b.room (.slice la b.live.length lc) (.slice da b.done.length dc) b.modes), rS la lc 9 (b.live.map rowOf), rS da dc 8 (b.done.map callRow), rB b5 24 (cL c), rS pa pc 22 (ds.map deedRow)])) (ac0 : Act) (hz : ac0.tmps.size = 224) (so11 : ac0.eval (.tmp 11) = .pointer (some ⟨b11, 0, none⟩)) (so22 : ac0.eval (.tmp 22) = .int .i64 ((aP b a).2.2)) (so25 : ac0.eval (.tmp 25) = .int .i64 ((aQ b a (1 + n2)).2.2)) (so26 : ac0.eval (.tmp 26) = .pointer (some ⟨b26, 0, none⟩)) (so28 : ac0.eval (.tmp 28) = .int .i64 ((aR b a k (1 + n2)).2.2)) (so31 : ac0.eval (.tmp 31) = .int .i64 ((aP b k).2.2)) (so34 : ac0.eval (.tmp 34) = .int .i64 ((aV b a k).2.2)) (so35 : ac0.eval (.tmp 35) = .pointer (some ⟨b35, 0, none⟩)) (so37 : ac0.eval (.tmp 37) = .int .i64 ((aW b a k (1 + n2)).2.2)) {QR : Exit → Act → World → Prop} (hfin : ∀ (a21_24 : Option Addr) (c21_24 : Nat) (a21_26 : Option Addr) (c21_26 : Nat) (a21_45 : Option Addr) (c21_45 : Nat) (a21_48 : Option Addr) (c21_48 : Nat) (ac1 : Act) (wz : World), ac1.tmps.size = 224 → ac1.defers = ac0.defers → (∀ t, ([10, 171, 172, 173, 174, 175, 176, 177, 178, 179, 180, 181, 182, 183, 184, 185, 186, 187, 188, 189, 190, 191, 192, 193, 194, 195, 196, 197, 198, 199, 200, 201, 202, 203, 204, 205, 206, 207, 208, 209, 210, 211, 212, 213, 214, 215, 216, 217, 218, 219, 220, 221, 222, 223] : List Nat).contains t = false → ac1.eval (.tmp t) = ac0.eval (.tmp t)) → ac1.eval (.tmp 10) = .bool true →  Hid (Hp [] wa wz [rS a21_48 c21_48 8 ((liveV b).map callRow), rS a21_45 c21_45 8 ((liveV ((aR b a k (1 + n2)).1)).map callRow), rS a21_26 c21_26 8 ((liveV ((aR b a k (1 + n2)).1)).map callRow), rS a21_24 c21_24 8 ((liveV ((aR b a k (1 + n2)).1)).map callRow), rB b36 40 (chL ((aW b a k (1 + n2)).2.1)), rB b35 33 (bkL (((aW b a k (1 + n2)).1).conf) (((aW b a k (1 + n2)).1).index) (((aW b a k (1 + n2)).1).room) (.slice la20_6 (((aW b a k (1 + n2)).1).live.length) lc20_6) (.slice da20_6 (((aW b a k (1 + n2)).1).done.length) dc20_6) (((aW b a k (1 + n2)).1).modes)), rS la20_6 lc20_6 9 (((aW b a k (1 + n2)).1).live.map rowOf), rS da20_6 dc20_6 8 (((aW b a k (1 + n2)).1).done.map callRow), rB b33 40 (chL ((aV b a k).2.1)), rB b32 33 (bkL (((aV b a k).1).conf) (((aV b a k).1).index) (((aV b a k).1).room) (.slice la19_4 (((aV b a k).1).live.length) lc19_4) (.slice da19_4 (((aV b a k).1).done.length) dc19_4) (((aV b a k).1).modes)), rS la19_4 lc19_4 9 (((aV b a k).1).live.map rowOf), rS da19_4 dc19_4 8 (((aV b a k).1).done.map callRow), rB b30 40 (chL ((aP b k).2.1)), rB b29 33 (bkL (((aP b k).1).conf) (((aP b k).1).index) (((aP b k).1).room) (.slice la18_4 (((aP b k).1).live.length) lc18_4) (.slice da18_4 (((aP b k).1).done.length) dc18_4) (((aP b k).1).modes)), rS la18_4 lc18_4 9 (((aP b k).1).live.map rowOf), rS da18_4 dc18_4 8 (((aP b k).1).done.map callRow), rB b27 40 (chL ((aR b a k (1 + n2)).2.1)), rB b26 33 (bkL (((aR b a k (1 + n2)).1).conf) (((aR b a k (1 + n2)).1).index) (((aR b a k (1 + n2)).1).room) (.slice la17_4 (((aR b a k (1 + n2)).1).live.length) lc17_4) (.slice da17_4 (((aR b a k (1 + n2)).1).done.length) dc17_4) (((aR b a k (1 + n2)).1).modes)), rS la17_4 lc17_4 9 (((aR b a k (1 + n2)).1).live.map rowOf), rS da17_4 dc17_4 8 (((aR b a k (1 + n2)).1).done.map callRow), rB b24 40 (chL ((aQ b a (1 + n2)).2.1)), rB b23 33 (bkL (((aQ b a (1 + n2)).1).conf) (((aQ b a (1 + n2)).1).index) (((aQ b a (1 + n2)).1).room) (.slice la16_6 (((aQ b a (1 + n2)).1).live.length) lc16_6) (.slice da16_6 (((aQ b a (1 + n2)).1).done.length) dc16_6) (((aQ b a (1 + n2)).1).modes)), rS la16_6 lc16_6 9 (((aQ b a (1 + n2)).1).live.map rowOf), rS da16_6 dc16_6 8 (((aQ b a (1 + n2)).1).done.map callRow), rB b21 40 (chL ((aP b a).2.1)), rB b20 33 (bkL (((aP b a).1).conf) (((aP b a).1).index) (((aP b a).1).room) (.slice la15_4 (((aP b a).1).live.length) lc15_4) (.slice da15_4 (((aP b a).1).done.length) dc15_4) (((aP b a).1).modes)), rS la15_4 lc15_4 9 (((aP b a).1).live.map rowOf), rS da15_4 dc15_4 8 (((aP b a).1).done.map callRow), rB b18 38 (xL ((findV b k).1)), rB b16 38 (xL ((findV b a).1)), rB b11 33 (bkL b.conf b.index b.room (.slice la b.live.length lc) (.slice da b.done.length dc) b.modes), rS la lc 9 (b.live.map rowOf), rS da dc 8 (b.done.map callRow), rB b5 24 (cL c), rS pa pc 22 (ds.map deedRow)]) → QR .normal ac1 wz) : (regAt Try.f4 21).wp Try.prog QR ac0 wb := by
  refine wp_region_st mixedP ⟨[0, 1, 2, 3, 4, 5, 6, 7, 8, 9, 10, 11, 12, 13, 14, 15, 16, 17, 18, 19, 20, 21, 22, 23, 24, 23, 25, 26, 27, 28, 29, 30, 29, 31, 32, 33, 34, 35, 36, 35, 37, 38, 39, 40, 41, 42, 43, 41, 43, 44, 45, 46, 47, 48], by kernel_rfl⟩ [[], [0], [0, 1], [0, 1, 2], [0, 1, 2, 3], [0, 1, 2, 3, 4], [0, 1, 2, 3, 4, 5], [0, 1, 2, 3, 4, 5, 6], [0, 1, 2, 3, 4, 5, 6, 7], [0, 1, 2, 3, 4, 5, 6, 7, 8], [0, 1, 2, 3, 4, 5, 6, 7, 8, 9], [0, 1, 2, 3, 4, 5, 6, 7, 8, 9, 10], [0, 1, 2, 3, 4, 5, 6, 7, 8, 9, 10, 11], [0, 1, 2, 3, 4, 5, 6, 7, 8, 9, 10, 11, 12], [0, 1, 2, 3, 4, 5, 6, 7, 8, 9, 10, 11, 12, 13], [0, 1, 2, 3, 4, 5, 6, 7, 8, 9, 10, 11, 12, 13, 14], [0, 1, 2, 3, 4, 5, 6, 7, 8, 9, 10, 11, 12, 13, 14, 15], [0, 1, 2, 3, 4, 5, 6, 7, 8, 9, 10, 11, 12, 13, 14, 15, 16], [0, 1, 2, 3, 4, 5, 6, 7, 8, 9, 10, 11, 12, 13, 14, 15, 16, 17], [0, 1, 2, 3, 4, 5, 6, 7, 8, 9, 10, 11, 12, 13, 14, 15, 16, 17, 18], [0, 1, 2, 3, 4, 5, 6, 7, 8, 9, 10, 11, 12, 13, 14, 15, 16, 17, 18, 19], [0, 1, 2, 3, 4, 5, 6, 7, 8, 9, 10, 11, 12, 13, 14, 15, 16, 17, 18, 19, 20], [0, 1, 2, 3, 4, 5, 6, 7, 8, 9, 10, 11, 12, 13, 14, 15, 16, 17, 18, 19, 20, 21], [0, 1, 2, 3, 4, 5, 6, 7, 8, 9, 10, 11, 12, 13, 14, 15, 16, 17, 18, 19, 20, 21, 22], [0, 1, 2, 3, 4, 5, 6, 7, 8, 9, 10, 11, 12, 13, 14, 15, 16, 17, 18, 19, 20, 21, 22, 23], [0, 1, 2, 3, 4, 5, 6, 7, 8, 9, 10, 11, 12, 13, 14, 15, 16, 17, 18, 19, 20, 21, 22], [0, 1, 2, 3, 4, 5, 6, 7, 8, 9, 10, 11, 12, 13, 14, 15, 16, 17, 18, 19, 20, 21, 22, 23, 24, 25], [0, 1, 2, 3, 4, 5, 6, 7, 8, 9, 10, 11, 12, 13, 14, 15, 16, 17, 18, 19, 20, 21, 22, 23, 24, 25, 26], [0, 1, 2, 3, 4, 5, 6, 7, 8, 9, 10, 11, 12, 13, 14, 15, 16, 17, 18, 19, 20, 21, 22, 23, 24, 25, 26, 27], [0, 1, 2, 3, 4, 5, 6, 7, 8, 9, 10, 11, 12, 13, 14, 15, 16, 17, 18, 19, 20, 21, 22, 23, 24, 25, 26, 27, 28], [0, 1, 2, 3, 4, 5, 6, 7, 8, 9, 10, 11, 12, 13, 14, 15, 16, 17, 18, 19, 20, 21, 22, 23, 24, 25, 26, 27, 28, 29], [0, 1, 2, 3, 4, 5, 6, 7, 8, 9, 10, 11, 12, 13, 14, 15, 16, 17, 18, 19, 20, 21, 22, 23, 24, 25, 26, 27, 28, 29, 30], [0, 1, 2, 3, 4, 5, 6, 7, 8, 9, 10, 11, 12, 13, 14, 15, 16, 17, 18, 19, 20, 21, 22, 23, 24, 25, 26, 27, 28, 29], [0, 1, 2, 3, 4, 5, 6, 7, 8, 9, 10, 11, 12, 13, 14, 15, 16, 17, 18, 19, 20, 21, 22, 23, 24, 25, 26, 27, 28, 29, 30, 31, 32], [0, 1, 2, 3, 4, 5, 6, 7, 8, 9, 10, 11, 12, 13, 14, 15, 16, 17, 18, 19, 20, 21, 22, 23, 24, 25, 26, 27, 28, 29, 30, 31, 32, 33], [0, 1, 2, 3, 4, 5, 6, 7, 8, 9, 10, 11, 12, 13, 14, 15, 16, 17, 18, 19, 20, 21, 22, 23, 24, 25, 26, 27, 28, 29, 30, 31, 32, 33, 34], [0, 1, 2, 3, 4, 5, 6, 7, 8, 9, 10, 11, 12, 13, 14, 15, 16, 17, 18, 19, 20, 21, 22, 23, 24, 25, 26, 27, 28, 29, 30, 31, 32, 33, 34, 35], [0, 1, 2, 3, 4, 5, 6, 7, 8, 9, 10, 11, 12, 13, 14, 15, 16, 17, 18, 19, 20, 21, 22, 23, 24, 25, 26, 27, 28, 29, 30, 31, 32, 33, 34, 35, 36], [0, 1, 2, 3, 4, 5, 6, 7, 8, 9, 10, 11, 12, 13, 14, 15, 16, 17, 18, 19, 20, 21, 22, 23, 24, 25, 26, 27, 28, 29, 30, 31, 32, 33, 34, 35, 36, 37], [0, 1, 2, 3, 4, 5, 6, 7, 8, 9, 10, 11, 12, 13, 14, 15, 16, 17, 18, 19, 20, 21, 22, 23, 24, 25, 26, 27, 28, 29, 30, 31, 32, 33, 34, 35, 36], [0, 1, 2, 3, 4, 5, 6, 7, 8, 9, 10, 11, 12, 13, 14, 15, 16, 17, 18, 19, 20, 21, 22, 23, 24, 25, 26, 27, 28, 29, 30, 31, 32, 33, 34, 35, 36, 37, 38, 39], [0, 1, 2, 3, 4, 5, 6, 7, 8, 9, 10, 11, 12, 13, 14, 15, 16, 17, 18, 19, 20, 21, 22, 23, 24, 25, 26, 27, 28, 29, 30, 31, 32, 33, 34, 35, 36, 37, 38, 39, 40], [0, 1, 2, 3, 4, 5, 6, 7, 8, 9, 10, 11, 12, 13, 14, 15, 16, 17, 18, 19, 20, 21, 22, 23, 24, 25, 26, 27, 28, 29, 30, 31, 32, 33, 34, 35, 36, 37, 38, 39, 40, 41], [0, 1, 2, 3, 4, 5, 6, 7, 8, 9, 10, 11, 12, 13, 14, 15, 16, 17, 18, 19, 20, 21, 22, 23, 24, 25, 26, 27, 28, 29, 30, 31, 32, 33, 34, 35, 36, 37, 38, 39, 40, 41, 42], [0, 1, 2, 3, 4, 5, 6, 7, 8, 9, 10, 11, 12, 13, 14, 15, 16, 17, 18, 19, 20, 21, 22, 23, 24, 25, 26, 27, 28, 29, 30, 31, 32, 33, 34, 35, 36, 37, 38, 39, 40, 41, 42, 43], [0, 1, 2, 3, 4, 5, 6, 7, 8, 9, 10, 11, 12, 13, 14, 15, 16, 17, 18, 19, 20, 21, 22, 23, 24, 25, 26, 27, 28, 29, 30, 31, 32, 33, 34, 35, 36, 37, 38, 39, 40, 41, 42, 43, 44], [0, 1, 2, 3, 4, 5, 6, 7, 8, 9, 10, 11, 12, 13, 14, 15, 16, 17, 18, 19, 20, 21, 22, 23, 24, 25, 26, 27, 28, 29, 30, 31, 32, 33, 34, 35, 36, 37, 38, 39, 40, 41, 42, 43, 44, 45], [0, 1, 2, 3, 4, 5, 6, 7, 8, 9, 10, 11, 12, 13, 14, 15, 16, 17, 18, 19, 20, 21, 22, 23, 24, 25, 26, 27, 28, 29, 30, 31, 32, 33, 34, 35, 36, 37, 38, 39, 40, 41, 42, 43], [0, 1, 2, 3, 4, 5, 6, 7, 8, 9, 10, 11, 12, 13, 14, 15, 16, 17, 18, 19, 20, 21, 22, 23, 24, 25, 26, 27, 28, 29, 30, 31, 32, 33, 34, 35, 36, 37, 38, 39, 40, 41, 42, 43, 44, 45, 47], [0, 1, 2, 3, 4, 5, 6, 7, 8, 9, 10, 11, 12, 13, 14, 15, 16, 17, 18, 19, 20, 21, 22, 23, 24, 25, 26, 27, 28, 29, 30, 31, 32, 33, 34, 35, 36, 37, 38, 39, 40, 41, 42, 43, 44, 45, 47, 48], [0, 1, 2, 3, 4, 5, 6, 7, 8, 9, 10, 11, 12, 13, 14, 15, 16, 17, 18, 19, 20, 21, 22, 23, 24, 25, 26, 27, 28, 29, 30, 31, 32, 33, 34, 35, 36, 37, 38, 39, 40, 41, 42, 43, 44, 45, 47, 48, 49], [0, 1, 2, 3, 4, 5, 6, 7, 8, 9, 10, 11, 12, 13, 14, 15, 16, 17, 18, 19, 20, 21, 22, 23, 24, 25, 26, 27, 28, 29, 30, 31, 32, 33, 34, 35, 36, 37, 38, 39, 40, 41, 42, 43, 44, 45, 46, 47, 48, 49, 50], [0, 1, 2, 3, 4, 5, 6, 7, 8, 9, 10, 11, 12, 13, 14, 15, 16, 17, 18, 19, 20, 21, 22, 23, 24, 25, 26, 27, 28, 29, 30, 31, 32, 33, 34, 35, 36, 37, 38, 39, 40, 41, 42, 43, 44, 45, 46, 47, 48, 49, 50, 51], [0, 1, 2, 3, 4, 5, 6, 7, 8, 9, 10, 11, 12, 13, 14, 15, 16, 17, 18, 19, 20, 21, 22, 23, 24, 25, 26, 27, 28, 29, 30, 31, 32, 33, 34, 35, 36, 37, 38, 39, 40, 41, 42, 43, 44, 45, 46, 47, 48, 49, 50, 51, 52]] (by kernel_rfl) (by kernel_rfl) 224 hz (by kernel_rfl) (fun (xx : Option Addr × Nat × Option Addr × Nat × Option Addr × Nat × Option Addr × Nat) jx => match xx with | (a21_24, c21_24, a21_26, c21_26, a21_45, c21_45, a21_48, c21_48) => nth [.int .i64 ((aP b a).2.2), .bool true, .bool true, .int .i64 ((aQ b a (1 + n2)).2.2), .bool true, .bool true, .bool true, .int .i64 ((aR b a k (1 + n2)).2.2), .bool true, .bool true, .bool true, .int .i64 ((aP b k).2.2), .bool true, .bool true, .bool true, .int .i64 ((aV b a k).2.2), .bool true, .bool true, .bool true, .int .i64 ((aW b a k (1 + n2)).2.2), .bool true, .bool true, .bool true, .agg (bkA (((aR b a k (1 + n2)).1).conf) (((aR b a k (1 + n2)).1).index) (((aR b a k (1 + n2)).1).room) (.slice la17_4 (((aR b a k (1 + n2)).1).live.length) lc17_4) (.slice da17_4 (((aR b a k (1 + n2)).1).done.length) dc17_4) (((aR b a k (1 + n2)).1).modes)), .slice a21_24 ((liveV ((aR b a k (1 + n2)).1)).length) c21_24, .agg (bkA (((aW b a k (1 + n2)).1).conf) (((aW b a k (1 + n2)).1).index) (((aW b a k (1 + n2)).1).room) (.slice la20_6 (((aW b a k (1 + n2)).1).live.length) lc20_6) (.slice da20_6 (((aW b a k (1 + n2)).1).done.length) dc20_6) (((aW b a k (1 + n2)).1).modes)), .slice a21_26 ((liveV ((aR b a k (1 + n2)).1)).length) c21_26, .bool true, .bool true, .bool true, .agg (bkA (((aR b a k (1 + n2)).1).conf) (((aR b a k (1 + n2)).1).index) (((aR b a k (1 + n2)).1).room) (.slice la17_4 (((aR b a k (1 + n2)).1).live.length) lc17_4) (.slice da17_4 (((aR b a k (1 + n2)).1).done.length) dc17_4) (((aR b a k (1 + n2)).1).modes)), .int .i64 (((aR b a k (1 + n2)).1).index), .agg (bkA (((aW b a k (1 + n2)).1).conf) (((aW b a k (1 + n2)).1).index) (((aW b a k (1 + n2)).1).room) (.slice la20_6 (((aW b a k (1 + n2)).1).live.length) lc20_6) (.slice da20_6 (((aW b a k (1 + n2)).1).done.length) dc20_6) (((aW b a k (1 + n2)).1).modes)), .int .i64 (((aW b a k (1 + n2)).1).index), .bool true, .bool true, .bool true, .agg (bkA (((aR b a k (1 + n2)).1).conf) (((aR b a k (1 + n2)).1).index) (((aR b a k (1 + n2)).1).room) (.slice la17_4 (((aR b a k (1 + n2)).1).live.length) lc17_4) (.slice da17_4 (((aR b a k (1 + n2)).1).done.length) dc17_4) (((aR b a k (1 + n2)).1).modes)), .int .i64 (modeV ((aR b a k (1 + n2)).1) 1), .agg (bkA (((aW b a k (1 + n2)).1).conf) (((aW b a k (1 + n2)).1).index) (((aW b a k (1 + n2)).1).room) (.slice la20_6 (((aW b a k (1 + n2)).1).live.length) lc20_6) (.slice da20_6 (((aW b a k (1 + n2)).1).done.length) dc20_6) (((aW b a k (1 + n2)).1).modes)), .int .i64 (modeV ((aR b a k (1 + n2)).1) 1), .bool true, .bool true, .bool true, .agg (bkA (((aR b a k (1 + n2)).1).conf) (((aR b a k (1 + n2)).1).index) (((aR b a k (1 + n2)).1).room) (.slice la17_4 (((aR b a k (1 + n2)).1).live.length) lc17_4) (.slice da17_4 (((aR b a k (1 + n2)).1).done.length) dc17_4) (((aR b a k (1 + n2)).1).modes)), .slice a21_45 ((liveV ((aR b a k (1 + n2)).1)).length) c21_45, .int .i64 ((liveV ((aR b a k (1 + n2)).1)).length), .agg (bkA b.conf b.index b.room (.slice la b.live.length lc) (.slice da b.done.length dc) b.modes), .slice a21_48 ((liveV b).length) c21_48, .int .i64 ((liveV b).length), .int .i64 (((liveV b).length : Int) - 2), .bool true, .bool true, .bool true] jx) (fun (LL : Nat → Bool) (xx : Option Addr × Nat × Option Addr × Nat × Option Addr × Nat × Option Addr × Nat) ww => match xx with | (a21_24, c21_24, a21_26, c21_26, a21_45, c21_45, a21_48, c21_48) => Hp [] wa ww (bif LL 24 then (bif LL 26 then (bif LL 45 then (bif LL 48 then [rS a21_48 c21_48 8 ((liveV b).map callRow), rS a21_45 c21_45 8 ((liveV ((aR b a k (1 + n2)).1)).map callRow), rS a21_26 c21_26 8 ((liveV ((aR b a k (1 + n2)).1)).map callRow), rS a21_24 c21_24 8 ((liveV ((aR b a k (1 + n2)).1)).map callRow), rB b36 40 (chL ((aW b a k (1 + n2)).2.1)), rB b35 33 (bkL (((aW b a k (1 + n2)).1).conf) (((aW b a k (1 + n2)).1).index) (((aW b a k (1 + n2)).1).room) (.slice la20_6 (((aW b a k (1 + n2)).1).live.length) lc20_6) (.slice da20_6 (((aW b a k (1 + n2)).1).done.length) dc20_6) (((aW b a k (1 + n2)).1).modes)), rS la20_6 lc20_6 9 (((aW b a k (1 + n2)).1).live.map rowOf), rS da20_6 dc20_6 8 (((aW b a k (1 + n2)).1).done.map callRow), rB b33 40 (chL ((aV b a k).2.1)), rB b32 33 (bkL (((aV b a k).1).conf) (((aV b a k).1).index) (((aV b a k).1).room) (.slice la19_4 (((aV b a k).1).live.length) lc19_4) (.slice da19_4 (((aV b a k).1).done.length) dc19_4) (((aV b a k).1).modes)), rS la19_4 lc19_4 9 (((aV b a k).1).live.map rowOf), rS da19_4 dc19_4 8 (((aV b a k).1).done.map callRow), rB b30 40 (chL ((aP b k).2.1)), rB b29 33 (bkL (((aP b k).1).conf) (((aP b k).1).index) (((aP b k).1).room) (.slice la18_4 (((aP b k).1).live.length) lc18_4) (.slice da18_4 (((aP b k).1).done.length) dc18_4) (((aP b k).1).modes)), rS la18_4 lc18_4 9 (((aP b k).1).live.map rowOf), rS da18_4 dc18_4 8 (((aP b k).1).done.map callRow), rB b27 40 (chL ((aR b a k (1 + n2)).2.1)), rB b26 33 (bkL (((aR b a k (1 + n2)).1).conf) (((aR b a k (1 + n2)).1).index) (((aR b a k (1 + n2)).1).room) (.slice la17_4 (((aR b a k (1 + n2)).1).live.length) lc17_4) (.slice da17_4 (((aR b a k (1 + n2)).1).done.length) dc17_4) (((aR b a k (1 + n2)).1).modes)), rS la17_4 lc17_4 9 (((aR b a k (1 + n2)).1).live.map rowOf), rS da17_4 dc17_4 8 (((aR b a k (1 + n2)).1).done.map callRow), rB b24 40 (chL ((aQ b a (1 + n2)).2.1)), rB b23 33 (bkL (((aQ b a (1 + n2)).1).conf) (((aQ b a (1 + n2)).1).index) (((aQ b a (1 + n2)).1).room) (.slice la16_6 (((aQ b a (1 + n2)).1).live.length) lc16_6) (.slice da16_6 (((aQ b a (1 + n2)).1).done.length) dc16_6) (((aQ b a (1 + n2)).1).modes)), rS la16_6 lc16_6 9 (((aQ b a (1 + n2)).1).live.map rowOf), rS da16_6 dc16_6 8 (((aQ b a (1 + n2)).1).done.map callRow), rB b21 40 (chL ((aP b a).2.1)), rB b20 33 (bkL (((aP b a).1).conf) (((aP b a).1).index) (((aP b a).1).room) (.slice la15_4 (((aP b a).1).live.length) lc15_4) (.slice da15_4 (((aP b a).1).done.length) dc15_4) (((aP b a).1).modes)), rS la15_4 lc15_4 9 (((aP b a).1).live.map rowOf), rS da15_4 dc15_4 8 (((aP b a).1).done.map callRow), rB b18 38 (xL ((findV b k).1)), rB b16 38 (xL ((findV b a).1)), rB b11 33 (bkL b.conf b.index b.room (.slice la b.live.length lc) (.slice da b.done.length dc) b.modes), rS la lc 9 (b.live.map rowOf), rS da dc 8 (b.done.map callRow), rB b5 24 (cL c), rS pa pc 22 (ds.map deedRow)] else [rS a21_45 c21_45 8 ((liveV ((aR b a k (1 + n2)).1)).map callRow), rS a21_26 c21_26 8 ((liveV ((aR b a k (1 + n2)).1)).map callRow), rS a21_24 c21_24 8 ((liveV ((aR b a k (1 + n2)).1)).map callRow), rB b36 40 (chL ((aW b a k (1 + n2)).2.1)), rB b35 33 (bkL (((aW b a k (1 + n2)).1).conf) (((aW b a k (1 + n2)).1).index) (((aW b a k (1 + n2)).1).room) (.slice la20_6 (((aW b a k (1 + n2)).1).live.length) lc20_6) (.slice da20_6 (((aW b a k (1 + n2)).1).done.length) dc20_6) (((aW b a k (1 + n2)).1).modes)), rS la20_6 lc20_6 9 (((aW b a k (1 + n2)).1).live.map rowOf), rS da20_6 dc20_6 8 (((aW b a k (1 + n2)).1).done.map callRow), rB b33 40 (chL ((aV b a k).2.1)), rB b32 33 (bkL (((aV b a k).1).conf) (((aV b a k).1).index) (((aV b a k).1).room) (.slice la19_4 (((aV b a k).1).live.length) lc19_4) (.slice da19_4 (((aV b a k).1).done.length) dc19_4) (((aV b a k).1).modes)), rS la19_4 lc19_4 9 (((aV b a k).1).live.map rowOf), rS da19_4 dc19_4 8 (((aV b a k).1).done.map callRow), rB b30 40 (chL ((aP b k).2.1)), rB b29 33 (bkL (((aP b k).1).conf) (((aP b k).1).index) (((aP b k).1).room) (.slice la18_4 (((aP b k).1).live.length) lc18_4) (.slice da18_4 (((aP b k).1).done.length) dc18_4) (((aP b k).1).modes)), rS la18_4 lc18_4 9 (((aP b k).1).live.map rowOf), rS da18_4 dc18_4 8 (((aP b k).1).done.map callRow), rB b27 40 (chL ((aR b a k (1 + n2)).2.1)), rB b26 33 (bkL (((aR b a k (1 + n2)).1).conf) (((aR b a k (1 + n2)).1).index) (((aR b a k (1 + n2)).1).room) (.slice la17_4 (((aR b a k (1 + n2)).1).live.length) lc17_4) (.slice da17_4 (((aR b a k (1 + n2)).1).done.length) dc17_4) (((aR b a k (1 + n2)).1).modes)), rS la17_4 lc17_4 9 (((aR b a k (1 + n2)).1).live.map rowOf), rS da17_4 dc17_4 8 (((aR b a k (1 + n2)).1).done.map callRow), rB b24 40 (chL ((aQ b a (1 + n2)).2.1)), rB b23 33 (bkL (((aQ b a (1 + n2)).1).conf) (((aQ b a (1 + n2)).1).index) (((aQ b a (1 + n2)).1).room) (.slice la16_6 (((aQ b a (1 + n2)).1).live.length) lc16_6) (.slice da16_6 (((aQ b a (1 + n2)).1).done.length) dc16_6) (((aQ b a (1 + n2)).1).modes)), rS la16_6 lc16_6 9 (((aQ b a (1 + n2)).1).live.map rowOf), rS da16_6 dc16_6 8 (((aQ b a (1 + n2)).1).done.map callRow), rB b21 40 (chL ((aP b a).2.1)), rB b20 33 (bkL (((aP b a).1).conf) (((aP b a).1).index) (((aP b a).1).room) (.slice la15_4 (((aP b a).1).live.length) lc15_4) (.slice da15_4 (((aP b a).1).done.length) dc15_4) (((aP b a).1).modes)), rS la15_4 lc15_4 9 (((aP b a).1).live.map rowOf), rS da15_4 dc15_4 8 (((aP b a).1).done.map callRow), rB b18 38 (xL ((findV b k).1)), rB b16 38 (xL ((findV b a).1)), rB b11 33 (bkL b.conf b.index b.room (.slice la b.live.length lc) (.slice da b.done.length dc) b.modes), rS la lc 9 (b.live.map rowOf), rS da dc 8 (b.done.map callRow), rB b5 24 (cL c), rS pa pc 22 (ds.map deedRow)]) else [rS a21_26 c21_26 8 ((liveV ((aR b a k (1 + n2)).1)).map callRow), rS a21_24 c21_24 8 ((liveV ((aR b a k (1 + n2)).1)).map callRow), rB b36 40 (chL ((aW b a k (1 + n2)).2.1)), rB b35 33 (bkL (((aW b a k (1 + n2)).1).conf) (((aW b a k (1 + n2)).1).index) (((aW b a k (1 + n2)).1).room) (.slice la20_6 (((aW b a k (1 + n2)).1).live.length) lc20_6) (.slice da20_6 (((aW b a k (1 + n2)).1).done.length) dc20_6) (((aW b a k (1 + n2)).1).modes)), rS la20_6 lc20_6 9 (((aW b a k (1 + n2)).1).live.map rowOf), rS da20_6 dc20_6 8 (((aW b a k (1 + n2)).1).done.map callRow), rB b33 40 (chL ((aV b a k).2.1)), rB b32 33 (bkL (((aV b a k).1).conf) (((aV b a k).1).index) (((aV b a k).1).room) (.slice la19_4 (((aV b a k).1).live.length) lc19_4) (.slice da19_4 (((aV b a k).1).done.length) dc19_4) (((aV b a k).1).modes)), rS la19_4 lc19_4 9 (((aV b a k).1).live.map rowOf), rS da19_4 dc19_4 8 (((aV b a k).1).done.map callRow), rB b30 40 (chL ((aP b k).2.1)), rB b29 33 (bkL (((aP b k).1).conf) (((aP b k).1).index) (((aP b k).1).room) (.slice la18_4 (((aP b k).1).live.length) lc18_4) (.slice da18_4 (((aP b k).1).done.length) dc18_4) (((aP b k).1).modes)), rS la18_4 lc18_4 9 (((aP b k).1).live.map rowOf), rS da18_4 dc18_4 8 (((aP b k).1).done.map callRow), rB b27 40 (chL ((aR b a k (1 + n2)).2.1)), rB b26 33 (bkL (((aR b a k (1 + n2)).1).conf) (((aR b a k (1 + n2)).1).index) (((aR b a k (1 + n2)).1).room) (.slice la17_4 (((aR b a k (1 + n2)).1).live.length) lc17_4) (.slice da17_4 (((aR b a k (1 + n2)).1).done.length) dc17_4) (((aR b a k (1 + n2)).1).modes)), rS la17_4 lc17_4 9 (((aR b a k (1 + n2)).1).live.map rowOf), rS da17_4 dc17_4 8 (((aR b a k (1 + n2)).1).done.map callRow), rB b24 40 (chL ((aQ b a (1 + n2)).2.1)), rB b23 33 (bkL (((aQ b a (1 + n2)).1).conf) (((aQ b a (1 + n2)).1).index) (((aQ b a (1 + n2)).1).room) (.slice la16_6 (((aQ b a (1 + n2)).1).live.length) lc16_6) (.slice da16_6 (((aQ b a (1 + n2)).1).done.length) dc16_6) (((aQ b a (1 + n2)).1).modes)), rS la16_6 lc16_6 9 (((aQ b a (1 + n2)).1).live.map rowOf), rS da16_6 dc16_6 8 (((aQ b a (1 + n2)).1).done.map callRow), rB b21 40 (chL ((aP b a).2.1)), rB b20 33 (bkL (((aP b a).1).conf) (((aP b a).1).index) (((aP b a).1).room) (.slice la15_4 (((aP b a).1).live.length) lc15_4) (.slice da15_4 (((aP b a).1).done.length) dc15_4) (((aP b a).1).modes)), rS la15_4 lc15_4 9 (((aP b a).1).live.map rowOf), rS da15_4 dc15_4 8 (((aP b a).1).done.map callRow), rB b18 38 (xL ((findV b k).1)), rB b16 38 (xL ((findV b a).1)), rB b11 33 (bkL b.conf b.index b.room (.slice la b.live.length lc) (.slice da b.done.length dc) b.modes), rS la lc 9 (b.live.map rowOf), rS da dc 8 (b.done.map callRow), rB b5 24 (cL c), rS pa pc 22 (ds.map deedRow)]) else [rS a21_24 c21_24 8 ((liveV ((aR b a k (1 + n2)).1)).map callRow), rB b36 40 (chL ((aW b a k (1 + n2)).2.1)), rB b35 33 (bkL (((aW b a k (1 + n2)).1).conf) (((aW b a k (1 + n2)).1).index) (((aW b a k (1 + n2)).1).room) (.slice la20_6 (((aW b a k (1 + n2)).1).live.length) lc20_6) (.slice da20_6 (((aW b a k (1 + n2)).1).done.length) dc20_6) (((aW b a k (1 + n2)).1).modes)), rS la20_6 lc20_6 9 (((aW b a k (1 + n2)).1).live.map rowOf), rS da20_6 dc20_6 8 (((aW b a k (1 + n2)).1).done.map callRow), rB b33 40 (chL ((aV b a k).2.1)), rB b32 33 (bkL (((aV b a k).1).conf) (((aV b a k).1).index) (((aV b a k).1).room) (.slice la19_4 (((aV b a k).1).live.length) lc19_4) (.slice da19_4 (((aV b a k).1).done.length) dc19_4) (((aV b a k).1).modes)), rS la19_4 lc19_4 9 (((aV b a k).1).live.map rowOf), rS da19_4 dc19_4 8 (((aV b a k).1).done.map callRow), rB b30 40 (chL ((aP b k).2.1)), rB b29 33 (bkL (((aP b k).1).conf) (((aP b k).1).index) (((aP b k).1).room) (.slice la18_4 (((aP b k).1).live.length) lc18_4) (.slice da18_4 (((aP b k).1).done.length) dc18_4) (((aP b k).1).modes)), rS la18_4 lc18_4 9 (((aP b k).1).live.map rowOf), rS da18_4 dc18_4 8 (((aP b k).1).done.map callRow), rB b27 40 (chL ((aR b a k (1 + n2)).2.1)), rB b26 33 (bkL (((aR b a k (1 + n2)).1).conf) (((aR b a k (1 + n2)).1).index) (((aR b a k (1 + n2)).1).room) (.slice la17_4 (((aR b a k (1 + n2)).1).live.length) lc17_4) (.slice da17_4 (((aR b a k (1 + n2)).1).done.length) dc17_4) (((aR b a k (1 + n2)).1).modes)), rS la17_4 lc17_4 9 (((aR b a k (1 + n2)).1).live.map rowOf), rS da17_4 dc17_4 8 (((aR b a k (1 + n2)).1).done.map callRow), rB b24 40 (chL ((aQ b a (1 + n2)).2.1)), rB b23 33 (bkL (((aQ b a (1 + n2)).1).conf) (((aQ b a (1 + n2)).1).index) (((aQ b a (1 + n2)).1).room) (.slice la16_6 (((aQ b a (1 + n2)).1).live.length) lc16_6) (.slice da16_6 (((aQ b a (1 + n2)).1).done.length) dc16_6) (((aQ b a (1 + n2)).1).modes)), rS la16_6 lc16_6 9 (((aQ b a (1 + n2)).1).live.map rowOf), rS da16_6 dc16_6 8 (((aQ b a (1 + n2)).1).done.map callRow), rB b21 40 (chL ((aP b a).2.1)), rB b20 33 (bkL (((aP b a).1).conf) (((aP b a).1).index) (((aP b a).1).room) (.slice la15_4 (((aP b a).1).live.length) lc15_4) (.slice da15_4 (((aP b a).1).done.length) dc15_4) (((aP b a).1).modes)), rS la15_4 lc15_4 9 (((aP b a).1).live.map rowOf), rS da15_4 dc15_4 8 (((aP b a).1).done.map callRow), rB b18 38 (xL ((findV b k).1)), rB b16 38 (xL ((findV b a).1)), rB b11 33 (bkL b.conf b.index b.room (.slice la b.live.length lc) (.slice da b.done.length dc) b.modes), rS la lc 9 (b.live.map rowOf), rS da dc 8 (b.done.map callRow), rB b5 24 (cL c), rS pa pc 22 (ds.map deedRow)]) else [rB b36 40 (chL ((aW b a k (1 + n2)).2.1)), rB b35 33 (bkL (((aW b a k (1 + n2)).1).conf) (((aW b a k (1 + n2)).1).index) (((aW b a k (1 + n2)).1).room) (.slice la20_6 (((aW b a k (1 + n2)).1).live.length) lc20_6) (.slice da20_6 (((aW b a k (1 + n2)).1).done.length) dc20_6) (((aW b a k (1 + n2)).1).modes)), rS la20_6 lc20_6 9 (((aW b a k (1 + n2)).1).live.map rowOf), rS da20_6 dc20_6 8 (((aW b a k (1 + n2)).1).done.map callRow), rB b33 40 (chL ((aV b a k).2.1)), rB b32 33 (bkL (((aV b a k).1).conf) (((aV b a k).1).index) (((aV b a k).1).room) (.slice la19_4 (((aV b a k).1).live.length) lc19_4) (.slice da19_4 (((aV b a k).1).done.length) dc19_4) (((aV b a k).1).modes)), rS la19_4 lc19_4 9 (((aV b a k).1).live.map rowOf), rS da19_4 dc19_4 8 (((aV b a k).1).done.map callRow), rB b30 40 (chL ((aP b k).2.1)), rB b29 33 (bkL (((aP b k).1).conf) (((aP b k).1).index) (((aP b k).1).room) (.slice la18_4 (((aP b k).1).live.length) lc18_4) (.slice da18_4 (((aP b k).1).done.length) dc18_4) (((aP b k).1).modes)), rS la18_4 lc18_4 9 (((aP b k).1).live.map rowOf), rS da18_4 dc18_4 8 (((aP b k).1).done.map callRow), rB b27 40 (chL ((aR b a k (1 + n2)).2.1)), rB b26 33 (bkL (((aR b a k (1 + n2)).1).conf) (((aR b a k (1 + n2)).1).index) (((aR b a k (1 + n2)).1).room) (.slice la17_4 (((aR b a k (1 + n2)).1).live.length) lc17_4) (.slice da17_4 (((aR b a k (1 + n2)).1).done.length) dc17_4) (((aR b a k (1 + n2)).1).modes)), rS la17_4 lc17_4 9 (((aR b a k (1 + n2)).1).live.map rowOf), rS da17_4 dc17_4 8 (((aR b a k (1 + n2)).1).done.map callRow), rB b24 40 (chL ((aQ b a (1 + n2)).2.1)), rB b23 33 (bkL (((aQ b a (1 + n2)).1).conf) (((aQ b a (1 + n2)).1).index) (((aQ b a (1 + n2)).1).room) (.slice la16_6 (((aQ b a (1 + n2)).1).live.length) lc16_6) (.slice da16_6 (((aQ b a (1 + n2)).1).done.length) dc16_6) (((aQ b a (1 + n2)).1).modes)), rS la16_6 lc16_6 9 (((aQ b a (1 + n2)).1).live.map rowOf), rS da16_6 dc16_6 8 (((aQ b a (1 + n2)).1).done.map callRow), rB b21 40 (chL ((aP b a).2.1)), rB b20 33 (bkL (((aP b a).1).conf) (((aP b a).1).index) (((aP b a).1).room) (.slice la15_4 (((aP b a).1).live.length) lc15_4) (.slice da15_4 (((aP b a).1).done.length) dc15_4) (((aP b a).1).modes)), rS la15_4 lc15_4 9 (((aP b a).1).live.map rowOf), rS da15_4 dc15_4 8 (((aP b a).1).done.map callRow), rB b18 38 (xL ((findV b k).1)), rB b16 38 (xL ((findV b a).1)), rB b11 33 (bkL b.conf b.index b.room (.slice la b.live.length lc) (.slice da b.done.length dc) b.modes), rS la lc 9 (b.live.map rowOf), rS da dc 8 (b.done.map callRow), rB b5 24 (cL c), rS pa pc 22 (ds.map deedRow)])) (default, default, default, default, default, default, default, default) H.out.drew ?_ (steps_al ?_) ?_ ?_
  · intro L1 L2 xx ww hL sg
    have lh24 := hL 24 (by decide)
    have lh26 := hL 26 (by decide)
    have lh45 := hL 45 (by decide)
    have lh48 := hL 48 (by decide)
    simp only [lh24, lh26, lh45, lh48] at sg
    exact sg
  · refine al_cons ?_ (al_cons ?_ (al_cons ?_ (al_cons ?_ (al_cons ?_ (al_cons ?_ (al_cons ?_ (al_cons ?_ (al_cons ?_ (al_cons ?_ (al_cons ?_ (al_cons ?_ (al_cons ?_ (al_cons ?_ (al_cons ?_ (al_cons ?_ (al_cons ?_ (al_cons ?_ (al_cons ?_ (al_cons ?_ (al_cons ?_ (al_cons ?_ (al_cons ?_ (al_cons ?_ (al_cons ?_ (al_cons ?_ (al_cons ?_ (al_cons ?_ (al_cons ?_ (al_cons ?_ (al_cons ?_ (al_cons ?_ (al_cons ?_ (al_cons ?_ (al_cons ?_ (al_cons ?_ (al_cons ?_ (al_cons ?_ (al_cons ?_ (al_cons ?_ (al_cons ?_ (al_cons ?_ (al_cons ?_ (al_cons ?_ (al_cons ?_ (al_cons ?_ (al_cons ?_ (al_cons ?_ (al_cons ?_ (al_cons ?_ (al_cons ?_ (al_cons ?_ (al_cons ?_ (al_cons ?_ (al_nil))))))))))))))))))))))))))))))))))))))))))))))))))))))
    · intro LL xx ac wc sg hst hwant QQ hgo
      obtain ⟨a21_24, c21_24, a21_26, c21_26, a21_45, c21_45, a21_48, c21_48⟩ := xx
      exact op_val hwant hgo hst _ (exec_move rfl ((sg.free 22 (by kernel_rfl)).trans so22)) rfl
    · intro LL xx ac wc sg hst hwant QQ hgo
      obtain ⟨a21_24, c21_24, a21_26, c21_26, a21_45, c21_45, a21_48, c21_48⟩ := xx
      have se171 : ac.eval (.tmp 171) = _ := (sg.slot 0 (sg.anc 0 rfl))
      have sg171 := gt_of se171
      (try simp only [nth] at se171 sg171)
      exact op_val hwant hgo hst _ (by simp only [execOp, nth]; go_simp <;> omega) rfl
    · intro LL xx ac wc sg hst hwant QQ hgo
      obtain ⟨a21_24, c21_24, a21_26, c21_26, a21_45, c21_45, a21_48, c21_48⟩ := xx
      exact op_val hwant hgo hst _ (exec_move rfl (sg.slot 1 (sg.anc 1 rfl))) rfl
    · intro LL xx ac wc sg hst hwant QQ hgo
      obtain ⟨a21_24, c21_24, a21_26, c21_26, a21_45, c21_45, a21_48, c21_48⟩ := xx
      exact op_val hwant hgo hst _ (exec_move rfl ((sg.free 25 (by kernel_rfl)).trans so25)) rfl
    · intro LL xx ac wc sg hst hwant QQ hgo
      obtain ⟨a21_24, c21_24, a21_26, c21_26, a21_45, c21_45, a21_48, c21_48⟩ := xx
      have se174 : ac.eval (.tmp 174) = _ := (sg.slot 3 (sg.anc 3 rfl))
      have sg174 := gt_of se174
      (try simp only [nth] at se174 sg174)
      exact op_val hwant hgo hst _ (by simp only [execOp, nth]; go_simp <;> omega) rfl
    · intro LL xx ac wc sg hst hwant QQ hgo
      obtain ⟨a21_24, c21_24, a21_26, c21_26, a21_45, c21_45, a21_48, c21_48⟩ := xx
      exact op_val hwant hgo hst (.bool true) (exec_pick (B := true) (U := .bool true) (V := undef) rfl (sg.slot 2 (sg.anc 2 rfl)) (fun _ => (sg.slot 4 (sg.anc 4 rfl))) (fun h => by cases h)) rfl
    · intro LL xx ac wc sg hst hwant QQ hgo
      obtain ⟨a21_24, c21_24, a21_26, c21_26, a21_45, c21_45, a21_48, c21_48⟩ := xx
      exact op_val hwant hgo hst _ (exec_move rfl (sg.slot 5 (sg.anc 5 rfl))) rfl
    · intro LL xx ac wc sg hst hwant QQ hgo
      obtain ⟨a21_24, c21_24, a21_26, c21_26, a21_45, c21_45, a21_48, c21_48⟩ := xx
      exact op_val hwant hgo hst _ (exec_move rfl ((sg.free 28 (by kernel_rfl)).trans so28)) rfl
    · intro LL xx ac wc sg hst hwant QQ hgo
      obtain ⟨a21_24, c21_24, a21_26, c21_26, a21_45, c21_45, a21_48, c21_48⟩ := xx
      have se178 : ac.eval (.tmp 178) = _ := (sg.slot 7 (sg.anc 7 rfl))
      have sg178 := gt_of se178
      (try simp only [nth] at se178 sg178)
      exact op_val hwant hgo hst _ (by simp only [execOp, nth]; go_simp <;> omega) rfl
    · intro LL xx ac wc sg hst hwant QQ hgo
      obtain ⟨a21_24, c21_24, a21_26, c21_26, a21_45, c21_45, a21_48, c21_48⟩ := xx
      exact op_val hwant hgo hst (.bool true) (exec_pick (B := true) (U := .bool true) (V := undef) rfl (sg.slot 6 (sg.anc 6 rfl)) (fun _ => (sg.slot 8 (sg.anc 8 rfl))) (fun h => by cases h)) rfl
    · intro LL xx ac wc sg hst hwant QQ hgo
      obtain ⟨a21_24, c21_24, a21_26, c21_26, a21_45, c21_45, a21_48, c21_48⟩ := xx
      exact op_val hwant hgo hst _ (exec_move rfl (sg.slot 9 (sg.anc 9 rfl))) rfl
    · intro LL xx ac wc sg hst hwant QQ hgo
      obtain ⟨a21_24, c21_24, a21_26, c21_26, a21_45, c21_45, a21_48, c21_48⟩ := xx
      exact op_val hwant hgo hst _ (exec_move rfl ((sg.free 31 (by kernel_rfl)).trans so31)) rfl
    · intro LL xx ac wc sg hst hwant QQ hgo
      obtain ⟨a21_24, c21_24, a21_26, c21_26, a21_45, c21_45, a21_48, c21_48⟩ := xx
      have se182 : ac.eval (.tmp 182) = _ := (sg.slot 11 (sg.anc 11 rfl))
      have sg182 := gt_of se182
      (try simp only [nth] at se182 sg182)
      exact op_val hwant hgo hst _ (by simp only [execOp, nth]; go_simp <;> omega) rfl
    · intro LL xx ac wc sg hst hwant QQ hgo
      obtain ⟨a21_24, c21_24, a21_26, c21_26, a21_45, c21_45, a21_48, c21_48⟩ := xx
      exact op_val hwant hgo hst (.bool true) (exec_pick (B := true) (U := .bool true) (V := undef) rfl (sg.slot 10 (sg.anc 10 rfl)) (fun _ => (sg.slot 12 (sg.anc 12 rfl))) (fun h => by cases h)) rfl
    · intro LL xx ac wc sg hst hwant QQ hgo
      obtain ⟨a21_24, c21_24, a21_26, c21_26, a21_45, c21_45, a21_48, c21_48⟩ := xx
      exact op_val hwant hgo hst _ (exec_move rfl (sg.slot 13 (sg.anc 13 rfl))) rfl
    · intro LL xx ac wc sg hst hwant QQ hgo
      obtain ⟨a21_24, c21_24, a21_26, c21_26, a21_45, c21_45, a21_48, c21_48⟩ := xx
      exact op_val hwant hgo hst _ (exec_move rfl ((sg.free 34 (by kernel_rfl)).trans so34)) rfl
    · intro LL xx ac wc sg hst hwant QQ hgo
      obtain ⟨a21_24, c21_24, a21_26, c21_26, a21_45, c21_45, a21_48, c21_48⟩ := xx
      have se186 : ac.eval (.tmp 186) = _ := (sg.slot 15 (sg.anc 15 rfl))
      have sg186 := gt_of se186
      (try simp only [nth] at se186 sg186)
      exact op_val hwant hgo hst _ (by simp only [execOp, nth]; go_simp <;> omega) rfl
    · intro LL xx ac wc sg hst hwant QQ hgo
      obtain ⟨a21_24, c21_24, a21_26, c21_26, a21_45, c21_45, a21_48, c21_48⟩ := xx
      exact op_val hwant hgo hst (.bool true) (exec_pick (B := true) (U := .bool true) (V := undef) rfl (sg.slot 14 (sg.anc 14 rfl)) (fun _ => (sg.slot 16 (sg.anc 16 rfl))) (fun h => by cases h)) rfl
    · intro LL xx ac wc sg hst hwant QQ hgo
      obtain ⟨a21_24, c21_24, a21_26, c21_26, a21_45, c21_45, a21_48, c21_48⟩ := xx
      exact op_val hwant hgo hst _ (exec_move rfl (sg.slot 17 (sg.anc 17 rfl))) rfl
    · intro LL xx ac wc sg hst hwant QQ hgo
      obtain ⟨a21_24, c21_24, a21_26, c21_26, a21_45, c21_45, a21_48, c21_48⟩ := xx
      exact op_val hwant hgo hst _ (exec_move rfl ((sg.free 37 (by kernel_rfl)).trans so37)) rfl
    · intro LL xx ac wc sg hst hwant QQ hgo
      obtain ⟨a21_24, c21_24, a21_26, c21_26, a21_45, c21_45, a21_48, c21_48⟩ := xx
      have se190 : ac.eval (.tmp 190) = _ := (sg.slot 19 (sg.anc 19 rfl))
      have sg190 := gt_of se190
      (try simp only [nth] at se190 sg190)
      exact op_val hwant hgo hst _ (by simp only [execOp, nth]; go_simp <;> omega) rfl
    · intro LL xx ac wc sg hst hwant QQ hgo
      obtain ⟨a21_24, c21_24, a21_26, c21_26, a21_45, c21_45, a21_48, c21_48⟩ := xx
      exact op_val hwant hgo hst (.bool true) (exec_pick (B := true) (U := .bool true) (V := undef) rfl (sg.slot 18 (sg.anc 18 rfl)) (fun _ => (sg.slot 20 (sg.anc 20 rfl))) (fun h => by cases h)) rfl
    · intro LL xx ac wc sg hst hwant QQ hgo
      obtain ⟨a21_24, c21_24, a21_26, c21_26, a21_45, c21_45, a21_48, c21_48⟩ := xx
      exact op_val hwant hgo hst _ (exec_move rfl (sg.slot 21 (sg.anc 21 rfl))) rfl
    · intro LL xx ac wc sg hst hwant QQ hgo
      obtain ⟨a21_24, c21_24, a21_26, c21_26, a21_45, c21_45, a21_48, c21_48⟩ := xx
      have H := Lib.hid hst
      simp only [sg.des 24 rfl, sg.des 26 rfl, sg.des 45 rfl, sg.des 48 rfl, cond_true, cond_false] at H
      refine hpA_load tybook_Book H rfl ((sg.free 26 (by kernel_rfl)).trans so26) hwant (by (repeat (first | exact List.Mem.head _ | apply List.Mem.tail))) (by rfl) rfl ?_
      exact hgo _ (a21_24, c21_24, a21_26, c21_26, a21_45, c21_45, a21_48, c21_48) _ (fun _ _ => rfl) rfl hst
    · intro LL xx ac wc sg hst hwant QQ hgo
      obtain ⟨_, _, a21_26, c21_26, a21_45, c21_45, a21_48, c21_48⟩ := xx
      have se194 : ac.eval (.tmp 194) = _ := (sg.slot 23 (sg.anc 23 rfl))
      have sg194 := gt_of se194
      (try simp only [nth] at se194 sg194)
      have H := Lib.hid hst
      simp only [sg.self, sg.des 26 rfl, sg.des 45 rfl, sg.des 48 rfl, cond_true, cond_false] at H
      refine op_call hwant hgo 12 #[.agg (bkA (((aR b a k (1 + n2)).1).conf) (((aR b a k (1 + n2)).1).index) (((aR b a k (1 + n2)).1).room) (.slice la17_4 (((aR b a k (1 + n2)).1).live.length) lc17_4) (.slice da17_4 (((aR b a k (1 + n2)).1).done.length) dc17_4) (((aR b a k (1 + n2)).1).modes))] (by simp only [execOp]; go_simp) (liveC ((aR b a k (1 + n2)).1) la17_4 lc17_4 da17_4 dc17_4 wc (hp_held H (by (repeat (first | exact List.Mem.head _ | apply List.Mem.tail)))) (hp_held H (by (repeat (first | exact List.Mem.head _ | apply List.Mem.tail)))) (Lib.hid h_ir.out.ok)) ?_
      rintro er wd ⟨a21_24, c21_24, rfl, hgv⟩
      have H2 := hp_got H (Rs := []) hgv.2.2 hgv.1 (by decide) (From.new hgv.2.1) (fun r hr => by cases hr)
      exact ⟨_, (a21_24, c21_24, a21_26, c21_26, a21_45, c21_45, a21_48, c21_48), rfl, (sg.agree (x' := (a21_24, c21_24, a21_26, c21_26, a21_45, c21_45, a21_48, c21_48)) (n := 54) rfl (by (iterate 54 (refine ix_cons (by first | exact fun _ => rfl | exact no sg.self | exact no (sg.des _ rfl)) ?_)); exact ix_nil)), rfl, (by simp only [(show upd LL 24 24 = true from rfl), (show upd LL 24 26 = LL 26 from rfl), sg.des 26 rfl, (show upd LL 24 45 = LL 45 from rfl), sg.des 45 rfl, (show upd LL 24 48 = LL 48 from rfl), sg.des 48 rfl, cond_true, cond_false]; exact H2.out)⟩
    · intro LL xx ac wc sg hst hwant QQ hgo
      obtain ⟨a21_24, c21_24, a21_26, c21_26, a21_45, c21_45, a21_48, c21_48⟩ := xx
      rcases Bool.eq_false_or_eq_true (LL 24) with lh24 | lh24
      · skip
        have H := Lib.hid hst
        simp only [lh24, sg.des 26 rfl, sg.des 45 rfl, sg.des 48 rfl, cond_true, cond_false] at H
        refine hpA_load tybook_Book H rfl ((sg.free 35 (by kernel_rfl)).trans so35) hwant (by (repeat (first | exact List.Mem.head _ | apply List.Mem.tail))) (by rfl) rfl ?_
        exact hgo _ (a21_24, c21_24, a21_26, c21_26, a21_45, c21_45, a21_48, c21_48) _ (fun _ _ => rfl) rfl hst
      · skip
        have H := Lib.hid hst
        simp only [lh24, sg.des 26 rfl, sg.des 45 rfl, sg.des 48 rfl, cond_true, cond_false] at H
        refine hpA_load tybook_Book H rfl ((sg.free 35 (by kernel_rfl)).trans so35) hwant (by (repeat (first | exact List.Mem.head _ | apply List.Mem.tail))) (by rfl) rfl ?_
        exact hgo _ (a21_24, c21_24, a21_26, c21_26, a21_45, c21_45, a21_48, c21_48) _ (fun _ _ => rfl) rfl hst
    · intro LL xx ac wc sg hst hwant QQ hgo
      obtain ⟨a21_24, c21_24, _, _, a21_45, c21_45, a21_48, c21_48⟩ := xx
      have se196 : ac.eval (.tmp 196) = _ := (sg.slot 25 (sg.anc 25 rfl))
      have sg196 := gt_of se196
      (try simp only [nth] at se196 sg196)
      have H := Lib.hid hst
      simp only [sg.anc 24 rfl, sg.self, sg.des 45 rfl, sg.des 48 rfl, cond_true, cond_false] at H
      refine op_call hwant hgo 12 #[.agg (bkA (((aW b a k (1 + n2)).1).conf) (((aW b a k (1 + n2)).1).index) (((aW b a k (1 + n2)).1).room) (.slice la20_6 (((aW b a k (1 + n2)).1).live.length) lc20_6) (.slice da20_6 (((aW b a k (1 + n2)).1).done.length) dc20_6) (((aW b a k (1 + n2)).1).modes))] (by simp only [execOp]; go_simp) (by have h := liveC ((aW b a k (1 + n2)).1) la20_6 lc20_6 da20_6 dc20_6 wc (hp_held H (by (repeat (first | exact List.Mem.head _ | apply List.Mem.tail)))) (hp_held H (by (repeat (first | exact List.Mem.head _ | apply List.Mem.tail)))) (Lib.hid h_iw.out.ok); rw [hlw] at h; exact h) ?_
      rintro er wd ⟨a21_26, c21_26, rfl, hgv⟩
      have H2 := hp_got H (Rs := []) hgv.2.2 hgv.1 (by decide) (From.new hgv.2.1) (fun r hr => by cases hr)
      exact ⟨_, (a21_24, c21_24, a21_26, c21_26, a21_45, c21_45, a21_48, c21_48), rfl, (sg.agree (x' := (a21_24, c21_24, a21_26, c21_26, a21_45, c21_45, a21_48, c21_48)) (n := 54) rfl (by (iterate 54 (refine ix_cons (by first | exact fun _ => rfl | exact no sg.self | exact no (sg.des _ rfl)) ?_)); exact ix_nil)), rfl, (by simp only [(show upd LL 26 24 = LL 24 from rfl), sg.anc 24 rfl, (show upd LL 26 26 = true from rfl), (show upd LL 26 45 = LL 45 from rfl), sg.des 45 rfl, (show upd LL 26 48 = LL 48 from rfl), sg.des 48 rfl, cond_true, cond_false]; exact H2.out)⟩
    · intro LL xx ac wc sg hst hwant QQ hgo
      obtain ⟨a21_24, c21_24, a21_26, c21_26, a21_45, c21_45, a21_48, c21_48⟩ := xx
      have se195 : ac.eval (.tmp 195) = _ := (sg.slot 24 (sg.anc 24 rfl))
      have sg195 := gt_of se195
      have se197 : ac.eval (.tmp 197) = _ := (sg.slot 26 (sg.anc 26 rfl))
      have sg197 := gt_of se197
      (try simp only [nth] at se195 sg195 se197 sg197)
      have H := Lib.hid hst
      simp only [sg.anc 24 rfl, sg.anc 26 rfl, sg.des 45 rfl, sg.des 48 rfl, cond_true, cond_false] at H
      refine op_call hwant hgo 21 #[.slice a21_24 ((liveV ((aR b a k (1 + n2)).1)).length) c21_24, .slice a21_26 ((liveV ((aR b a k (1 + n2)).1)).length) c21_26] (by simp only [execOp]; go_simp) (callsT a21_24 c21_24 a21_26 c21_26 (liveV ((aR b a k (1 + n2)).1)) wc (hp_held H (by (repeat (first | exact List.Mem.head _ | apply List.Mem.tail)))) (hp_held H (by (repeat (first | exact List.Mem.head _ | apply List.Mem.tail)))) (by omega)) ?_
      rintro er wd ⟨rfl, hof⟩
      exact ⟨_, (a21_24, c21_24, a21_26, c21_26, a21_45, c21_45, a21_48, c21_48), rfl, fun _ _ => rfl, rfl, Hp.quiet hst hof⟩
    · intro LL xx ac wc sg hst hwant QQ hgo
      obtain ⟨a21_24, c21_24, a21_26, c21_26, a21_45, c21_45, a21_48, c21_48⟩ := xx
      exact op_val hwant hgo hst (.bool true) (exec_pick (B := true) (U := .bool true) (V := undef) rfl (sg.slot 22 (sg.anc 22 rfl)) (fun _ => (sg.slot 27 (sg.anc 27 rfl))) (fun h => by cases h)) rfl
    · intro LL xx ac wc sg hst hwant QQ hgo
      obtain ⟨a21_24, c21_24, a21_26, c21_26, a21_45, c21_45, a21_48, c21_48⟩ := xx
      exact op_val hwant hgo hst _ (exec_move rfl (sg.slot 28 (sg.anc 28 rfl))) rfl
    · intro LL xx ac wc sg hst hwant QQ hgo
      obtain ⟨a21_24, c21_24, a21_26, c21_26, a21_45, c21_45, a21_48, c21_48⟩ := xx
      have H := Lib.hid hst
      simp only [sg.anc 24 rfl, sg.anc 26 rfl, sg.des 45 rfl, sg.des 48 rfl, cond_true, cond_false] at H
      refine hpA_load tybook_Book H rfl ((sg.free 26 (by kernel_rfl)).trans so26) hwant (by (repeat (first | exact List.Mem.head _ | apply List.Mem.tail))) (by rfl) rfl ?_
      exact hgo _ (a21_24, c21_24, a21_26, c21_26, a21_45, c21_45, a21_48, c21_48) _ (fun _ _ => rfl) rfl hst
    · intro LL xx ac wc sg hst hwant QQ hgo
      obtain ⟨a21_24, c21_24, a21_26, c21_26, a21_45, c21_45, a21_48, c21_48⟩ := xx
      have se201 : ac.eval (.tmp 201) = _ := (sg.slot 30 (sg.anc 30 rfl))
      have sg201 := gt_of se201
      (try simp only [nth] at se201 sg201)
      have H := Lib.hid hst
      simp only [sg.anc 24 rfl, sg.anc 26 rfl, sg.des 45 rfl, sg.des 48 rfl, cond_true, cond_false] at H
      refine op_call hwant hgo 11 #[.agg (bkA (((aR b a k (1 + n2)).1).conf) (((aR b a k (1 + n2)).1).index) (((aR b a k (1 + n2)).1).room) (.slice la17_4 (((aR b a k (1 + n2)).1).live.length) lc17_4) (.slice da17_4 (((aR b a k (1 + n2)).1).done.length) dc17_4) (((aR b a k (1 + n2)).1).modes))] (by simp only [execOp]; go_simp) (indexC ((aR b a k (1 + n2)).1) la17_4 lc17_4 da17_4 dc17_4  wc (hp_held H (by (repeat (first | exact List.Mem.head _ | apply List.Mem.tail)))) (hp_held H (by (repeat (first | exact List.Mem.head _ | apply List.Mem.tail)))) (Lib.hid h_ir.out.ok)) ?_
      rintro er wd ⟨rfl, hof⟩
      exact ⟨_, (a21_24, c21_24, a21_26, c21_26, a21_45, c21_45, a21_48, c21_48), rfl, fun _ _ => rfl, rfl, Hp.quiet hst hof⟩
    · intro LL xx ac wc sg hst hwant QQ hgo
      obtain ⟨a21_24, c21_24, a21_26, c21_26, a21_45, c21_45, a21_48, c21_48⟩ := xx
      have H := Lib.hid hst
      simp only [sg.anc 24 rfl, sg.anc 26 rfl, sg.des 45 rfl, sg.des 48 rfl, cond_true, cond_false] at H
      refine hpA_load tybook_Book H rfl ((sg.free 35 (by kernel_rfl)).trans so35) hwant (by (repeat (first | exact List.Mem.head _ | apply List.Mem.tail))) (by rfl) rfl ?_
      exact hgo _ (a21_24, c21_24, a21_26, c21_26, a21_45, c21_45, a21_48, c21_48) _ (fun _ _ => rfl) rfl hst
    · intro LL xx ac wc sg hst hwant QQ hgo
      obtain ⟨a21_24, c21_24, a21_26, c21_26, a21_45, c21_45, a21_48, c21_48⟩ := xx
      have se203 : ac.eval (.tmp 203) = _ := (sg.slot 32 (sg.anc 32 rfl))
      have sg203 := gt_of se203
      (try simp only [nth] at se203 sg203)
      have H := Lib.hid hst
      simp only [sg.anc 24 rfl, sg.anc 26 rfl, sg.des 45 rfl, sg.des 48 rfl, cond_true, cond_false] at H
      refine op_call hwant hgo 11 #[.agg (bkA (((aW b a k (1 + n2)).1).conf) (((aW b a k (1 + n2)).1).index) (((aW b a k (1 + n2)).1).room) (.slice la20_6 (((aW b a k (1 + n2)).1).live.length) lc20_6) (.slice da20_6 (((aW b a k (1 + n2)).1).done.length) dc20_6) (((aW b a k (1 + n2)).1).modes))] (by simp only [execOp]; go_simp) (indexC ((aW b a k (1 + n2)).1) la20_6 lc20_6 da20_6 dc20_6  wc (hp_held H (by (repeat (first | exact List.Mem.head _ | apply List.Mem.tail)))) (hp_held H (by (repeat (first | exact List.Mem.head _ | apply List.Mem.tail)))) (Lib.hid h_iw.out.ok)) ?_
      rintro er wd ⟨rfl, hof⟩
      exact ⟨_, (a21_24, c21_24, a21_26, c21_26, a21_45, c21_45, a21_48, c21_48), rfl, fun _ _ => rfl, rfl, Hp.quiet hst hof⟩
    · intro LL xx ac wc sg hst hwant QQ hgo
      obtain ⟨a21_24, c21_24, a21_26, c21_26, a21_45, c21_45, a21_48, c21_48⟩ := xx
      have se202 : ac.eval (.tmp 202) = _ := (sg.slot 31 (sg.anc 31 rfl))
      have sg202 := gt_of se202
      have se204 : ac.eval (.tmp 204) = _ := (sg.slot 33 (sg.anc 33 rfl))
      have sg204 := gt_of se204
      (try simp only [nth] at se202 sg202 se204 sg204)
      exact op_val hwant hgo hst _ (by simp only [execOp, nth]; go_simp <;> omega) rfl
    · intro LL xx ac wc sg hst hwant QQ hgo
      obtain ⟨a21_24, c21_24, a21_26, c21_26, a21_45, c21_45, a21_48, c21_48⟩ := xx
      exact op_val hwant hgo hst (.bool true) (exec_pick (B := true) (U := .bool true) (V := undef) rfl (sg.slot 29 (sg.anc 29 rfl)) (fun _ => (sg.slot 34 (sg.anc 34 rfl))) (fun h => by cases h)) rfl
    · intro LL xx ac wc sg hst hwant QQ hgo
      obtain ⟨a21_24, c21_24, a21_26, c21_26, a21_45, c21_45, a21_48, c21_48⟩ := xx
      exact op_val hwant hgo hst _ (exec_move rfl (sg.slot 35 (sg.anc 35 rfl))) rfl
    · intro LL xx ac wc sg hst hwant QQ hgo
      obtain ⟨a21_24, c21_24, a21_26, c21_26, a21_45, c21_45, a21_48, c21_48⟩ := xx
      have H := Lib.hid hst
      simp only [sg.anc 24 rfl, sg.anc 26 rfl, sg.des 45 rfl, sg.des 48 rfl, cond_true, cond_false] at H
      refine hpA_load tybook_Book H rfl ((sg.free 26 (by kernel_rfl)).trans so26) hwant (by (repeat (first | exact List.Mem.head _ | apply List.Mem.tail))) (by rfl) rfl ?_
      exact hgo _ (a21_24, c21_24, a21_26, c21_26, a21_45, c21_45, a21_48, c21_48) _ (fun _ _ => rfl) rfl hst
    · intro LL xx ac wc sg hst hwant QQ hgo
      obtain ⟨a21_24, c21_24, a21_26, c21_26, a21_45, c21_45, a21_48, c21_48⟩ := xx
      have se208 : ac.eval (.tmp 208) = _ := (sg.slot 37 (sg.anc 37 rfl))
      have sg208 := gt_of se208
      (try simp only [nth] at se208 sg208)
      have H := Lib.hid hst
      simp only [sg.anc 24 rfl, sg.anc 26 rfl, sg.des 45 rfl, sg.des 48 rfl, cond_true, cond_false] at H
      refine op_call hwant hgo 22 #[.agg (bkA (((aR b a k (1 + n2)).1).conf) (((aR b a k (1 + n2)).1).index) (((aR b a k (1 + n2)).1).room) (.slice la17_4 (((aR b a k (1 + n2)).1).live.length) lc17_4) (.slice da17_4 (((aR b a k (1 + n2)).1).done.length) dc17_4) (((aR b a k (1 + n2)).1).modes)), .int .i64 1] (by simp only [execOp]; go_simp) (modeC ((aR b a k (1 + n2)).1) la17_4 lc17_4 da17_4 dc17_4 1 wc (hp_held H (by (repeat (first | exact List.Mem.head _ | apply List.Mem.tail)))) (hp_held H (by (repeat (first | exact List.Mem.head _ | apply List.Mem.tail)))) (Lib.hid h_ir.out.ok)) ?_
      rintro er wd ⟨rfl, hof⟩
      exact ⟨_, (a21_24, c21_24, a21_26, c21_26, a21_45, c21_45, a21_48, c21_48), rfl, fun _ _ => rfl, rfl, Hp.quiet hst hof⟩
    · intro LL xx ac wc sg hst hwant QQ hgo
      obtain ⟨a21_24, c21_24, a21_26, c21_26, a21_45, c21_45, a21_48, c21_48⟩ := xx
      have H := Lib.hid hst
      simp only [sg.anc 24 rfl, sg.anc 26 rfl, sg.des 45 rfl, sg.des 48 rfl, cond_true, cond_false] at H
      refine hpA_load tybook_Book H rfl ((sg.free 35 (by kernel_rfl)).trans so35) hwant (by (repeat (first | exact List.Mem.head _ | apply List.Mem.tail))) (by rfl) rfl ?_
      exact hgo _ (a21_24, c21_24, a21_26, c21_26, a21_45, c21_45, a21_48, c21_48) _ (fun _ _ => rfl) rfl hst
    · intro LL xx ac wc sg hst hwant QQ hgo
      obtain ⟨a21_24, c21_24, a21_26, c21_26, a21_45, c21_45, a21_48, c21_48⟩ := xx
      have se210 : ac.eval (.tmp 210) = _ := (sg.slot 39 (sg.anc 39 rfl))
      have sg210 := gt_of se210
      (try simp only [nth] at se210 sg210)
      have H := Lib.hid hst
      simp only [sg.anc 24 rfl, sg.anc 26 rfl, sg.des 45 rfl, sg.des 48 rfl, cond_true, cond_false] at H
      refine op_call hwant hgo 22 #[.agg (bkA (((aW b a k (1 + n2)).1).conf) (((aW b a k (1 + n2)).1).index) (((aW b a k (1 + n2)).1).room) (.slice la20_6 (((aW b a k (1 + n2)).1).live.length) lc20_6) (.slice da20_6 (((aW b a k (1 + n2)).1).done.length) dc20_6) (((aW b a k (1 + n2)).1).modes)), .int .i64 1] (by simp only [execOp]; go_simp) (by have h := modeC ((aW b a k (1 + n2)).1) la20_6 lc20_6 da20_6 dc20_6 1 wc (hp_held H (by (repeat (first | exact List.Mem.head _ | apply List.Mem.tail)))) (hp_held H (by (repeat (first | exact List.Mem.head _ | apply List.Mem.tail)))) (Lib.hid h_iw.out.ok); rw [hmw] at h; exact h) ?_
      rintro er wd ⟨rfl, hof⟩
      exact ⟨_, (a21_24, c21_24, a21_26, c21_26, a21_45, c21_45, a21_48, c21_48), rfl, fun _ _ => rfl, rfl, Hp.quiet hst hof⟩
    · intro LL xx ac wc sg hst hwant QQ hgo
      obtain ⟨a21_24, c21_24, a21_26, c21_26, a21_45, c21_45, a21_48, c21_48⟩ := xx
      have se209 : ac.eval (.tmp 209) = _ := (sg.slot 38 (sg.anc 38 rfl))
      have sg209 := gt_of se209
      have se211 : ac.eval (.tmp 211) = _ := (sg.slot 40 (sg.anc 40 rfl))
      have sg211 := gt_of se211
      (try simp only [nth] at se209 sg209 se211 sg211)
      exact op_val hwant hgo hst _ (by simp only [execOp, nth]; go_simp <;> omega) rfl
    · intro LL xx ac wc sg hst hwant QQ hgo
      obtain ⟨a21_24, c21_24, a21_26, c21_26, a21_45, c21_45, a21_48, c21_48⟩ := xx
      exact op_val hwant hgo hst (.bool true) (exec_pick (B := true) (U := .bool true) (V := undef) rfl (sg.slot 36 (sg.anc 36 rfl)) (fun _ => (sg.slot 41 (sg.anc 41 rfl))) (fun h => by cases h)) rfl
    · intro LL xx ac wc sg hst hwant QQ hgo
      obtain ⟨a21_24, c21_24, a21_26, c21_26, a21_45, c21_45, a21_48, c21_48⟩ := xx
      exact op_val hwant hgo hst _ (exec_move rfl (sg.slot 42 (sg.anc 42 rfl))) rfl
    · intro LL xx ac wc sg hst hwant QQ hgo
      obtain ⟨a21_24, c21_24, a21_26, c21_26, a21_45, c21_45, a21_48, c21_48⟩ := xx
      have H := Lib.hid hst
      simp only [sg.anc 24 rfl, sg.anc 26 rfl, sg.des 45 rfl, sg.des 48 rfl, cond_true, cond_false] at H
      refine hpA_load tybook_Book H rfl ((sg.free 26 (by kernel_rfl)).trans so26) hwant (by (repeat (first | exact List.Mem.head _ | apply List.Mem.tail))) (by rfl) rfl ?_
      exact hgo _ (a21_24, c21_24, a21_26, c21_26, a21_45, c21_45, a21_48, c21_48) _ (fun _ _ => rfl) rfl hst
    · intro LL xx ac wc sg hst hwant QQ hgo
      obtain ⟨a21_24, c21_24, a21_26, c21_26, _, _, a21_48, c21_48⟩ := xx
      have se215 : ac.eval (.tmp 215) = _ := (sg.slot 44 (sg.anc 44 rfl))
      have sg215 := gt_of se215
      (try simp only [nth] at se215 sg215)
      have H := Lib.hid hst
      simp only [sg.anc 24 rfl, sg.anc 26 rfl, sg.self, sg.des 48 rfl, cond_true, cond_false] at H
      refine op_call hwant hgo 12 #[.agg (bkA (((aR b a k (1 + n2)).1).conf) (((aR b a k (1 + n2)).1).index) (((aR b a k (1 + n2)).1).room) (.slice la17_4 (((aR b a k (1 + n2)).1).live.length) lc17_4) (.slice da17_4 (((aR b a k (1 + n2)).1).done.length) dc17_4) (((aR b a k (1 + n2)).1).modes))] (by simp only [execOp]; go_simp) (liveC ((aR b a k (1 + n2)).1) la17_4 lc17_4 da17_4 dc17_4 wc (hp_held H (by (repeat (first | exact List.Mem.head _ | apply List.Mem.tail)))) (hp_held H (by (repeat (first | exact List.Mem.head _ | apply List.Mem.tail)))) (Lib.hid h_ir.out.ok)) ?_
      rintro er wd ⟨a21_45, c21_45, rfl, hgv⟩
      have H2 := hp_got H (Rs := []) hgv.2.2 hgv.1 (by decide) (From.new hgv.2.1) (fun r hr => by cases hr)
      exact ⟨_, (a21_24, c21_24, a21_26, c21_26, a21_45, c21_45, a21_48, c21_48), rfl, (sg.agree (x' := (a21_24, c21_24, a21_26, c21_26, a21_45, c21_45, a21_48, c21_48)) (n := 54) rfl (by (iterate 54 (refine ix_cons (by first | exact fun _ => rfl | exact no sg.self | exact no (sg.des _ rfl)) ?_)); exact ix_nil)), rfl, (by simp only [(show upd LL 45 24 = LL 24 from rfl), sg.anc 24 rfl, (show upd LL 45 26 = LL 26 from rfl), sg.anc 26 rfl, (show upd LL 45 45 = true from rfl), (show upd LL 45 48 = LL 48 from rfl), sg.des 48 rfl, cond_true, cond_false]; exact H2.out)⟩
    · intro LL xx ac wc sg hst hwant QQ hgo
      obtain ⟨a21_24, c21_24, a21_26, c21_26, a21_45, c21_45, a21_48, c21_48⟩ := xx
      have se216 : ac.eval (.tmp 216) = _ := (sg.slot 45 (sg.anc 45 rfl))
      have sg216 := gt_of se216
      (try simp only [nth] at se216 sg216)
      exact op_val hwant hgo hst _ (by simp only [execOp, nth]; go_simp <;> omega) rfl
    · intro LL xx ac wc sg hst hwant QQ hgo
      obtain ⟨a21_24, c21_24, a21_26, c21_26, a21_45, c21_45, a21_48, c21_48⟩ := xx
      rcases Bool.eq_false_or_eq_true (LL 45) with lh45 | lh45
      · skip
        have H := Lib.hid hst
        simp only [sg.anc 24 rfl, sg.anc 26 rfl, lh45, sg.des 48 rfl, cond_true, cond_false] at H
        refine hpA_load tybook_Book H rfl ((sg.free 11 (by kernel_rfl)).trans so11) hwant (by (repeat (first | exact List.Mem.head _ | apply List.Mem.tail))) (by rfl) rfl ?_
        exact hgo _ (a21_24, c21_24, a21_26, c21_26, a21_45, c21_45, a21_48, c21_48) _ (fun _ _ => rfl) rfl hst
      · skip
        have H := Lib.hid hst
        simp only [sg.anc 24 rfl, sg.anc 26 rfl, lh45, sg.des 48 rfl, cond_true, cond_false] at H
        refine hpA_load tybook_Book H rfl ((sg.free 11 (by kernel_rfl)).trans so11) hwant (by (repeat (first | exact List.Mem.head _ | apply List.Mem.tail))) (by rfl) rfl ?_
        exact hgo _ (a21_24, c21_24, a21_26, c21_26, a21_45, c21_45, a21_48, c21_48) _ (fun _ _ => rfl) rfl hst
    · intro LL xx ac wc sg hst hwant QQ hgo
      obtain ⟨a21_24, c21_24, a21_26, c21_26, a21_45, c21_45, _, _⟩ := xx
      have se218 : ac.eval (.tmp 218) = _ := (sg.slot 47 (sg.anc 47 rfl))
      have sg218 := gt_of se218
      (try simp only [nth] at se218 sg218)
      have H := Lib.hid hst
      simp only [sg.anc 24 rfl, sg.anc 26 rfl, sg.anc 45 rfl, sg.self, cond_true, cond_false] at H
      refine op_call hwant hgo 12 #[.agg (bkA b.conf b.index b.room (.slice la b.live.length lc) (.slice da b.done.length dc) b.modes)] (by simp only [execOp]; go_simp) (liveC b la lc da dc wc (hp_held H (by (repeat (first | exact List.Mem.head _ | apply List.Mem.tail)))) (hp_held H (by (repeat (first | exact List.Mem.head _ | apply List.Mem.tail)))) (Lib.hid hI.out.ok)) ?_
      rintro er wd ⟨a21_48, c21_48, rfl, hgv⟩
      have H2 := hp_got H (Rs := []) hgv.2.2 hgv.1 (by decide) (From.new hgv.2.1) (fun r hr => by cases hr)
      exact ⟨_, (a21_24, c21_24, a21_26, c21_26, a21_45, c21_45, a21_48, c21_48), rfl, (sg.agree (x' := (a21_24, c21_24, a21_26, c21_26, a21_45, c21_45, a21_48, c21_48)) (n := 54) rfl (by (iterate 54 (refine ix_cons (by first | exact fun _ => rfl | exact no sg.self | exact no (sg.des _ rfl)) ?_)); exact ix_nil)), rfl, (by simp only [(show upd LL 48 24 = LL 24 from rfl), sg.anc 24 rfl, (show upd LL 48 26 = LL 26 from rfl), sg.anc 26 rfl, (show upd LL 48 45 = LL 45 from rfl), sg.anc 45 rfl, (show upd LL 48 48 = true from rfl), cond_true, cond_false]; exact H2.out)⟩
    · intro LL xx ac wc sg hst hwant QQ hgo
      obtain ⟨a21_24, c21_24, a21_26, c21_26, a21_45, c21_45, a21_48, c21_48⟩ := xx
      have se219 : ac.eval (.tmp 219) = _ := (sg.slot 48 (sg.anc 48 rfl))
      have sg219 := gt_of se219
      (try simp only [nth] at se219 sg219)
      exact op_val hwant hgo hst _ (by simp only [execOp, nth]; go_simp <;> omega) rfl
    · intro LL xx ac wc sg hst hwant QQ hgo
      obtain ⟨a21_24, c21_24, a21_26, c21_26, a21_45, c21_45, a21_48, c21_48⟩ := xx
      have se220 : ac.eval (.tmp 220) = _ := (sg.slot 49 (sg.anc 49 rfl))
      have sg220 := gt_of se220
      (try simp only [nth] at se220 sg220)
      have hnw : IntKind.i64.wrap (((liveV b).length : Int) - 2 : Int) = ((liveV b).length : Int) - 2 := IntWalk.i64_in _ (by omega)
      exact op_val hwant hgo hst _ (by simp only [execOp, nth]; go_simp <;> omega) rfl
    · intro LL xx ac wc sg hst hwant QQ hgo
      obtain ⟨a21_24, c21_24, a21_26, c21_26, a21_45, c21_45, a21_48, c21_48⟩ := xx
      have se217 : ac.eval (.tmp 217) = _ := (sg.slot 46 (sg.anc 46 rfl))
      have sg217 := gt_of se217
      have se221 : ac.eval (.tmp 221) = _ := (sg.slot 50 (sg.anc 50 rfl))
      have sg221 := gt_of se221
      (try simp only [nth] at se217 sg217 se221 sg221)
      exact op_val hwant hgo hst _ (by simp only [execOp, nth]; go_simp <;> omega) rfl
    · intro LL xx ac wc sg hst hwant QQ hgo
      obtain ⟨a21_24, c21_24, a21_26, c21_26, a21_45, c21_45, a21_48, c21_48⟩ := xx
      exact op_val hwant hgo hst (.bool true) (exec_pick (B := true) (U := .bool true) (V := undef) rfl (sg.slot 43 (sg.anc 43 rfl)) (fun _ => (sg.slot 51 (sg.anc 51 rfl))) (fun h => by cases h)) rfl
    · intro LL xx ac wc sg hst hwant QQ hgo
      obtain ⟨a21_24, c21_24, a21_26, c21_26, a21_45, c21_45, a21_48, c21_48⟩ := xx
      exact op_val hwant hgo hst _ (exec_assign rfl (sg.slot 52 (sg.anc 52 rfl))) rfl
  · refine skips [3, 4, 7, 8, 11, 12, 15, 16, 19, 20, 23, 24, 25, 26, 27, 30, 31, 32, 33, 34, 37, 38, 39, 40, 41, 44, 45, 46, 47, 48, 49, 50, 51] (by kernel_rfl) ?_
    refine List.forall_mem_cons.2 ⟨?_, List.forall_mem_cons.2 ⟨?_, List.forall_mem_cons.2 ⟨?_, List.forall_mem_cons.2 ⟨?_, List.forall_mem_cons.2 ⟨?_, List.forall_mem_cons.2 ⟨?_, List.forall_mem_cons.2 ⟨?_, List.forall_mem_cons.2 ⟨?_, List.forall_mem_cons.2 ⟨?_, List.forall_mem_cons.2 ⟨?_, List.forall_mem_cons.2 ⟨?_, List.forall_mem_cons.2 ⟨?_, List.forall_mem_cons.2 ⟨?_, List.forall_mem_cons.2 ⟨?_, List.forall_mem_cons.2 ⟨?_, List.forall_mem_cons.2 ⟨?_, List.forall_mem_cons.2 ⟨?_, List.forall_mem_cons.2 ⟨?_, List.forall_mem_cons.2 ⟨?_, List.forall_mem_cons.2 ⟨?_, List.forall_mem_cons.2 ⟨?_, List.forall_mem_cons.2 ⟨?_, List.forall_mem_cons.2 ⟨?_, List.forall_mem_cons.2 ⟨?_, List.forall_mem_cons.2 ⟨?_, List.forall_mem_cons.2 ⟨?_, List.forall_mem_cons.2 ⟨?_, List.forall_mem_cons.2 ⟨?_, List.forall_mem_cons.2 ⟨?_, List.forall_mem_cons.2 ⟨?_, List.forall_mem_cons.2 ⟨?_, List.forall_mem_cons.2 ⟨?_, List.forall_mem_cons.2 ⟨?_, fun _ h => by cases h⟩⟩⟩⟩⟩⟩⟩⟩⟩⟩⟩⟩⟩⟩⟩⟩⟩⟩⟩⟩⟩⟩⟩⟩⟩⟩⟩⟩⟩⟩⟩⟩⟩
    · intro oo hop LL xx ac sg hwant
      cases Option.some.inj hop
      obtain ⟨a21_24, c21_24, a21_26, c21_26, a21_45, c21_45, a21_48, c21_48⟩ := xx
      exact absurd ((want_t rfl rfl (sg.slot 2 (sg.anc 2 rfl))).symm.trans hwant) (by decide)
    · intro oo hop LL xx ac sg hwant
      cases Option.some.inj hop
      obtain ⟨a21_24, c21_24, a21_26, c21_26, a21_45, c21_45, a21_48, c21_48⟩ := xx
      exact absurd ((want_t rfl rfl (sg.slot 2 (sg.anc 2 rfl))).symm.trans hwant) (by decide)
    · intro oo hop LL xx ac sg hwant
      cases Option.some.inj hop
      obtain ⟨a21_24, c21_24, a21_26, c21_26, a21_45, c21_45, a21_48, c21_48⟩ := xx
      exact absurd ((want_t rfl rfl (sg.slot 6 (sg.anc 6 rfl))).symm.trans hwant) (by decide)
    · intro oo hop LL xx ac sg hwant
      cases Option.some.inj hop
      obtain ⟨a21_24, c21_24, a21_26, c21_26, a21_45, c21_45, a21_48, c21_48⟩ := xx
      exact absurd ((want_t rfl rfl (sg.slot 6 (sg.anc 6 rfl))).symm.trans hwant) (by decide)
    · intro oo hop LL xx ac sg hwant
      cases Option.some.inj hop
      obtain ⟨a21_24, c21_24, a21_26, c21_26, a21_45, c21_45, a21_48, c21_48⟩ := xx
      exact absurd ((want_t rfl rfl (sg.slot 10 (sg.anc 10 rfl))).symm.trans hwant) (by decide)
    · intro oo hop LL xx ac sg hwant
      cases Option.some.inj hop
      obtain ⟨a21_24, c21_24, a21_26, c21_26, a21_45, c21_45, a21_48, c21_48⟩ := xx
      exact absurd ((want_t rfl rfl (sg.slot 10 (sg.anc 10 rfl))).symm.trans hwant) (by decide)
    · intro oo hop LL xx ac sg hwant
      cases Option.some.inj hop
      obtain ⟨a21_24, c21_24, a21_26, c21_26, a21_45, c21_45, a21_48, c21_48⟩ := xx
      exact absurd ((want_t rfl rfl (sg.slot 14 (sg.anc 14 rfl))).symm.trans hwant) (by decide)
    · intro oo hop LL xx ac sg hwant
      cases Option.some.inj hop
      obtain ⟨a21_24, c21_24, a21_26, c21_26, a21_45, c21_45, a21_48, c21_48⟩ := xx
      exact absurd ((want_t rfl rfl (sg.slot 14 (sg.anc 14 rfl))).symm.trans hwant) (by decide)
    · intro oo hop LL xx ac sg hwant
      cases Option.some.inj hop
      obtain ⟨a21_24, c21_24, a21_26, c21_26, a21_45, c21_45, a21_48, c21_48⟩ := xx
      exact absurd ((want_t rfl rfl (sg.slot 18 (sg.anc 18 rfl))).symm.trans hwant) (by decide)
    · intro oo hop LL xx ac sg hwant
      cases Option.some.inj hop
      obtain ⟨a21_24, c21_24, a21_26, c21_26, a21_45, c21_45, a21_48, c21_48⟩ := xx
      exact absurd ((want_t rfl rfl (sg.slot 18 (sg.anc 18 rfl))).symm.trans hwant) (by decide)
    · intro oo hop LL xx ac sg hwant
      cases Option.some.inj hop
      obtain ⟨a21_24, c21_24, a21_26, c21_26, a21_45, c21_45, a21_48, c21_48⟩ := xx
      exact absurd ((want_t rfl rfl (sg.slot 22 (sg.anc 22 rfl))).symm.trans hwant) (by decide)
    · intro oo hop LL xx ac sg hwant
      cases Option.some.inj hop
      obtain ⟨a21_24, c21_24, a21_26, c21_26, a21_45, c21_45, a21_48, c21_48⟩ := xx
      exact absurd ((want_t rfl rfl (sg.slot 22 (sg.anc 22 rfl))).symm.trans hwant) (by decide)
    · intro oo hop LL xx ac sg hwant
      cases Option.some.inj hop
      obtain ⟨a21_24, c21_24, a21_26, c21_26, a21_45, c21_45, a21_48, c21_48⟩ := xx
      exact absurd ((want_t rfl rfl (sg.slot 22 (sg.anc 22 rfl))).symm.trans hwant) (by decide)
    · intro oo hop LL xx ac sg hwant
      cases Option.some.inj hop
      obtain ⟨a21_24, c21_24, a21_26, c21_26, a21_45, c21_45, a21_48, c21_48⟩ := xx
      exact absurd ((want_t rfl rfl (sg.slot 22 (sg.anc 22 rfl))).symm.trans hwant) (by decide)
    · intro oo hop LL xx ac sg hwant
      cases Option.some.inj hop
      obtain ⟨a21_24, c21_24, a21_26, c21_26, a21_45, c21_45, a21_48, c21_48⟩ := xx
      exact absurd ((want_t rfl rfl (sg.slot 22 (sg.anc 22 rfl))).symm.trans hwant) (by decide)
    · intro oo hop LL xx ac sg hwant
      cases Option.some.inj hop
      obtain ⟨a21_24, c21_24, a21_26, c21_26, a21_45, c21_45, a21_48, c21_48⟩ := xx
      exact absurd ((want_t rfl rfl (sg.slot 29 (sg.anc 29 rfl))).symm.trans hwant) (by decide)
    · intro oo hop LL xx ac sg hwant
      cases Option.some.inj hop
      obtain ⟨a21_24, c21_24, a21_26, c21_26, a21_45, c21_45, a21_48, c21_48⟩ := xx
      exact absurd ((want_t rfl rfl (sg.slot 29 (sg.anc 29 rfl))).symm.trans hwant) (by decide)
    · intro oo hop LL xx ac sg hwant
      cases Option.some.inj hop
      obtain ⟨a21_24, c21_24, a21_26, c21_26, a21_45, c21_45, a21_48, c21_48⟩ := xx
      exact absurd ((want_t rfl rfl (sg.slot 29 (sg.anc 29 rfl))).symm.trans hwant) (by decide)
    · intro oo hop LL xx ac sg hwant
      cases Option.some.inj hop
      obtain ⟨a21_24, c21_24, a21_26, c21_26, a21_45, c21_45, a21_48, c21_48⟩ := xx
      exact absurd ((want_t rfl rfl (sg.slot 29 (sg.anc 29 rfl))).symm.trans hwant) (by decide)
    · intro oo hop LL xx ac sg hwant
      cases Option.some.inj hop
      obtain ⟨a21_24, c21_24, a21_26, c21_26, a21_45, c21_45, a21_48, c21_48⟩ := xx
      exact absurd ((want_t rfl rfl (sg.slot 29 (sg.anc 29 rfl))).symm.trans hwant) (by decide)
    · intro oo hop LL xx ac sg hwant
      cases Option.some.inj hop
      obtain ⟨a21_24, c21_24, a21_26, c21_26, a21_45, c21_45, a21_48, c21_48⟩ := xx
      exact absurd ((want_t rfl rfl (sg.slot 36 (sg.anc 36 rfl))).symm.trans hwant) (by decide)
    · intro oo hop LL xx ac sg hwant
      cases Option.some.inj hop
      obtain ⟨a21_24, c21_24, a21_26, c21_26, a21_45, c21_45, a21_48, c21_48⟩ := xx
      exact absurd ((want_t rfl rfl (sg.slot 36 (sg.anc 36 rfl))).symm.trans hwant) (by decide)
    · intro oo hop LL xx ac sg hwant
      cases Option.some.inj hop
      obtain ⟨a21_24, c21_24, a21_26, c21_26, a21_45, c21_45, a21_48, c21_48⟩ := xx
      exact absurd ((want_t rfl rfl (sg.slot 36 (sg.anc 36 rfl))).symm.trans hwant) (by decide)
    · intro oo hop LL xx ac sg hwant
      cases Option.some.inj hop
      obtain ⟨a21_24, c21_24, a21_26, c21_26, a21_45, c21_45, a21_48, c21_48⟩ := xx
      exact absurd ((want_t rfl rfl (sg.slot 36 (sg.anc 36 rfl))).symm.trans hwant) (by decide)
    · intro oo hop LL xx ac sg hwant
      cases Option.some.inj hop
      obtain ⟨a21_24, c21_24, a21_26, c21_26, a21_45, c21_45, a21_48, c21_48⟩ := xx
      exact absurd ((want_t rfl rfl (sg.slot 36 (sg.anc 36 rfl))).symm.trans hwant) (by decide)
    · intro oo hop LL xx ac sg hwant
      cases Option.some.inj hop
      obtain ⟨a21_24, c21_24, a21_26, c21_26, a21_45, c21_45, a21_48, c21_48⟩ := xx
      exact absurd ((want_t rfl rfl (sg.slot 43 (sg.anc 43 rfl))).symm.trans hwant) (by decide)
    · intro oo hop LL xx ac sg hwant
      cases Option.some.inj hop
      obtain ⟨a21_24, c21_24, a21_26, c21_26, a21_45, c21_45, a21_48, c21_48⟩ := xx
      exact absurd ((want_t rfl rfl (sg.slot 43 (sg.anc 43 rfl))).symm.trans hwant) (by decide)
    · intro oo hop LL xx ac sg hwant
      cases Option.some.inj hop
      obtain ⟨a21_24, c21_24, a21_26, c21_26, a21_45, c21_45, a21_48, c21_48⟩ := xx
      exact absurd ((want_t rfl rfl (sg.slot 43 (sg.anc 43 rfl))).symm.trans hwant) (by decide)
    · intro oo hop LL xx ac sg hwant
      cases Option.some.inj hop
      obtain ⟨a21_24, c21_24, a21_26, c21_26, a21_45, c21_45, a21_48, c21_48⟩ := xx
      exact absurd ((want_t rfl rfl (sg.slot 43 (sg.anc 43 rfl))).symm.trans hwant) (by decide)
    · intro oo hop LL xx ac sg hwant
      cases Option.some.inj hop
      obtain ⟨a21_24, c21_24, a21_26, c21_26, a21_45, c21_45, a21_48, c21_48⟩ := xx
      exact absurd ((want_t rfl rfl (sg.slot 43 (sg.anc 43 rfl))).symm.trans hwant) (by decide)
    · intro oo hop LL xx ac sg hwant
      cases Option.some.inj hop
      obtain ⟨a21_24, c21_24, a21_26, c21_26, a21_45, c21_45, a21_48, c21_48⟩ := xx
      exact absurd ((want_t rfl rfl (sg.slot 43 (sg.anc 43 rfl))).symm.trans hwant) (by decide)
    · intro oo hop LL xx ac sg hwant
      cases Option.some.inj hop
      obtain ⟨a21_24, c21_24, a21_26, c21_26, a21_45, c21_45, a21_48, c21_48⟩ := xx
      exact absurd ((want_t rfl rfl (sg.slot 43 (sg.anc 43 rfl))).symm.trans hwant) (by decide)
    · intro oo hop LL xx ac sg hwant
      cases Option.some.inj hop
      obtain ⟨a21_24, c21_24, a21_26, c21_26, a21_45, c21_45, a21_48, c21_48⟩ := xx
      exact absurd ((want_t rfl rfl (sg.slot 43 (sg.anc 43 rfl))).symm.trans hwant) (by decide)
  · intro xx ac1 wz hfr hsl hst
    obtain ⟨a21_24, c21_24, a21_26, c21_26, a21_45, c21_45, a21_48, c21_48⟩ := xx
    exact hfin a21_24 c21_24 a21_26 c21_26 a21_45 c21_45 a21_48 c21_48 ac1 wz (hfr.size.trans hz) hfr.defers (fr_keep hfr [10, 171, 172, 173, 174, 175, 176, 177, 178, 179, 180, 181, 182, 183, 184, 185, 186, 187, 188, 189, 190, 191, 192, 193, 194, 195, 196, 197, 198, 199, 200, 201, 202, 203, 204, 205, 206, 207, 208, 209, 210, 211, 212, 213, 214, 215, 216, 217, 218, 219, 220, 221, 222, 223] (by kernel_rfl)) (hsl 53 (by decide)) (Lib.hid hst)
set_option maxHeartbeats 16000000 in
set_option maxRecDepth 20000 in
theorem apart_w (c : Cfg) (pa : Option Addr) (pc : Nat) (ds : List DeedV) (a : Int) (k : Int) (md : Int) (w : World) (h1 : (rS pa pc 22 (ds.map deedRow)).holds w) : Calls Try.prog 4 #[.agg (cA c), .slice pa ds.length pc, .int .i64 a, .int .i64 k, .int .i64 md] w fun e w' => e = .returned (.bool true) ∧ Off [] w w' := by
 have H := Lib.hid (Hp.start [] w)
 have H := hp_old H h1 (by decide)
 clear h1
 obtain ⟨n2, hn2, hn01⟩ := two_is md
 have hW0 := Lib.hid (wait_new c)
 refine wStart (args := [.agg (cA c), .slice pa ds.length pc, .int .i64 a, .int .i64 k, .int .i64 md]) Try.func4 rfl rfl rfl H ?_
 clear H
 show Wk 224 _ _ [(0, .agg (cA c)), (1, .slice pa ds.length pc), (2, .int .i64 a), (3, .int .i64 k), (4, .int .i64 md)] _ _
 have hI0 : Hid (InvB (newB c)) := Lib.hid (inv_new c)
 refine wSeqK fun KK1 hK1 => ?_
 refine wReg ?_
 refine wBx rfl rfl rfl fun b5 => ?_
 refine p_apart_w rfl ?_
 refine wN ?_
 refine tN (wKK hK1 ?_)
 refine wSeqK fun KK2 hK2 => ?_
 refine wSeqK fun KK3 hK3 => ?_
 refine wReg ?_
 refine wQ (l := []) Try.func9 rfl (by kernel_rfl) (.bool true) (fun wc H => awake9 wc) rfl rfl rfl rfl ?_
 refine p_apart_w rfl ?_
 refine wN ?_
 refine tN (wKK hK3 ?_)
 refine wCf rfl ?_
 refine wSk ?_
 refine tN (wKK hK2 ?_)
 refine wSeqK fun KK4 hK4 => ?_
 refine wReg ?_
 refine wLr rfl tyapi_Config 0 rfl (cL c) rfl rfl ?_
 refine wC (l := [.agg (cA c)]) Try.func10 rfl (by kernel_rfl) (fun wc H => newBC c wc) rfl rfl rfl rfl ?_
 intro wc H
 rintro er wd ⟨la3_1, lc3_1, da3_1, dc3_1, rfl, hg⟩
 have H2 := hp_gotB H hg.2.2.2.2 hg.1 hg.2.1 (by decide) (by decide) hg.2.2.1 hg.2.2.2.1 (fun r hr => by cases hr)
 refine ⟨_, rfl, wkAt H2 ?_⟩
 clear H H2
 refine wAl rfl rfl tybook_Book fun b11 => ?_
 refine wSr rfl tybook_Book 0 rfl rfl rfl rfl (bkL ((newB c).conf) ((newB c).index) ((newB c).room) (.slice la3_1 ((newB c).live.length) lc3_1) (.slice da3_1 ((newB c).done.length) dc3_1) ((newB c).modes)) (by first | rfl | (simp only [spl]; rfl)) ?_
 refine wN ?_
 refine tN (wKK hK4 ?_)
 refine wSeqK fun KK5 hK5 => ?_
 refine wSeqK fun KK6 hK6 => ?_
 refine wReg ?_
 refine p_apart_w rfl ?_
 refine wN ?_
 refine tN (wKK hK6 ?_)
 refine wBlk ?_
 refine wH (R' := [rB b11 33 (bkL ((newB c).conf) ((newB c).index) ((newB c).room) (.slice la3_1 ((newB c).live.length) lc3_1) (.slice da3_1 ((newB c).done.length) dc3_1) ((newB c).modes)), rS la3_1 lc3_1 9 ((newB c).live.map rowOf), rS da3_1 dc3_1 8 ((newB c).done.map callRow), rB b5 24 (cL c), rS pa pc 22 (ds.map deedRow)]) (fun ww H => hp_sel [0, 1, 2, 3, 4] H (by decide) rfl) ?_
 refine wLoop (fun ab wv => ∃ i : Nat, ∃ b : BookV, ∃ la : Option Addr, ∃ lc : Nat, ∃ da : Option Addr, ∃ dc : Nat, (i ≤ ds.length) ∧ (i ≤ 60) ∧ (Hid (WaitB b)) ∧ (b.index ≤ (i : Int)) ∧ ab.tmps.size = 224 ∧ ab.defers = [] ∧ Sat [(0, .agg (cA c)), (1, .slice pa ds.length pc), (2, .int .i64 a), (3, .int .i64 k), (4, .int .i64 md), (5, .pointer (some ⟨b5, 0, none⟩)), (10, .bool false), (11, .pointer (some ⟨b11, 0, none⟩)), (12, .int .i64 i), (39, .bool false)] ab ∧ Hid (Hp [] w wv [rB b11 33 (bkL b.conf b.index b.room (.slice la b.live.length lc) (.slice da b.done.length dc) b.modes), rS la lc 9 (b.live.map rowOf), rS da dc 8 (b.done.map callRow), rB b5 24 (cL c), rS pa pc 22 (ds.map deedRow)])) (fun ab _ => 60 - (intOf (ab.eval (.tmp 12))).toNat) (fun aa ww nn dd hs H => ⟨0, (newB c), la3_1, lc3_1, da3_1, dc3_1, (Nat.zero_le _), (by omega), hW0, (by rw [new_ix]; exact Int.le_refl _), nn, dd, (sat_sub ⟨rfl, rfl, rfl, rfl, rfl, rfl, rfl, rfl, rfl, rfl, trivial⟩ hs), H⟩) ?_
 rintro a1 wv ⟨i, b, la, lc, da, dc, hi, hi2, hW, hix, nn, dd, hs, H⟩
 have mu1_12 := hs 12 _ rfl
 refine wIn nn dd hs H ?_
 clear nn dd hs H
 refine wSeqK fun KK7 hK7 => ?_
 refine wSeqK fun KK8 hK8 => ?_
 refine wReg ?_
 iterate 2 refine p_apart_w rfl ?_
 refine wE (.int .i64 ds.length) rfl rfl rfl (fun aa ww hs _ => by have e43 := hs 43 _ rfl; have g43 := gt_of e43; simp only [execOp]; go_simp <;> first | rfl | omega) ?_
 refine p_apart_w rfl ?_
 refine wB (c := decide (i < ds.length)) 45 rfl (by simp) ?_
 refine p_apart_w rfl ?_
 refine wCut 3 [(49, .bool ((decide (i < ds.length)) && (decide ((i : Int) < 60)))), (0, .agg (cA c)), (1, .slice pa ds.length pc), (2, .int .i64 a), (3, .int .i64 k), (4, .int .i64 md), (5, .pointer (some ⟨b5, 0, none⟩)), (10, .bool false), (11, .pointer (some ⟨b11, 0, none⟩)), (12, .int .i64 i), (39, .bool false)] ?_ ?_
 · intro KK hKK
   rcases Bool.eq_false_or_eq_true (decide (i < ds.length)) with u1 | u1
   · skip
     refine wB (c := true) 46 rfl u1 ?_
     iterate 2 refine p_apart_w rfl ?_
     refine p_apart_w rfl ?_
     refine wB (c := (decide (i < ds.length)) && (decide ((i : Int) < 60))) 49 rfl (by rw [u1]; rfl) ?_
     refine wN (tN ?_)
     exact fun aa ww nn dd hs H => hKK aa ww nn dd (sat_sub ⟨rfl, rfl, rfl, rfl, rfl, rfl, rfl, rfl, rfl, rfl, rfl, trivial⟩ hs) H
   · skip
     refine wB (c := false) 46 rfl u1 ?_
     iterate 2 refine p_apart_w rfl ?_
     refine p_apart_w rfl ?_
     refine wB (c := (decide (i < ds.length)) && (decide ((i : Int) < 60))) 49 rfl (by rw [u1]; rfl) ?_
     refine wN (tN ?_)
     exact fun aa ww nn dd hs H => hKK aa ww nn dd (sat_sub ⟨rfl, rfl, rfl, rfl, rfl, rfl, rfl, rfl, rfl, rfl, rfl, trivial⟩ hs) H
 refine wN ?_
 refine tN (wKK hK8 ?_)
 refine wCond (E := (decide (i < ds.length)) && (decide ((i : Int) < 60))) rfl (fun z2 => ?_) (fun z2 => ?_)
 · skip
   have z2l : (decide (i < ds.length)) = true := Reg.bl z2
   have z2ld : i < ds.length := of_decide_eq_true z2l
   have z2r : (decide ((i : Int) < 60)) = true := Reg.br z2
   have z2rd : (i : Int) < 60 := of_decide_eq_true z2r
   intro aa ww nn dd hs H
   obtain ⟨yx, rfl⟩ := some_of_row (i := i) (hp_held H (show rS pa _ 22 (ds.map deedRow) ∈ _ by (repeat (first | exact List.Mem.head _ | apply List.Mem.tail)))) (by simp; omega)
   obtain ⟨x, hx⟩ : ∃ x, ds[i]? = some x := ⟨ds[i], List.getElem?_eq_getElem (by omega)⟩
   have HRx := Lib.hid (show (ds.map deedRow)[i]? = some [.int .i64 x.kind, .int .i64 x.x.id, .int .i64 x.x.kind, .int .i64 x.x.src, .int .i64 x.x.dst, .int .i64 x.x.car, .int .i64 x.x.state, .int .i64 x.x.owner, .int .i64 x.x.born, .int .i64 x.n, .int .i64 x.m, .int .i64 x.ch.index, .int .i64 x.ch.call.id, .int .i64 x.ch.call.kind, .int .i64 x.ch.call.src, .int .i64 x.ch.call.dst, .int .i64 x.ch.call.car, .int .i64 x.ch.call.state, .int .i64 x.ch.call.owner, .int .i64 x.ch.call.born, .int .i64 x.ch.car, .int .i64 x.ch.mode] by rw [List.getElem?_map, hx]; rfl)
   have HXx := Lib.hid hx
   clear hx
   have hI : Hid (InvB b) := Lib.hid hW.out.inv
   have hbi := hI.out.ok.index
   refine wIn nn dd hs H ?_
   refine wSk ?_
   refine tN (wKK hK7 ?_)
   refine wSeqK fun KK9 hK9 => ?_
   refine wBlk ?_
   refine wSeqK fun KK10 hK10 => ?_
   refine wSeqK fun KK11 hK11 => ?_
   refine wReg ?_
   iterate 2 refine p_apart_w rfl ?_
   refine wE (.pointer (some (yx.add (i * 22)))) rfl rfl rfl (fun aa ww hs _ => by have e52 := hs 52 _ rfl; have g52 := gt_of e52; have e53 := hs 53 _ rfl; have g53 := gt_of e53; simp only [execOp]; go_simp <;> first | rfl | omega) ?_
   refine wE (.pointer (some (yx.add (i * 22)))) rfl rfl rfl (fun aa ww hs _ => by have e54 := hs 54 _ rfl; have g54 := gt_of e54; simp only [execOp]; go_simp <;> first | rfl | omega) ?_
   refine wX 56 (.int .i64 x.kind) rfl (fun aa ww KK hs H _ hk => hpS_load1 0 tyint H (y := yx) rfl (hs _ _ rfl) (wnt_ok hs rfl) (by (repeat (first | exact List.Mem.head _ | apply List.Mem.tail))) HRx.out (by rfl) (by simp [Addr.add]) hk) ?_
   iterate 2 refine p_apart_w rfl ?_
   refine wCut 7 [(65, .bool ((x.kind != 1) && (x.kind != 2))), (0, .agg (cA c)), (1, .slice (some yx) ds.length pc), (2, .int .i64 a), (3, .int .i64 k), (4, .int .i64 md), (5, .pointer (some ⟨b5, 0, none⟩)), (10, .bool false), (11, .pointer (some ⟨b11, 0, none⟩)), (12, .int .i64 i), (39, .bool false), (49, .bool ((decide (i < ds.length)) && (decide ((i : Int) < 60))))] ?_ ?_
   · intro KK hKK
     rcases Bool.eq_false_or_eq_true (x.kind != 1) with u3 | u3
     · skip
       refine wB (c := true) 58 rfl u3 ?_
       iterate 2 refine p_apart_w rfl ?_
       refine wE (.pointer (some (yx.add (i * 22)))) rfl rfl rfl (fun aa ww hs _ => by have e59 := hs 59 _ rfl; have g59 := gt_of e59; have e60 := hs 60 _ rfl; have g60 := gt_of e60; simp only [execOp]; go_simp <;> first | rfl | omega) ?_
       refine wE (.pointer (some (yx.add (i * 22)))) rfl rfl rfl (fun aa ww hs _ => by have e61 := hs 61 _ rfl; have g61 := gt_of e61; simp only [execOp]; go_simp <;> first | rfl | omega) ?_
       refine wX 63 (.int .i64 x.kind) rfl (fun aa ww KK hs H _ hk => hpS_load1 0 tyint H (y := yx) rfl (hs _ _ rfl) (wnt_ok hs rfl) (by (repeat (first | exact List.Mem.head _ | apply List.Mem.tail))) HRx.out (by rfl) (by simp [Addr.add]) hk) ?_
       refine p_apart_w rfl ?_
       refine p_apart_w rfl ?_
       refine wB (c := (x.kind != 1) && (x.kind != 2)) 65 rfl (by rw [u3]; rfl) ?_
       refine wN (tN ?_)
       exact fun aa ww nn dd hs H => hKK aa ww nn dd (sat_sub ⟨rfl, rfl, rfl, rfl, rfl, rfl, rfl, rfl, rfl, rfl, rfl, rfl, trivial⟩ hs) H
     · skip
       refine wB (c := false) 58 rfl u3 ?_
       iterate 6 refine p_apart_w rfl ?_
       refine p_apart_w rfl ?_
       refine wB (c := (x.kind != 1) && (x.kind != 2)) 65 rfl (by rw [u3]; rfl) ?_
       refine wN (tN ?_)
       exact fun aa ww nn dd hs H => hKK aa ww nn dd (sat_sub ⟨rfl, rfl, rfl, rfl, rfl, rfl, rfl, rfl, rfl, rfl, rfl, rfl, trivial⟩ hs) H
   refine wN ?_
   refine tN (wKK hK11 ?_)
   refine wCond (E := (x.kind != 1) && (x.kind != 2)) rfl (fun z4 => ?_) (fun z4 => ?_)
   · skip
     have z4l : (x.kind != 1) = true := Reg.bl z4
     have z4lo : (x.kind == 1) = false := neq_t z4l
     have z4r : (x.kind != 2) = true := Reg.br z4
     have z4ro : (x.kind == 2) = false := neq_t z4r
     refine wEx ?_
     refine tX (bX (tN (wKK hK9 ?_)))
     refine wReg ?_
     iterate 2 refine p_apart_w rfl ?_
     refine wI 51 rfl (IntWalk.i64_in _ (by omega)) ?_
     refine p_apart_w rfl ?_
     refine wN ?_
     refine tN ?_
     intro aa ww nn dd hs H
     refine ⟨⟨i + 1, b, la, lc, da, dc, (by omega), (by omega), hW, (by omega), nn, dd, (sat_sub ⟨rfl, rfl, rfl, rfl, rfl, rfl, rfl, rfl, rfl, rfl, trivial⟩ hs), H⟩, ?_⟩
     have m12 := hs 12 _ rfl
     simp only [mu1_12, m12, intOf]
     omega
   · skip
     refine wSk ?_
     refine tN (wKK hK10 ?_)
     refine wSeqK fun KK12 hK12 => ?_
     intro aa ww nn dd hs H
     refine apart_w_r8 n2 c pc ds md b5 b11 i b la lc da dc yx x hn01 hn2 hi hi2 hix z2ld z2rd HRx hI hbi H aa nn (hs 1 _ rfl) (hs 11 _ rfl) (hs 12 _ rfl) ?_
     intro b13 b14 la8_16 lc8_16 da8_16 dc8_16 ab wv nn2 dd2 kp o13 o15 H2
     refine wIn nn2 (dd2.trans dd) (Sat.cons (Sat.cons (Sat.cons (Sat.cons (Sat.cons (Sat.cons (Sat.cons (Sat.cons (Sat.cons (Sat.cons (Sat.cons (Sat.cons (Sat.cons (Sat.cons (sat_nil ab) ((kp 65 rfl).trans (hs 65 _ rfl))) ((kp 49 rfl).trans (hs 49 _ rfl))) ((kp 39 rfl).trans (hs 39 _ rfl))) ((kp 12 rfl).trans (hs 12 _ rfl))) ((kp 11 rfl).trans (hs 11 _ rfl))) ((kp 10 rfl).trans (hs 10 _ rfl))) ((kp 5 rfl).trans (hs 5 _ rfl))) ((kp 4 rfl).trans (hs 4 _ rfl))) ((kp 3 rfl).trans (hs 3 _ rfl))) ((kp 2 rfl).trans (hs 2 _ rfl))) ((kp 1 rfl).trans (hs 1 _ rfl))) ((kp 0 rfl).trans (hs 0 _ rfl))) o15) o13) H2 ?_
     clear hs H kp H2 dd dd2 nn nn2 o13 o15
     refine tN (wKK hK12 ?_)
     refine wSeqK fun KK13 hK13 => ?_
     refine wReg ?_
     iterate 2 refine p_apart_w rfl ?_
     refine wN ?_
     refine tN (wKK hK13 ?_)
     refine wCond (E := ((placeV b x.x x.n x.m).2.2) == 0) rfl (fun z5 => ?_) (fun z5 => ?_)
     · skip
       have z5o : (((placeV b x.x x.n x.m).2.2) != 0) = false := eqq_t z5
       refine wReg ?_
       refine wLr rfl tybook_Book 3 rfl (bkL (((placeV b x.x x.n x.m).1).conf) (((placeV b x.x x.n x.m).1).index) (((placeV b x.x x.n x.m).1).room) (.slice la8_16 (((placeV b x.x x.n x.m).1).live.length) lc8_16) (.slice da8_16 (((placeV b x.x x.n x.m).1).done.length) dc8_16) (((placeV b x.x x.n x.m).1).modes)) rfl rfl ?_
       refine wSr rfl tybook_Book 4 rfl rfl rfl rfl (bkL (((placeV b x.x x.n x.m).1).conf) (((placeV b x.x x.n x.m).1).index) (((placeV b x.x x.n x.m).1).room) (.slice la8_16 (((placeV b x.x x.n x.m).1).live.length) lc8_16) (.slice da8_16 (((placeV b x.x x.n x.m).1).done.length) dc8_16) (((placeV b x.x x.n x.m).1).modes)) (by first | rfl | (simp only [spl]; rfl)) ?_
       refine wN ?_
       refine bN (tN (wKK hK9 ?_))
       refine wReg ?_
       iterate 2 refine p_apart_w rfl ?_
       refine wI 51 rfl (IntWalk.i64_in _ (by omega)) ?_
       refine p_apart_w rfl ?_
       refine wN ?_
       refine tN ?_
       intro aa ww nn dd hs H
       refine ⟨⟨i + 1, ((placeV b x.x x.n x.m).1), la8_16, lc8_16, da8_16, dc8_16, (by omega), (by omega), (Lib.hid (wait_place hW.out (by omega) (by simpa using z5))), (by have h := place_ix (b := b) (x := x.x) hbi.1 x.n x.m; omega), nn, dd, (sat_sub ⟨rfl, rfl, rfl, rfl, rfl, rfl, rfl, rfl, rfl, rfl, trivial⟩ hs), (hp_sel [4, 0, 1, 7, 8] H (by decide) rfl)⟩, ?_⟩
       have m12 := hs 12 _ rfl
       simp only [mu1_12, m12, intOf]
       omega
     · skip
       have z5o : (((placeV b x.x x.n x.m).2.2) != 0) = true := eqq_f z5
       refine wSk ?_
       refine bN (tN (wKK hK9 ?_))
       refine wReg ?_
       iterate 2 refine p_apart_w rfl ?_
       refine wI 51 rfl (IntWalk.i64_in _ (by omega)) ?_
       refine p_apart_w rfl ?_
       refine wN ?_
       refine tN ?_
       intro aa ww nn dd hs H
       refine ⟨⟨i + 1, b, la, lc, da, dc, (by omega), (by omega), hW, (by omega), nn, dd, (sat_sub ⟨rfl, rfl, rfl, rfl, rfl, rfl, rfl, rfl, rfl, rfl, trivial⟩ hs), (hp_sel [4, 5, 6, 7, 8] H (by decide) rfl)⟩, ?_⟩
       have m12 := hs 12 _ rfl
       simp only [mu1_12, m12, intOf]
       omega
 · skip
   intro aa ww nn dd hs H
   have hI : Hid (InvB b) := Lib.hid hW.out.inv
   have hbi := hI.out.ok.index
   refine wIn nn dd hs H ?_
   refine wEx ?_
   refine tX (tX (bX (tN (wKK hK5 ?_))))
   refine wSeqK fun KK14 hK14 => ?_
   refine wReg ?_
   refine wLr rfl tybook_Book 0 rfl (bkL b.conf b.index b.room (.slice la b.live.length lc) (.slice da b.done.length dc) b.modes) rfl rfl ?_
   refine p_apart_w rfl ?_
   refine wQ (l := [.agg (bkA b.conf b.index b.room (.slice la b.live.length lc) (.slice da b.done.length dc) b.modes), .int .i64 a]) Try.func20 rfl (by kernel_rfl) (.tuple #[.agg (xA ((findV b a).1)), .bool ((findV b a).2)]) (fun wc H => findC b la lc da dc a wc (hp_held H (by (repeat (first | exact List.Mem.head _ | apply List.Mem.tail)))) (hp_held H (by (repeat (first | exact List.Mem.head _ | apply List.Mem.tail)))) (Lib.hid hI.out.ok)) rfl rfl rfl rfl ?_
   iterate 3 refine p_apart_w rfl ?_
   refine wAl rfl rfl tyapi_Call fun b16 => ?_
   refine wSr rfl tyapi_Call 0 rfl rfl rfl rfl (xL ((findV b a).1)) (by first | rfl | (simp only [spl]; rfl)) ?_
   refine p_apart_w rfl ?_
   refine wN ?_
   refine tN (wKK hK14 ?_)
   refine wSeqK fun KK15 hK15 => ?_
   refine wReg ?_
   refine wLr rfl tybook_Book 1 rfl (bkL b.conf b.index b.room (.slice la b.live.length lc) (.slice da b.done.length dc) b.modes) rfl rfl ?_
   refine p_apart_w rfl ?_
   refine wQ (l := [.agg (bkA b.conf b.index b.room (.slice la b.live.length lc) (.slice da b.done.length dc) b.modes), .int .i64 k]) Try.func20 rfl (by kernel_rfl) (.tuple #[.agg (xA ((findV b k).1)), .bool ((findV b k).2)]) (fun wc H => findC b la lc da dc k wc (hp_held H (by (repeat (first | exact List.Mem.head _ | apply List.Mem.tail)))) (hp_held H (by (repeat (first | exact List.Mem.head _ | apply List.Mem.tail)))) (Lib.hid hI.out.ok)) rfl rfl rfl rfl ?_
   iterate 3 refine p_apart_w rfl ?_
   refine wAl rfl rfl tyapi_Call fun b18 => ?_
   refine wSr rfl tyapi_Call 0 rfl rfl rfl rfl (xL ((findV b k).1)) (by first | rfl | (simp only [spl]; rfl)) ?_
   refine p_apart_w rfl ?_
   refine wN ?_
   refine tN (wKK hK15 ?_)
   refine wSeqK fun KK16 hK16 => ?_
   refine wSeqK fun KK17 hK17 => ?_
   refine wReg ?_
   iterate 3 refine p_apart_w rfl ?_
   refine wCut 3 [(107, .bool ((!((findV b a).2)) || (!((findV b k).2)))), (0, .agg (cA c)), (1, .slice pa ds.length pc), (2, .int .i64 a), (3, .int .i64 k), (4, .int .i64 md), (5, .pointer (some ⟨b5, 0, none⟩)), (10, .bool false), (11, .pointer (some ⟨b11, 0, none⟩)), (12, .int .i64 i), (16, .pointer (some ⟨b16, 0, none⟩)), (17, .bool ((findV b a).2)), (18, .pointer (some ⟨b18, 0, none⟩)), (19, .bool ((findV b k).2)), (39, .bool false), (49, .bool ((decide (i < ds.length)) && (decide ((i : Int) < 60))))] ?_ ?_
   · intro KK hKK
     rcases Bool.eq_false_or_eq_true (!((findV b a).2)) with u6 | u6
     · skip
       refine wB (c := true) 104 rfl u6 ?_
       iterate 2 refine p_apart_w rfl ?_
       refine p_apart_w rfl ?_
       refine wB (c := (!((findV b a).2)) || (!((findV b k).2))) 107 rfl (by rw [u6]; rfl) ?_
       refine wN (tN ?_)
       exact fun aa ww nn dd hs H => hKK aa ww nn dd (sat_sub ⟨rfl, rfl, rfl, rfl, rfl, rfl, rfl, rfl, rfl, rfl, rfl, rfl, rfl, rfl, rfl, rfl, trivial⟩ hs) H
     · skip
       refine wB (c := false) 104 rfl u6 ?_
       iterate 2 refine p_apart_w rfl ?_
       refine p_apart_w rfl ?_
       refine wB (c := (!((findV b a).2)) || (!((findV b k).2))) 107 rfl (by rw [u6]; rfl) ?_
       refine wN (tN ?_)
       exact fun aa ww nn dd hs H => hKK aa ww nn dd (sat_sub ⟨rfl, rfl, rfl, rfl, rfl, rfl, rfl, rfl, rfl, rfl, rfl, rfl, rfl, rfl, rfl, rfl, trivial⟩ hs) H
   refine p_apart_w rfl ?_
   refine wCut 4 [(112, .bool (((!((findV b a).2)) || (!((findV b k).2))) || (a == k))), (0, .agg (cA c)), (1, .slice pa ds.length pc), (2, .int .i64 a), (3, .int .i64 k), (4, .int .i64 md), (5, .pointer (some ⟨b5, 0, none⟩)), (10, .bool false), (11, .pointer (some ⟨b11, 0, none⟩)), (12, .int .i64 i), (16, .pointer (some ⟨b16, 0, none⟩)), (17, .bool ((findV b a).2)), (18, .pointer (some ⟨b18, 0, none⟩)), (19, .bool ((findV b k).2)), (39, .bool false), (49, .bool ((decide (i < ds.length)) && (decide ((i : Int) < 60))))] ?_ ?_
   · intro KK hKK
     rcases Bool.eq_false_or_eq_true ((!((findV b a).2)) || (!((findV b k).2))) with u7 | u7
     · skip
       refine wB (c := true) 108 rfl u7 ?_
       iterate 3 refine p_apart_w rfl ?_
       refine p_apart_w rfl ?_
       refine wB (c := ((!((findV b a).2)) || (!((findV b k).2))) || (a == k)) 112 rfl (by rw [u7]; rfl) ?_
       refine wN (tN ?_)
       exact fun aa ww nn dd hs H => hKK aa ww nn dd (sat_sub ⟨rfl, rfl, rfl, rfl, rfl, rfl, rfl, rfl, rfl, rfl, rfl, rfl, rfl, rfl, rfl, rfl, trivial⟩ hs) H
     · skip
       refine wB (c := false) 108 rfl u7 ?_
       iterate 3 refine p_apart_w rfl ?_
       refine p_apart_w rfl ?_
       refine wB (c := ((!((findV b a).2)) || (!((findV b k).2))) || (a == k)) 112 rfl (by rw [u7]; rfl) ?_
       refine wN (tN ?_)
       exact fun aa ww nn dd hs H => hKK aa ww nn dd (sat_sub ⟨rfl, rfl, rfl, rfl, rfl, rfl, rfl, rfl, rfl, rfl, rfl, rfl, rfl, rfl, rfl, rfl, trivial⟩ hs) H
   refine wN ?_
   refine tN (wKK hK17 ?_)
   refine wCond (E := ((!((findV b a).2)) || (!((findV b k).2))) || (a == k)) rfl (fun z8 => ?_) (fun z8 => ?_)
   · skip
     refine wSeqK fun KK18 hK18 => ?_
     refine wReg ?_
     refine p_apart_w rfl ?_
     refine wN ?_
     refine tN (wKK hK18 ?_)
     refine wRet ?_
     refine tR ?_
     exact wR1 rfl rfl (fun ww H => ⟨rfl, H.out.off⟩)
   · skip
     have z8l : ((!((findV b a).2)) || (!((findV b k).2))) = false := Reg.ol z8
     have z8ll : (!((findV b a).2)) = false := Reg.ol z8l
     have z8lln : ((findV b a).2) = true := Reg.bt z8ll
     have z8lr : (!((findV b k).2)) = false := Reg.orr z8l
     have z8lrn : ((findV b k).2) = true := Reg.bt z8lr
     have z8r : (a == k) = false := Reg.orr z8
     have z8ro : (a != k) = true := eqq_f z8r
     refine wSk ?_
     refine tN (wKK hK16 ?_)
     refine wSeqK fun KK19 hK19 => ?_
     intro aa ww nn dd hs H
     have hA := Lib.hid (apart_all (s := b) (a := a) (c := k) (m := 1 + n2) hW.out (by omega) z8lln z8lrn (by simpa using z8r) (by omega))
     have e_p : (((aP b a).2.2) == 0) = true := by rw [hA.out.p]; rfl
     have h_ip : Hid (InvB (aP b a).1) := Lib.hid hA.out.ip
     have e_q : (((aQ b a (1 + n2)).2.2) == 0) = true := by rw [hA.out.q]; rfl
     have h_iq : Hid (InvB (aQ b a (1 + n2)).1) := Lib.hid hA.out.iq
     have e_r : (((aR b a k (1 + n2)).2.2) == 0) = true := by rw [hA.out.r]; rfl
     have h_ir : Hid (InvB (aR b a k (1 + n2)).1) := Lib.hid hA.out.ir
     have e_u : (((aP b k).2.2) == 0) = true := by rw [hA.out.u]; rfl
     have h_iu : Hid (InvB (aP b k).1) := Lib.hid hA.out.iu
     have e_v : (((aV b a k).2.2) == 0) = true := by rw [hA.out.v]; rfl
     have h_iv : Hid (InvB (aV b a k).1) := Lib.hid hA.out.iv
     have e_w : (((aW b a k (1 + n2)).2.2) == 0) = true := by rw [hA.out.w]; rfl
     have h_iw : Hid (InvB (aW b a k (1 + n2)).1) := Lib.hid hA.out.iw
     have hlw : liveV (aW b a k (1 + n2)).1 = liveV (aR b a k (1 + n2)).1 := by unfold liveV; rw [hA.out.live]
     have hxw : (((aR b a k (1 + n2)).1.index) == ((aW b a k (1 + n2)).1.index)) = true := by rw [hA.out.index]; simp
     have hmw : modeV (aW b a k (1 + n2)).1 1 = modeV (aR b a k (1 + n2)).1 1 := hA.out.mode
     have hcl := hA.out.len
     have hll := live_len b
     have hlr := live_len (aR b a k (1 + n2)).1
     have hlz : (((liveV (aR b a k (1 + n2)).1).length : Int) == ((liveV b).length : Int) - 2) = true := by simp; omega
     have hsr := hA.out.ir.small
     have hsb := hW.out.inv.small
     have hl1 : (liveV b).length ≤ 64 := by omega
     have hl2 : (liveV (aR b a k (1 + n2)).1).length ≤ 64 := by omega
     clear hcl hll hlr hsr hsb
     refine wIn nn dd hs H ?_
     refine wReg ?_
     refine wLr rfl tybook_Book 2 rfl (bkL b.conf b.index b.room (.slice la b.live.length lc) (.slice da b.done.length dc) b.modes) rfl rfl ?_
     iterate 2 refine p_apart_w rfl ?_
     refine wLd rfl tyint 1 rfl rfl ?_
     refine wC (l := [.agg (bkA b.conf b.index b.room (.slice la b.live.length lc) (.slice da b.done.length dc) b.modes), .int .i64 a, .int .i64 (((findV b a).1).owner)]) Try.func14 rfl (by kernel_rfl) (fun wc H => cancelBC b la lc da dc a (((findV b a).1).owner) wc (hp_held H (by (repeat (first | exact List.Mem.head _ | apply List.Mem.tail)))) (hp_held H (by (repeat (first | exact List.Mem.head _ | apply List.Mem.tail)))) (Lib.hid hI.out.ok) ) rfl rfl rfl rfl ?_
     intro wc H
     rintro er wd ⟨la15_4, lc15_4, da15_4, dc15_4, rfl, hg⟩
     have H2 := hp_gotB H hg.2.2.2.2 hg.1 hg.2.1 (by decide) (by decide) hg.2.2.1 hg.2.2.2.1 (List.forall_mem_cons.2 ⟨(by (repeat (first | exact List.Mem.head _ | apply List.Mem.tail))), List.forall_mem_cons.2 ⟨(by (repeat (first | exact List.Mem.head _ | apply List.Mem.tail))), fun _ h => by cases h⟩⟩)
     refine ⟨_, rfl, wkAt H2 ?_⟩
     clear H H2
     iterate 4 refine p_apart_w rfl ?_
     refine wAl rfl rfl tybook_Book fun b20 => ?_
     refine wAl rfl rfl tyapi_Change fun b21 => ?_
     refine wSr rfl tybook_Book 1 rfl rfl rfl rfl (bkL (((aP b a).1).conf) (((aP b a).1).index) (((aP b a).1).room) (.slice la15_4 (((aP b a).1).live.length) lc15_4) (.slice da15_4 (((aP b a).1).done.length) dc15_4) (((aP b a).1).modes)) (by first | rfl | (simp only [spl]; rfl)) ?_
     refine wSr rfl tyapi_Change 0 rfl rfl rfl rfl (chL ((aP b a).2.1)) (by first | rfl | (simp only [spl]; rfl)) ?_
     refine p_apart_w rfl ?_
     refine wN ?_
     refine tN (wKK hK19 ?_)
     refine wSeqK fun KK20 hK20 => ?_
     refine wReg ?_
     refine wLr rfl tybook_Book 1 rfl (bkL (((aP b a).1).conf) (((aP b a).1).index) (((aP b a).1).room) (.slice la15_4 (((aP b a).1).live.length) lc15_4) (.slice da15_4 (((aP b a).1).done.length) dc15_4) (((aP b a).1).modes)) rfl rfl ?_
     refine p_apart_w rfl ?_
     refine wE (.int .u64 (IntKind.u64.wrap md)) rfl rfl rfl (fun aa ww hs _ => by have e124 := hs 124 _ rfl; have g124 := gt_of e124; simp only [execOp]; go_simp <;> first | rfl | omega) ?_
     refine wE (.int .u64 ((IntKind.u64.wrap md).tmod 2)) rfl rfl rfl (fun aa ww hs _ => exec_rem rfl (hs _ _ rfl) (rfl) (by omega)) ?_
     refine wE (.int .i64 n2) rfl rfl rfl (fun aa ww hs _ => by have e126 := hs 126 _ rfl; have g126 := gt_of e126; simp only [execOp]; go_simp <;> first | rfl | omega) ?_
     refine p_apart_w rfl ?_
     refine wI 128 rfl (IntWalk.i64_in _ (by omega)) ?_
     refine wC (l := [.agg (bkA (((aP b a).1).conf) (((aP b a).1).index) (((aP b a).1).room) (.slice la15_4 (((aP b a).1).live.length) lc15_4) (.slice da15_4 (((aP b a).1).done.length) dc15_4) (((aP b a).1).modes)), .int .i64 1, .int .i64 (1 + n2)]) Try.func15 rfl (by kernel_rfl) (fun wc H => setC ((aP b a).1) la15_4 lc15_4 da15_4 dc15_4 1 (1 + n2) wc (hp_held H (by (repeat (first | exact List.Mem.head _ | apply List.Mem.tail)))) (hp_held H (by (repeat (first | exact List.Mem.head _ | apply List.Mem.tail)))) (Lib.hid h_ip.out.ok) ) rfl rfl rfl rfl ?_
     intro wc H
     rintro er wd ⟨la16_6, lc16_6, da16_6, dc16_6, rfl, hg⟩
     have H2 := hp_gotB H hg.2.2.2.2 hg.1 hg.2.1 (by decide) (by decide) hg.2.2.1 hg.2.2.2.1 (List.forall_mem_cons.2 ⟨(by (repeat (first | exact List.Mem.head _ | apply List.Mem.tail))), List.forall_mem_cons.2 ⟨(by (repeat (first | exact List.Mem.head _ | apply List.Mem.tail))), fun _ h => by cases h⟩⟩)
     refine ⟨_, rfl, wkAt H2 ?_⟩
     clear H H2
     iterate 4 refine p_apart_w rfl ?_
     refine wAl rfl rfl tybook_Book fun b23 => ?_
     refine wAl rfl rfl tyapi_Change fun b24 => ?_
     refine wSr rfl tybook_Book 1 rfl rfl rfl rfl (bkL (((aQ b a (1 + n2)).1).conf) (((aQ b a (1 + n2)).1).index) (((aQ b a (1 + n2)).1).room) (.slice la16_6 (((aQ b a (1 + n2)).1).live.length) lc16_6) (.slice da16_6 (((aQ b a (1 + n2)).1).done.length) dc16_6) (((aQ b a (1 + n2)).1).modes)) (by first | rfl | (simp only [spl]; rfl)) ?_
     refine wSr rfl tyapi_Change 0 rfl rfl rfl rfl (chL ((aQ b a (1 + n2)).2.1)) (by first | rfl | (simp only [spl]; rfl)) ?_
     refine p_apart_w rfl ?_
     refine wN ?_
     refine tN (wKK hK20 ?_)
     refine wSeqK fun KK21 hK21 => ?_
     refine wReg ?_
     refine wLr rfl tybook_Book 1 rfl (bkL (((aQ b a (1 + n2)).1).conf) (((aQ b a (1 + n2)).1).index) (((aQ b a (1 + n2)).1).room) (.slice la16_6 (((aQ b a (1 + n2)).1).live.length) lc16_6) (.slice da16_6 (((aQ b a (1 + n2)).1).done.length) dc16_6) (((aQ b a (1 + n2)).1).modes)) rfl rfl ?_
     iterate 2 refine p_apart_w rfl ?_
     refine wLd rfl tyint 8 rfl rfl ?_
     refine wC (l := [.agg (bkA (((aQ b a (1 + n2)).1).conf) (((aQ b a (1 + n2)).1).index) (((aQ b a (1 + n2)).1).room) (.slice la16_6 (((aQ b a (1 + n2)).1).live.length) lc16_6) (.slice da16_6 (((aQ b a (1 + n2)).1).done.length) dc16_6) (((aQ b a (1 + n2)).1).modes)), .int .i64 k, .int .i64 (((findV b k).1).owner)]) Try.func14 rfl (by kernel_rfl) (fun wc H => cancelBC ((aQ b a (1 + n2)).1) la16_6 lc16_6 da16_6 dc16_6 k (((findV b k).1).owner) wc (hp_held H (by (repeat (first | exact List.Mem.head _ | apply List.Mem.tail)))) (hp_held H (by (repeat (first | exact List.Mem.head _ | apply List.Mem.tail)))) (Lib.hid h_iq.out.ok) ) rfl rfl rfl rfl ?_
     intro wc H
     rintro er wd ⟨la17_4, lc17_4, da17_4, dc17_4, rfl, hg⟩
     have H2 := hp_gotB H hg.2.2.2.2 hg.1 hg.2.1 (by decide) (by decide) hg.2.2.1 hg.2.2.2.1 (List.forall_mem_cons.2 ⟨(by (repeat (first | exact List.Mem.head _ | apply List.Mem.tail))), List.forall_mem_cons.2 ⟨(by (repeat (first | exact List.Mem.head _ | apply List.Mem.tail))), fun _ h => by cases h⟩⟩)
     refine ⟨_, rfl, wkAt H2 ?_⟩
     clear H H2
     iterate 4 refine p_apart_w rfl ?_
     refine wAl rfl rfl tybook_Book fun b26 => ?_
     refine wAl rfl rfl tyapi_Change fun b27 => ?_
     refine wSr rfl tybook_Book 1 rfl rfl rfl rfl (bkL (((aR b a k (1 + n2)).1).conf) (((aR b a k (1 + n2)).1).index) (((aR b a k (1 + n2)).1).room) (.slice la17_4 (((aR b a k (1 + n2)).1).live.length) lc17_4) (.slice da17_4 (((aR b a k (1 + n2)).1).done.length) dc17_4) (((aR b a k (1 + n2)).1).modes)) (by first | rfl | (simp only [spl]; rfl)) ?_
     refine wSr rfl tyapi_Change 0 rfl rfl rfl rfl (chL ((aR b a k (1 + n2)).2.1)) (by first | rfl | (simp only [spl]; rfl)) ?_
     refine p_apart_w rfl ?_
     refine wN ?_
     refine tN (wKK hK21 ?_)
     refine wSeqK fun KK22 hK22 => ?_
     refine wReg ?_
     refine wLr rfl tybook_Book 14 rfl (bkL b.conf b.index b.room (.slice la b.live.length lc) (.slice da b.done.length dc) b.modes) rfl rfl ?_
     iterate 2 refine p_apart_w rfl ?_
     refine wLd rfl tyint 12 rfl rfl ?_
     refine wC (l := [.agg (bkA b.conf b.index b.room (.slice la b.live.length lc) (.slice da b.done.length dc) b.modes), .int .i64 k, .int .i64 (((findV b k).1).owner)]) Try.func14 rfl (by kernel_rfl) (fun wc H => cancelBC b la lc da dc k (((findV b k).1).owner) wc (hp_held H (by (repeat (first | exact List.Mem.head _ | apply List.Mem.tail)))) (hp_held H (by (repeat (first | exact List.Mem.head _ | apply List.Mem.tail)))) (Lib.hid hI.out.ok) ) rfl rfl rfl rfl ?_
     intro wc H
     rintro er wd ⟨la18_4, lc18_4, da18_4, dc18_4, rfl, hg⟩
     have H2 := hp_gotB H hg.2.2.2.2 hg.1 hg.2.1 (by decide) (by decide) hg.2.2.1 hg.2.2.2.1 (List.forall_mem_cons.2 ⟨(by (repeat (first | exact List.Mem.head _ | apply List.Mem.tail))), List.forall_mem_cons.2 ⟨(by (repeat (first | exact List.Mem.head _ | apply List.Mem.tail))), fun _ h => by cases h⟩⟩)
     refine ⟨_, rfl, wkAt H2 ?_⟩
     clear H H2
     iterate 4 refine p_apart_w rfl ?_
     refine wAl rfl rfl tybook_Book fun b29 => ?_
     refine wAl rfl rfl tyapi_Change fun b30 => ?_
     refine wSr rfl tybook_Book 1 rfl rfl rfl rfl (bkL (((aP b k).1).conf) (((aP b k).1).index) (((aP b k).1).room) (.slice la18_4 (((aP b k).1).live.length) lc18_4) (.slice da18_4 (((aP b k).1).done.length) dc18_4) (((aP b k).1).modes)) (by first | rfl | (simp only [spl]; rfl)) ?_
     refine wSr rfl tyapi_Change 0 rfl rfl rfl rfl (chL ((aP b k).2.1)) (by first | rfl | (simp only [spl]; rfl)) ?_
     refine p_apart_w rfl ?_
     refine wN ?_
     refine tN (wKK hK22 ?_)
     refine wSeqK fun KK23 hK23 => ?_
     refine wReg ?_
     refine wLr rfl tybook_Book 1 rfl (bkL (((aP b k).1).conf) (((aP b k).1).index) (((aP b k).1).room) (.slice la18_4 (((aP b k).1).live.length) lc18_4) (.slice da18_4 (((aP b k).1).done.length) dc18_4) (((aP b k).1).modes)) rfl rfl ?_
     iterate 2 refine p_apart_w rfl ?_
     refine wLd rfl tyint 17 rfl rfl ?_
     refine wC (l := [.agg (bkA (((aP b k).1).conf) (((aP b k).1).index) (((aP b k).1).room) (.slice la18_4 (((aP b k).1).live.length) lc18_4) (.slice da18_4 (((aP b k).1).done.length) dc18_4) (((aP b k).1).modes)), .int .i64 a, .int .i64 (((findV b a).1).owner)]) Try.func14 rfl (by kernel_rfl) (fun wc H => cancelBC ((aP b k).1) la18_4 lc18_4 da18_4 dc18_4 a (((findV b a).1).owner) wc (hp_held H (by (repeat (first | exact List.Mem.head _ | apply List.Mem.tail)))) (hp_held H (by (repeat (first | exact List.Mem.head _ | apply List.Mem.tail)))) (Lib.hid h_iu.out.ok) ) rfl rfl rfl rfl ?_
     intro wc H
     rintro er wd ⟨la19_4, lc19_4, da19_4, dc19_4, rfl, hg⟩
     have H2 := hp_gotB H hg.2.2.2.2 hg.1 hg.2.1 (by decide) (by decide) hg.2.2.1 hg.2.2.2.1 (List.forall_mem_cons.2 ⟨(by (repeat (first | exact List.Mem.head _ | apply List.Mem.tail))), List.forall_mem_cons.2 ⟨(by (repeat (first | exact List.Mem.head _ | apply List.Mem.tail))), fun _ h => by cases h⟩⟩)
     refine ⟨_, rfl, wkAt H2 ?_⟩
     clear H H2
     iterate 4 refine p_apart_w rfl ?_
     refine wAl rfl rfl tybook_Book fun b32 => ?_
     refine wAl rfl rfl tyapi_Change fun b33 => ?_
     refine wSr rfl tybook_Book 1 rfl rfl rfl rfl (bkL (((aV b a k).1).conf) (((aV b a k).1).index) (((aV b a k).1).room) (.slice la19_4 (((aV b a k).1).live.length) lc19_4) (.slice da19_4 (((aV b a k).1).done.length) dc19_4) (((aV b a k).1).modes)) (by first | rfl | (simp only [spl]; rfl)) ?_
     refine wSr rfl tyapi_Change 0 rfl rfl rfl rfl (chL ((aV b a k).2.1)) (by first | rfl | (simp only [spl]; rfl)) ?_
     refine p_apart_w rfl ?_
     refine wN ?_
     refine tN (wKK hK23 ?_)
     refine wSeqK fun KK24 hK24 => ?_
     refine wReg ?_
     refine wLr rfl tybook_Book 1 rfl (bkL (((aV b a k).1).conf) (((aV b a k).1).index) (((aV b a k).1).room) (.slice la19_4 (((aV b a k).1).live.length) lc19_4) (.slice da19_4 (((aV b a k).1).done.length) dc19_4) (((aV b a k).1).modes)) rfl rfl ?_
     refine p_apart_w rfl ?_
     refine wE (.int .u64 (IntKind.u64.wrap md)) rfl rfl rfl (fun aa ww hs _ => by have e162 := hs 162 _ rfl; have g162 := gt_of e162; simp only [execOp]; go_simp <;> first | rfl | omega) ?_
     refine wE (.int .u64 ((IntKind.u64.wrap md).tmod 2)) rfl rfl rfl (fun aa ww hs _ => exec_rem rfl (hs _ _ rfl) (rfl) (by omega)) ?_
     refine wE (.int .i64 n2) rfl rfl rfl (fun aa ww hs _ => by have e164 := hs 164 _ rfl; have g164 := gt_of e164; simp only [execOp]; go_simp <;> first | rfl | omega) ?_
     refine p_apart_w rfl ?_
     refine wI 166 rfl (IntWalk.i64_in _ (by omega)) ?_
     refine wC (l := [.agg (bkA (((aV b a k).1).conf) (((aV b a k).1).index) (((aV b a k).1).room) (.slice la19_4 (((aV b a k).1).live.length) lc19_4) (.slice da19_4 (((aV b a k).1).done.length) dc19_4) (((aV b a k).1).modes)), .int .i64 1, .int .i64 (1 + n2)]) Try.func15 rfl (by kernel_rfl) (fun wc H => setC ((aV b a k).1) la19_4 lc19_4 da19_4 dc19_4 1 (1 + n2) wc (hp_held H (by (repeat (first | exact List.Mem.head _ | apply List.Mem.tail)))) (hp_held H (by (repeat (first | exact List.Mem.head _ | apply List.Mem.tail)))) (Lib.hid h_iv.out.ok) ) rfl rfl rfl rfl ?_
     intro wc H
     rintro er wd ⟨la20_6, lc20_6, da20_6, dc20_6, rfl, hg⟩
     have H2 := hp_gotB H hg.2.2.2.2 hg.1 hg.2.1 (by decide) (by decide) hg.2.2.1 hg.2.2.2.1 (List.forall_mem_cons.2 ⟨(by (repeat (first | exact List.Mem.head _ | apply List.Mem.tail))), List.forall_mem_cons.2 ⟨(by (repeat (first | exact List.Mem.head _ | apply List.Mem.tail))), fun _ h => by cases h⟩⟩)
     refine ⟨_, rfl, wkAt H2 ?_⟩
     clear H H2
     iterate 4 refine p_apart_w rfl ?_
     refine wAl rfl rfl tybook_Book fun b35 => ?_
     refine wAl rfl rfl tyapi_Change fun b36 => ?_
     refine wSr rfl tybook_Book 1 rfl rfl rfl rfl (bkL (((aW b a k (1 + n2)).1).conf) (((aW b a k (1 + n2)).1).index) (((aW b a k (1 + n2)).1).room) (.slice la20_6 (((aW b a k (1 + n2)).1).live.length) lc20_6) (.slice da20_6 (((aW b a k (1 + n2)).1).done.length) dc20_6) (((aW b a k (1 + n2)).1).modes)) (by first | rfl | (simp only [spl]; rfl)) ?_
     refine wSr rfl tyapi_Change 0 rfl rfl rfl rfl (chL ((aW b a k (1 + n2)).2.1)) (by first | rfl | (simp only [spl]; rfl)) ?_
     refine p_apart_w rfl ?_
     refine wN ?_
     refine tN (wKK hK24 ?_)
     refine wSeqK fun KK25 hK25 => ?_
     intro aa ww nn dd hs H
     refine apart_w_r21 n2 c pa pc ds a k md b5 b11 i b la lc da dc b16 b18 la15_4 lc15_4 da15_4 dc15_4 b20 b21 la16_6 lc16_6 da16_6 dc16_6 b23 b24 la17_4 lc17_4 da17_4 dc17_4 b26 b27 la18_4 lc18_4 da18_4 dc18_4 b29 b30 la19_4 lc19_4 da19_4 dc19_4 b32 b33 la20_6 lc20_6 da20_6 dc20_6 b35 b36 hn01 hn2 hi hi2 hix hI hbi e_p e_q e_r h_ir e_u e_v e_w h_iw hxw hmw hlz hlw hl1 hl2 H aa nn (hs 11 _ rfl) (hs 22 _ rfl) (hs 25 _ rfl) (hs 26 _ rfl) (hs 28 _ rfl) (hs 31 _ rfl) (hs 34 _ rfl) (hs 35 _ rfl) (hs 37 _ rfl) ?_
     intro a21_24 c21_24 a21_26 c21_26 a21_45 c21_45 a21_48 c21_48 ab wv nn2 dd2 kp o10 H2
     refine wIn nn2 (dd2.trans dd) (Sat.cons (Sat.cons (Sat.cons (Sat.cons (Sat.cons (Sat.cons (Sat.cons (Sat.cons (Sat.cons (Sat.cons (Sat.cons (Sat.cons (Sat.cons (Sat.cons (Sat.cons (Sat.cons (Sat.cons (Sat.cons (Sat.cons (Sat.cons (Sat.cons (Sat.cons (Sat.cons (Sat.cons (Sat.cons (Sat.cons (Sat.cons (Sat.cons (sat_nil ab) ((kp 112 rfl).trans (hs 112 _ rfl))) ((kp 49 rfl).trans (hs 49 _ rfl))) ((kp 39 rfl).trans (hs 39 _ rfl))) ((kp 37 rfl).trans (hs 37 _ rfl))) ((kp 35 rfl).trans (hs 35 _ rfl))) ((kp 34 rfl).trans (hs 34 _ rfl))) ((kp 32 rfl).trans (hs 32 _ rfl))) ((kp 31 rfl).trans (hs 31 _ rfl))) ((kp 29 rfl).trans (hs 29 _ rfl))) ((kp 28 rfl).trans (hs 28 _ rfl))) ((kp 26 rfl).trans (hs 26 _ rfl))) ((kp 25 rfl).trans (hs 25 _ rfl))) ((kp 23 rfl).trans (hs 23 _ rfl))) ((kp 22 rfl).trans (hs 22 _ rfl))) ((kp 20 rfl).trans (hs 20 _ rfl))) ((kp 19 rfl).trans (hs 19 _ rfl))) ((kp 18 rfl).trans (hs 18 _ rfl))) ((kp 17 rfl).trans (hs 17 _ rfl))) ((kp 16 rfl).trans (hs 16 _ rfl))) ((kp 12 rfl).trans (hs 12 _ rfl))) ((kp 11 rfl).trans (hs 11 _ rfl))) ((kp 5 rfl).trans (hs 5 _ rfl))) ((kp 4 rfl).trans (hs 4 _ rfl))) ((kp 3 rfl).trans (hs 3 _ rfl))) ((kp 2 rfl).trans (hs 2 _ rfl))) ((kp 1 rfl).trans (hs 1 _ rfl))) ((kp 0 rfl).trans (hs 0 _ rfl))) o10) H2 ?_
     clear hs H kp H2 dd dd2 nn nn2 o10
     refine tN (wKK hK25 ?_)
     refine wRet ?_
     exact wR1 rfl rfl (fun ww H => ⟨rfl, H.out.off⟩)
end Go.Proofs.Ytnanihffljpdbaa.Bk
