/- Ticks make nothing stale: the walk. -/
import Derived.Test.YtnanihffljpdbaaProg
import Derived.Below
import Derived.WalkKit
import Derived.KernelRfl
import Derived.RowKit3
import Derived.Deep.LoopGhost
import Derived.Deep.QuietTactic
import Derived.BigQuiet
import Derived.WideLaws
import Derived.Deep.DeepCutAuto
import Derived.Deep.CutBlock
import Derived.Lib.Hide
import Derived.Laws.BitsLemmas
import Derived.Laws.Bits64
import Derived.Laws.BitsAllLaws
import Derived.IntWalk
import Derived.Outline
import Derived.WalkSpells
import Derived.Test.YtnanihffljpdbaaGA
import Derived.Test.YtnanihffljpdbaaVt3
namespace Go.Proofs.Ytnanihffljpdbaa.Bk
open Go.RowKit Go.Proofs.Ytnanihffljpdbaa.Mem Go.Proofs.Ytnanihffljpdbaa.Reg Go.Proofs.Ytnanihffljpdbaa.Wk Go.Proofs.Ytnanihffljpdbaa.Si Go.Proofs.Ytnanihffljpdbaa.Ca Go.Proofs.Ytnanihffljpdbaa.Sc6 Go.Proofs.Ytnanihffljpdbaa.Vt
set_option linter.unusedVariables false
set_option linter.unusedSimpArgs false

def tab_ticks_w : Wk.Tab := [(84, 0, 0), (84, 1, 26)]
theorem p_ticks_w {ops : Array Oper} {rest : List Oper} {o : Oper} {w0 : World} {Q : Exit → Act → World → Prop} {S : List Nat} {R : List Res} {K K' : Wk.Env} {N : Nat} (h : Wk.stp tab_ticks_w N ops K o = some K') (n : Wk.Wk N S w0 K' R (wpList Try.prog ops Q rest)) : Wk.Wk N S w0 K R (wpList Try.prog ops Q (o :: rest)) := Wk.wP (T := tab_ticks_w) (by kernel_rfl) h n
set_option maxHeartbeats 4000000 in
set_option maxRecDepth 20000 in
theorem ticks_w_r25 (m : Nat) (c : Cfg) (x : CallV) (t : Int) (f : Bool) (b4 : Nat) (b5 : Nat) (v3_1 : Nat) (la3_1 : Option Addr) (lc3_1 : Nat) (da3_1 : Option Addr) (dc3_1 : Nat) (b10 : Nat) (la7_3 : Option Addr) (lc7_3 : Nat) (da7_3 : Option Addr) (dc7_3 : Nat) (b11 : Nat) (b12 : Nat) (i : Nat) (b16 : Nat) (la21_2 : Option Addr) (lc21_2 : Nat) (da21_2 : Option Addr) (dc21_2 : Nat) (b17 : Nat) (b18 : Nat) (ga22_6 : Option Addr) (gc22_6 : Nat) (c24_1 : Nat) (y : Addr) (hm40 : m < 40) (hm : IntKind.i64.wrap ((IntKind.u64.wrap t).tmod 40) = (m : Int)) (hap : applyV (newB c) ((placeV (newB c) x 1 0).2.1) = ((placeV (newB c) x 1 0).1, 0)) (haq : applyV ((placeV (newB c) x 1 0).1) ((cancelBV ((placeV (newB c) x 1 0).1) 1 1).2.1) = ((cancelBV ((placeV (newB c) x 1 0).1) 1 1).1, 0)) (hcz : (((cancelBV ((placeV (newB c) x 1 0).1) 1 1).2.2) == 0) = true) (hi : i ≤ m) (z3d : ¬ (i < m)) (him : ((i : Int) != (m : Int)) = false) (hk1 : ((((([] : List ChgV) ++ [((placeV (newB c) x 1 0).2.1)]).length : Int)) != 1) = false) (hf1 : (((atN (([] : List ChgV) ++ [((placeV (newB c) x 1 0).2.1)]) 1 : Nat) : Int) != 1) = false) (hl1 : ((([((cancelBV ((placeV (newB c) x 1 0).1) 1 1).2.1)] : List ChgV).length : Int) == 1) = true) (HR : Hid (([((cancelBV ((placeV (newB c) x 1 0).1) 1 1).2.1)].map chgRow)[0]? = some [.int .i64 (((cancelBV ((placeV (newB c) x 1 0).1) 1 1).2.1).index), .int .i64 ((((cancelBV ((placeV (newB c) x 1 0).1) 1 1).2.1).call).id), .int .i64 ((((cancelBV ((placeV (newB c) x 1 0).1) 1 1).2.1).call).kind), .int .i64 ((((cancelBV ((placeV (newB c) x 1 0).1) 1 1).2.1).call).src), .int .i64 ((((cancelBV ((placeV (newB c) x 1 0).1) 1 1).2.1).call).dst), .int .i64 ((((cancelBV ((placeV (newB c) x 1 0).1) 1 1).2.1).call).car), .int .i64 ((((cancelBV ((placeV (newB c) x 1 0).1) 1 1).2.1).call).state), .int .i64 ((((cancelBV ((placeV (newB c) x 1 0).1) 1 1).2.1).call).owner), .int .i64 ((((cancelBV ((placeV (newB c) x 1 0).1) 1 1).2.1).call).born), .int .i64 (((cancelBV ((placeV (newB c) x 1 0).1) 1 1).2.1).car), .int .i64 (((cancelBV ((placeV (newB c) x 1 0).1) 1 1).2.1).mode)])) {wa wb : World} (H : Hid (Hp [] wa wb [rS (some y) c24_1 11 ([((cancelBV ((placeV (newB c) x 1 0).1) 1 1).2.1)].map chgRow), rB v3_1 115 (vtL (((cancelBV ((placeV (newB c) x 1 0).1) 1 1).1).conf) (((cancelBV ((placeV (newB c) x 1 0).1) 1 1).1).index) (((cancelBV ((placeV (newB c) x 1 0).1) 1 1).1).room) (.slice la21_2 (((cancelBV ((placeV (newB c) x 1 0).1) 1 1).1).live.length) lc21_2) (.slice da21_2 (((cancelBV ((placeV (newB c) x 1 0).1) 1 1).1).done.length) dc21_2) (((cancelBV ((placeV (newB c) x 1 0).1) 1 1).1).modes) c c.keys (i : Int) (.slice ga22_6 ((([] : List ChgV) ++ [((cancelBV ((placeV (newB c) x 1 0).1) 1 1).2.1)]).length) gc22_6) (((0 + 1) + 1) + 1) (0 + 1)), rA ga22_6 gc22_6 40 11 ((([] : List ChgV) ++ [((cancelBV ((placeV (newB c) x 1 0).1) 1 1).2.1)]).map chgRow), rS la7_3 lc7_3 9 (((placeV (newB c) x 1 0).1).live.map rowOf), rS da7_3 dc7_3 8 (((placeV (newB c) x 1 0).1).done.map callRow), rS la21_2 lc21_2 9 (((cancelBV ((placeV (newB c) x 1 0).1) 1 1).1).live.map rowOf), rS da21_2 dc21_2 8 (((cancelBV ((placeV (newB c) x 1 0).1) 1 1).1).done.map callRow), rB b18 40 (chL ((cancelBV ((placeV (newB c) x 1 0).1) 1 1).2.1)), rB b17 33 (bkL (((cancelBV ((placeV (newB c) x 1 0).1) 1 1).1).conf) (((cancelBV ((placeV (newB c) x 1 0).1) 1 1).1).index) (((cancelBV ((placeV (newB c) x 1 0).1) 1 1).1).room) (.slice la21_2 (((cancelBV ((placeV (newB c) x 1 0).1) 1 1).1).live.length) lc21_2) (.slice da21_2 (((cancelBV ((placeV (newB c) x 1 0).1) 1 1).1).done.length) dc21_2) (((cancelBV ((placeV (newB c) x 1 0).1) 1 1).1).modes)), rB b16 84 (snL (((placeV (newB c) x 1 0).1).conf) (((placeV (newB c) x 1 0).1).index) (((placeV (newB c) x 1 0).1).room) (.slice la7_3 (((placeV (newB c) x 1 0).1).live.length) lc7_3) (.slice da7_3 (((placeV (newB c) x 1 0).1).done.length) dc7_3) (((placeV (newB c) x 1 0).1).modes) c c.keys (i : Int)), rS la3_1 lc3_1 9 ((newB c).live.map rowOf), rS da3_1 dc3_1 8 ((newB c).done.map callRow), rB b12 40 (chL ((placeV (newB c) x 1 0).2.1)), rB b11 33 (bkL (((placeV (newB c) x 1 0).1).conf) (((placeV (newB c) x 1 0).1).index) (((placeV (newB c) x 1 0).1).room) (.slice la7_3 (((placeV (newB c) x 1 0).1).live.length) lc7_3) (.slice da7_3 (((placeV (newB c) x 1 0).1).done.length) dc7_3) (((placeV (newB c) x 1 0).1).modes)), rB b10 84 (snL ((newB c).conf) ((newB c).index) ((newB c).room) (.slice la3_1 ((newB c).live.length) lc3_1) (.slice da3_1 ((newB c).done.length) dc3_1) ((newB c).modes) c c.keys 0), rB b5 38 (xL x), rB b4 24 (cL c)])) (ac0 : Act) (hz : ac0.tmps.size = 126) (so18 : ac0.eval (.tmp 18) = .pointer (some ⟨b18, 0, none⟩)) (so19 : ac0.eval (.tmp 19) = .int .i64 ((cancelBV ((placeV (newB c) x 1 0).1) 1 1).2.2)) (so20 : ac0.eval (.tmp 20) = .int .i64 0) (so21 : ac0.eval (.tmp 21) = .int .i64 9) (so22 : ac0.eval (.tmp 22) = .slice (some y) ([((cancelBV ((placeV (newB c) x 1 0).1) 1 1).2.1)].length) c24_1) {QR : Exit → Act → World → Prop} (hfin : ∀ (ac1 : Act) (wz : World), ac1.tmps.size = 126 → ac1.defers = ac0.defers → (∀ t, ([8, 104, 105, 106, 107, 108, 109, 110, 111, 112, 113, 114, 115, 116, 117, 118, 119, 120, 121, 122, 123, 124, 125] : List Nat).contains t = false → ac1.eval (.tmp t) = ac0.eval (.tmp t)) → ac1.eval (.tmp 8) = .bool true →  Hid (Hp [] wa wz [rS (some y) c24_1 11 ([((cancelBV ((placeV (newB c) x 1 0).1) 1 1).2.1)].map chgRow), rB v3_1 115 (vtL (((cancelBV ((placeV (newB c) x 1 0).1) 1 1).1).conf) (((cancelBV ((placeV (newB c) x 1 0).1) 1 1).1).index) (((cancelBV ((placeV (newB c) x 1 0).1) 1 1).1).room) (.slice la21_2 (((cancelBV ((placeV (newB c) x 1 0).1) 1 1).1).live.length) lc21_2) (.slice da21_2 (((cancelBV ((placeV (newB c) x 1 0).1) 1 1).1).done.length) dc21_2) (((cancelBV ((placeV (newB c) x 1 0).1) 1 1).1).modes) c c.keys (i : Int) (.slice ga22_6 ((([] : List ChgV) ++ [((cancelBV ((placeV (newB c) x 1 0).1) 1 1).2.1)]).length) gc22_6) (((0 + 1) + 1) + 1) (0 + 1)), rA ga22_6 gc22_6 40 11 ((([] : List ChgV) ++ [((cancelBV ((placeV (newB c) x 1 0).1) 1 1).2.1)]).map chgRow), rS la7_3 lc7_3 9 (((placeV (newB c) x 1 0).1).live.map rowOf), rS da7_3 dc7_3 8 (((placeV (newB c) x 1 0).1).done.map callRow), rS la21_2 lc21_2 9 (((cancelBV ((placeV (newB c) x 1 0).1) 1 1).1).live.map rowOf), rS da21_2 dc21_2 8 (((cancelBV ((placeV (newB c) x 1 0).1) 1 1).1).done.map callRow), rB b18 40 (chL ((cancelBV ((placeV (newB c) x 1 0).1) 1 1).2.1)), rB b17 33 (bkL (((cancelBV ((placeV (newB c) x 1 0).1) 1 1).1).conf) (((cancelBV ((placeV (newB c) x 1 0).1) 1 1).1).index) (((cancelBV ((placeV (newB c) x 1 0).1) 1 1).1).room) (.slice la21_2 (((cancelBV ((placeV (newB c) x 1 0).1) 1 1).1).live.length) lc21_2) (.slice da21_2 (((cancelBV ((placeV (newB c) x 1 0).1) 1 1).1).done.length) dc21_2) (((cancelBV ((placeV (newB c) x 1 0).1) 1 1).1).modes)), rB b16 84 (snL (((placeV (newB c) x 1 0).1).conf) (((placeV (newB c) x 1 0).1).index) (((placeV (newB c) x 1 0).1).room) (.slice la7_3 (((placeV (newB c) x 1 0).1).live.length) lc7_3) (.slice da7_3 (((placeV (newB c) x 1 0).1).done.length) dc7_3) (((placeV (newB c) x 1 0).1).modes) c c.keys (i : Int)), rS la3_1 lc3_1 9 ((newB c).live.map rowOf), rS da3_1 dc3_1 8 ((newB c).done.map callRow), rB b12 40 (chL ((placeV (newB c) x 1 0).2.1)), rB b11 33 (bkL (((placeV (newB c) x 1 0).1).conf) (((placeV (newB c) x 1 0).1).index) (((placeV (newB c) x 1 0).1).room) (.slice la7_3 (((placeV (newB c) x 1 0).1).live.length) lc7_3) (.slice da7_3 (((placeV (newB c) x 1 0).1).done.length) dc7_3) (((placeV (newB c) x 1 0).1).modes)), rB b10 84 (snL ((newB c).conf) ((newB c).index) ((newB c).room) (.slice la3_1 ((newB c).live.length) lc3_1) (.slice da3_1 ((newB c).done.length) dc3_1) ((newB c).modes) c c.keys 0), rB b5 38 (xL x), rB b4 24 (cL c)]) → QR .normal ac1 wz) : (regAt Try.f8 25).wp Try.prog QR ac0 wb := by
  refine wp_region_st mixedP ⟨[0, 1, 2, 3, 4, 5, 6, 7, 8, 9, 10, 11, 12, 13, 14, 15, 16, 17, 18, 16, 19, 20, 21], by kernel_rfl⟩ [[], [0], [0, 1], [0, 1, 2], [0, 1, 2, 3], [0, 1, 2, 3, 4], [0, 1, 2, 3, 4, 5], [0, 1, 2, 3, 4, 5, 6], [0, 1, 2, 3, 4, 5, 6, 7], [0, 1, 2, 3, 4, 5, 6, 7, 8], [0, 1, 2, 3, 4, 5, 6, 7, 8, 9], [0, 1, 2, 3, 4, 5, 6, 7, 8, 9, 10], [0, 1, 2, 3, 4, 5, 6, 7, 8, 9, 10, 11], [0, 1, 2, 3, 4, 5, 6, 7, 8, 9, 10, 11, 12], [0, 1, 2, 3, 4, 5, 6, 7, 8, 9, 10, 11, 12, 13], [0, 1, 2, 3, 4, 5, 6, 7, 8, 9, 10, 11, 12, 13, 14], [0, 1, 2, 3, 4, 5, 6, 7, 8, 9, 10, 11, 12, 13, 14, 15], [0, 1, 2, 3, 4, 5, 6, 7, 8, 9, 10, 11, 12, 13, 14, 15, 16], [0, 1, 2, 3, 4, 5, 6, 7, 8, 9, 10, 11, 12, 13, 14, 15, 16, 17], [0, 1, 2, 3, 4, 5, 6, 7, 8, 9, 10, 11, 12, 13, 14, 15], [0, 1, 2, 3, 4, 5, 6, 7, 8, 9, 10, 11, 12, 13, 14, 15, 16, 17, 18, 19], [0, 1, 2, 3, 4, 5, 6, 7, 8, 9, 10, 11, 12, 13, 14, 15, 16, 17, 18, 19, 20], [0, 1, 2, 3, 4, 5, 6, 7, 8, 9, 10, 11, 12, 13, 14, 15, 16, 17, 18, 19, 20, 21]] (by kernel_rfl) (by kernel_rfl) 126 hz (by kernel_rfl) (fun (xx : Unit) jx => nth [.int .i64 ((cancelBV ((placeV (newB c) x 1 0).1) 1 1).2.2), .bool true, .bool true, .int .i64 0, .bool true, .bool true, .bool true, .int .i64 9, .bool true, .bool true, .bool true, .slice (some y) ([((cancelBV ((placeV (newB c) x 1 0).1) 1 1).2.1)].length) c24_1, .int .i64 ([((cancelBV ((placeV (newB c) x 1 0).1) 1 1).2.1)].length), .bool true, .bool true, .bool true, .slice (some y) ([((cancelBV ((placeV (newB c) x 1 0).1) 1 1).2.1)].length) c24_1, .pointer (some (y.add (0 * 11))), .agg (chA ((cancelBV ((placeV (newB c) x 1 0).1) 1 1).2.1)), .agg (chA ((cancelBV ((placeV (newB c) x 1 0).1) 1 1).2.1)), .bool true, .bool true, .bool true] jx) (fun (LL : Nat → Bool) (xx : Unit) ww => Hp [] wa ww [rS (some y) c24_1 11 ([((cancelBV ((placeV (newB c) x 1 0).1) 1 1).2.1)].map chgRow), rB v3_1 115 (vtL (((cancelBV ((placeV (newB c) x 1 0).1) 1 1).1).conf) (((cancelBV ((placeV (newB c) x 1 0).1) 1 1).1).index) (((cancelBV ((placeV (newB c) x 1 0).1) 1 1).1).room) (.slice la21_2 (((cancelBV ((placeV (newB c) x 1 0).1) 1 1).1).live.length) lc21_2) (.slice da21_2 (((cancelBV ((placeV (newB c) x 1 0).1) 1 1).1).done.length) dc21_2) (((cancelBV ((placeV (newB c) x 1 0).1) 1 1).1).modes) c c.keys (i : Int) (.slice ga22_6 ((([] : List ChgV) ++ [((cancelBV ((placeV (newB c) x 1 0).1) 1 1).2.1)]).length) gc22_6) (((0 + 1) + 1) + 1) (0 + 1)), rA ga22_6 gc22_6 40 11 ((([] : List ChgV) ++ [((cancelBV ((placeV (newB c) x 1 0).1) 1 1).2.1)]).map chgRow), rS la7_3 lc7_3 9 (((placeV (newB c) x 1 0).1).live.map rowOf), rS da7_3 dc7_3 8 (((placeV (newB c) x 1 0).1).done.map callRow), rS la21_2 lc21_2 9 (((cancelBV ((placeV (newB c) x 1 0).1) 1 1).1).live.map rowOf), rS da21_2 dc21_2 8 (((cancelBV ((placeV (newB c) x 1 0).1) 1 1).1).done.map callRow), rB b18 40 (chL ((cancelBV ((placeV (newB c) x 1 0).1) 1 1).2.1)), rB b17 33 (bkL (((cancelBV ((placeV (newB c) x 1 0).1) 1 1).1).conf) (((cancelBV ((placeV (newB c) x 1 0).1) 1 1).1).index) (((cancelBV ((placeV (newB c) x 1 0).1) 1 1).1).room) (.slice la21_2 (((cancelBV ((placeV (newB c) x 1 0).1) 1 1).1).live.length) lc21_2) (.slice da21_2 (((cancelBV ((placeV (newB c) x 1 0).1) 1 1).1).done.length) dc21_2) (((cancelBV ((placeV (newB c) x 1 0).1) 1 1).1).modes)), rB b16 84 (snL (((placeV (newB c) x 1 0).1).conf) (((placeV (newB c) x 1 0).1).index) (((placeV (newB c) x 1 0).1).room) (.slice la7_3 (((placeV (newB c) x 1 0).1).live.length) lc7_3) (.slice da7_3 (((placeV (newB c) x 1 0).1).done.length) dc7_3) (((placeV (newB c) x 1 0).1).modes) c c.keys (i : Int)), rS la3_1 lc3_1 9 ((newB c).live.map rowOf), rS da3_1 dc3_1 8 ((newB c).done.map callRow), rB b12 40 (chL ((placeV (newB c) x 1 0).2.1)), rB b11 33 (bkL (((placeV (newB c) x 1 0).1).conf) (((placeV (newB c) x 1 0).1).index) (((placeV (newB c) x 1 0).1).room) (.slice la7_3 (((placeV (newB c) x 1 0).1).live.length) lc7_3) (.slice da7_3 (((placeV (newB c) x 1 0).1).done.length) dc7_3) (((placeV (newB c) x 1 0).1).modes)), rB b10 84 (snL ((newB c).conf) ((newB c).index) ((newB c).room) (.slice la3_1 ((newB c).live.length) lc3_1) (.slice da3_1 ((newB c).done.length) dc3_1) ((newB c).modes) c c.keys 0), rB b5 38 (xL x), rB b4 24 (cL c)]) () H.out.drew ?_ (steps_al ?_) ?_ ?_
  · exact fun _ _ _ _ _ h => h
  · refine al_cons ?_ (al_cons ?_ (al_cons ?_ (al_cons ?_ (al_cons ?_ (al_cons ?_ (al_cons ?_ (al_cons ?_ (al_cons ?_ (al_cons ?_ (al_cons ?_ (al_cons ?_ (al_cons ?_ (al_cons ?_ (al_cons ?_ (al_cons ?_ (al_cons ?_ (al_cons ?_ (al_cons ?_ (al_cons ?_ (al_cons ?_ (al_cons ?_ (al_cons ?_ (al_nil)))))))))))))))))))))))
    · intro LL xx ac wc sg hst hwant QQ hgo
      exact op_val hwant hgo hst _ (exec_move rfl ((sg.free 19 (by kernel_rfl)).trans so19)) rfl
    · intro LL xx ac wc sg hst hwant QQ hgo
      have se104 : ac.eval (.tmp 104) = _ := (sg.slot 0 (sg.anc 0 rfl))
      have sg104 := gt_of se104
      (try simp only [nth] at se104 sg104)
      exact op_val hwant hgo hst _ (by simp only [execOp, nth]; go_simp <;> omega) rfl
    · intro LL xx ac wc sg hst hwant QQ hgo
      exact op_val hwant hgo hst _ (exec_move rfl (sg.slot 1 (sg.anc 1 rfl))) rfl
    · intro LL xx ac wc sg hst hwant QQ hgo
      exact op_val hwant hgo hst _ (exec_move rfl ((sg.free 20 (by kernel_rfl)).trans so20)) rfl
    · intro LL xx ac wc sg hst hwant QQ hgo
      have se107 : ac.eval (.tmp 107) = _ := (sg.slot 3 (sg.anc 3 rfl))
      have sg107 := gt_of se107
      (try simp only [nth] at se107 sg107)
      exact op_val hwant hgo hst _ (by simp only [execOp, nth]; go_simp <;> omega) rfl
    · intro LL xx ac wc sg hst hwant QQ hgo
      exact op_val hwant hgo hst (.bool true) (exec_pick (B := true) (U := .bool true) (V := undef) rfl (sg.slot 2 (sg.anc 2 rfl)) (fun _ => (sg.slot 4 (sg.anc 4 rfl))) (fun h => by cases h)) rfl
    · intro LL xx ac wc sg hst hwant QQ hgo
      exact op_val hwant hgo hst _ (exec_move rfl (sg.slot 5 (sg.anc 5 rfl))) rfl
    · intro LL xx ac wc sg hst hwant QQ hgo
      exact op_val hwant hgo hst _ (exec_move rfl ((sg.free 21 (by kernel_rfl)).trans so21)) rfl
    · intro LL xx ac wc sg hst hwant QQ hgo
      have se111 : ac.eval (.tmp 111) = _ := (sg.slot 7 (sg.anc 7 rfl))
      have sg111 := gt_of se111
      (try simp only [nth] at se111 sg111)
      exact op_val hwant hgo hst _ (by simp only [execOp, nth]; go_simp <;> omega) rfl
    · intro LL xx ac wc sg hst hwant QQ hgo
      exact op_val hwant hgo hst (.bool true) (exec_pick (B := true) (U := .bool true) (V := undef) rfl (sg.slot 6 (sg.anc 6 rfl)) (fun _ => (sg.slot 8 (sg.anc 8 rfl))) (fun h => by cases h)) rfl
    · intro LL xx ac wc sg hst hwant QQ hgo
      exact op_val hwant hgo hst _ (exec_move rfl (sg.slot 9 (sg.anc 9 rfl))) rfl
    · intro LL xx ac wc sg hst hwant QQ hgo
      exact op_val hwant hgo hst _ (exec_move rfl ((sg.free 22 (by kernel_rfl)).trans so22)) rfl
    · intro LL xx ac wc sg hst hwant QQ hgo
      have se115 : ac.eval (.tmp 115) = _ := (sg.slot 11 (sg.anc 11 rfl))
      have sg115 := gt_of se115
      (try simp only [nth] at se115 sg115)
      exact op_val hwant hgo hst _ (by simp only [execOp, nth]; go_simp <;> omega) rfl
    · intro LL xx ac wc sg hst hwant QQ hgo
      have se116 : ac.eval (.tmp 116) = _ := (sg.slot 12 (sg.anc 12 rfl))
      have sg116 := gt_of se116
      (try simp only [nth] at se116 sg116)
      exact op_val hwant hgo hst _ (by simp only [execOp, nth]; go_simp <;> omega) rfl
    · intro LL xx ac wc sg hst hwant QQ hgo
      exact op_val hwant hgo hst (.bool true) (exec_pick (B := true) (U := .bool true) (V := undef) rfl (sg.slot 10 (sg.anc 10 rfl)) (fun _ => (sg.slot 13 (sg.anc 13 rfl))) (fun h => by cases h)) rfl
    · intro LL xx ac wc sg hst hwant QQ hgo
      exact op_val hwant hgo hst _ (exec_move rfl (sg.slot 14 (sg.anc 14 rfl))) rfl
    · intro LL xx ac wc sg hst hwant QQ hgo
      exact op_val hwant hgo hst _ (exec_move rfl ((sg.free 22 (by kernel_rfl)).trans so22)) rfl
    · intro LL xx ac wc sg hst hwant QQ hgo
      have se120 : ac.eval (.tmp 120) = _ := (sg.slot 16 (sg.anc 16 rfl))
      have sg120 := gt_of se120
      (try simp only [nth] at se120 sg120)
      exact op_val hwant hgo hst _ (by simp only [execOp, nth]; go_simp <;> omega) rfl
    · intro LL xx ac wc sg hst hwant QQ hgo
      have H := Lib.hid hst
      refine hpS_load tyapi_Change H (y := y) rfl (sg.slot 17 (sg.anc 17 rfl)) hwant (by (repeat (first | exact List.Mem.head _ | apply List.Mem.tail))) HR.out rfl ?_
      exact hgo _ () _ (fun _ _ => rfl) rfl hst
    · intro LL xx ac wc sg hst hwant QQ hgo
      have H := Lib.hid hst
      refine hpA_load tyapi_Change H rfl ((sg.free 18 (by kernel_rfl)).trans so18) hwant (by (repeat (first | exact List.Mem.head _ | apply List.Mem.tail))) (by rfl) rfl ?_
      exact hgo _ () _ (fun _ _ => rfl) rfl hst
    · intro LL xx ac wc sg hst hwant QQ hgo
      exact op_val hwant hgo hst (.bool (true)) (exec_eql rfl (sg.slot 18 (sg.anc 18 rfl)) (sg.slot 19 (sg.anc 19 rfl)) (by kernel_rfl) (run_eq_chg_same ((cancelBV ((placeV (newB c) x 1 0).1) 1 1).2.1) wc)) (congrArg Value.bool (by simp))
    · intro LL xx ac wc sg hst hwant QQ hgo
      exact op_val hwant hgo hst (.bool true) (exec_pick (B := true) (U := .bool true) (V := undef) rfl (sg.slot 15 (sg.anc 15 rfl)) (fun _ => (sg.slot 20 (sg.anc 20 rfl))) (fun h => by cases h)) rfl
    · intro LL xx ac wc sg hst hwant QQ hgo
      exact op_val hwant hgo hst _ (exec_assign rfl (sg.slot 21 (sg.anc 21 rfl))) rfl
  · refine skips [3, 4, 7, 8, 11, 12, 13, 16, 17, 18, 19, 20] (by kernel_rfl) ?_
    refine List.forall_mem_cons.2 ⟨?_, List.forall_mem_cons.2 ⟨?_, List.forall_mem_cons.2 ⟨?_, List.forall_mem_cons.2 ⟨?_, List.forall_mem_cons.2 ⟨?_, List.forall_mem_cons.2 ⟨?_, List.forall_mem_cons.2 ⟨?_, List.forall_mem_cons.2 ⟨?_, List.forall_mem_cons.2 ⟨?_, List.forall_mem_cons.2 ⟨?_, List.forall_mem_cons.2 ⟨?_, List.forall_mem_cons.2 ⟨?_, fun _ h => by cases h⟩⟩⟩⟩⟩⟩⟩⟩⟩⟩⟩⟩
    · intro oo hop LL xx ac sg hwant
      cases Option.some.inj hop
      exact absurd ((want_t rfl rfl (sg.slot 2 (sg.anc 2 rfl))).symm.trans hwant) (by decide)
    · intro oo hop LL xx ac sg hwant
      cases Option.some.inj hop
      exact absurd ((want_t rfl rfl (sg.slot 2 (sg.anc 2 rfl))).symm.trans hwant) (by decide)
    · intro oo hop LL xx ac sg hwant
      cases Option.some.inj hop
      exact absurd ((want_t rfl rfl (sg.slot 6 (sg.anc 6 rfl))).symm.trans hwant) (by decide)
    · intro oo hop LL xx ac sg hwant
      cases Option.some.inj hop
      exact absurd ((want_t rfl rfl (sg.slot 6 (sg.anc 6 rfl))).symm.trans hwant) (by decide)
    · intro oo hop LL xx ac sg hwant
      cases Option.some.inj hop
      exact absurd ((want_t rfl rfl (sg.slot 10 (sg.anc 10 rfl))).symm.trans hwant) (by decide)
    · intro oo hop LL xx ac sg hwant
      cases Option.some.inj hop
      exact absurd ((want_t rfl rfl (sg.slot 10 (sg.anc 10 rfl))).symm.trans hwant) (by decide)
    · intro oo hop LL xx ac sg hwant
      cases Option.some.inj hop
      exact absurd ((want_t rfl rfl (sg.slot 10 (sg.anc 10 rfl))).symm.trans hwant) (by decide)
    · intro oo hop LL xx ac sg hwant
      cases Option.some.inj hop
      exact absurd ((want_t rfl rfl (sg.slot 15 (sg.anc 15 rfl))).symm.trans hwant) (by decide)
    · intro oo hop LL xx ac sg hwant
      cases Option.some.inj hop
      exact absurd ((want_t rfl rfl (sg.slot 15 (sg.anc 15 rfl))).symm.trans hwant) (by decide)
    · intro oo hop LL xx ac sg hwant
      cases Option.some.inj hop
      exact absurd ((want_t rfl rfl (sg.slot 15 (sg.anc 15 rfl))).symm.trans hwant) (by decide)
    · intro oo hop LL xx ac sg hwant
      cases Option.some.inj hop
      exact absurd ((want_t rfl rfl (sg.slot 15 (sg.anc 15 rfl))).symm.trans hwant) (by decide)
    · intro oo hop LL xx ac sg hwant
      cases Option.some.inj hop
      exact absurd ((want_t rfl rfl (sg.slot 15 (sg.anc 15 rfl))).symm.trans hwant) (by decide)
  · intro xx ac1 wz hfr hsl hst
    exact hfin ac1 wz (hfr.size.trans hz) hfr.defers (fr_keep hfr [8, 104, 105, 106, 107, 108, 109, 110, 111, 112, 113, 114, 115, 116, 117, 118, 119, 120, 121, 122, 123, 124, 125] (by kernel_rfl)) (hsl 22 (by decide)) (Lib.hid hst)
set_option maxHeartbeats 4000000 in
set_option maxRecDepth 20000 in
theorem ticks_w_r25x1 (m : Nat) (c : Cfg) (x : CallV) (t : Int) (f : Bool) (b4 : Nat) (b5 : Nat) (v3_1 : Nat) (la3_1 : Option Addr) (lc3_1 : Nat) (da3_1 : Option Addr) (dc3_1 : Nat) (b10 : Nat) (la7_3 : Option Addr) (lc7_3 : Nat) (da7_3 : Option Addr) (dc7_3 : Nat) (b11 : Nat) (b12 : Nat) (i : Nat) (b16 : Nat) (la21_2 : Option Addr) (lc21_2 : Nat) (da21_2 : Option Addr) (dc21_2 : Nat) (b17 : Nat) (b18 : Nat) (ga22_6 : Option Addr) (gc22_6 : Nat) (c24_1 : Nat) (y : Addr) (hm40 : m < 40) (hm : IntKind.i64.wrap ((IntKind.u64.wrap t).tmod 40) = (m : Int)) (hap : applyV (newB c) ((placeV (newB c) x 1 0).2.1) = ((placeV (newB c) x 1 0).1, 0)) (haq : applyV ((placeV (newB c) x 1 0).1) ((cancelBV ((placeV (newB c) x 1 0).1) 1 1).2.1) = ((cancelBV ((placeV (newB c) x 1 0).1) 1 1).1, 0)) (hcz : (((cancelBV ((placeV (newB c) x 1 0).1) 1 1).2.2) == 0) = true) (hi : i ≤ m) (z3d : ¬ (i < m)) (him : ((i : Int) != (m : Int)) = false) (hk1 : ((((([] : List ChgV) ++ [((placeV (newB c) x 1 0).2.1)]).length : Int)) != 1) = false) (hl1 : ((([((cancelBV ((placeV (newB c) x 1 0).1) 1 1).2.1)] : List ChgV).length : Int) == 1) = true) (HR : Hid (([((cancelBV ((placeV (newB c) x 1 0).1) 1 1).2.1)].map chgRow)[0]? = some [.int .i64 (((cancelBV ((placeV (newB c) x 1 0).1) 1 1).2.1).index), .int .i64 ((((cancelBV ((placeV (newB c) x 1 0).1) 1 1).2.1).call).id), .int .i64 ((((cancelBV ((placeV (newB c) x 1 0).1) 1 1).2.1).call).kind), .int .i64 ((((cancelBV ((placeV (newB c) x 1 0).1) 1 1).2.1).call).src), .int .i64 ((((cancelBV ((placeV (newB c) x 1 0).1) 1 1).2.1).call).dst), .int .i64 ((((cancelBV ((placeV (newB c) x 1 0).1) 1 1).2.1).call).car), .int .i64 ((((cancelBV ((placeV (newB c) x 1 0).1) 1 1).2.1).call).state), .int .i64 ((((cancelBV ((placeV (newB c) x 1 0).1) 1 1).2.1).call).owner), .int .i64 ((((cancelBV ((placeV (newB c) x 1 0).1) 1 1).2.1).call).born), .int .i64 (((cancelBV ((placeV (newB c) x 1 0).1) 1 1).2.1).car), .int .i64 (((cancelBV ((placeV (newB c) x 1 0).1) 1 1).2.1).mode)])) {wa wb : World} (H : Hid (Hp [] wa wb [rS (some y) c24_1 11 ([((cancelBV ((placeV (newB c) x 1 0).1) 1 1).2.1)].map chgRow), rB v3_1 115 (vtL (((cancelBV ((placeV (newB c) x 1 0).1) 1 1).1).conf) (((cancelBV ((placeV (newB c) x 1 0).1) 1 1).1).index) (((cancelBV ((placeV (newB c) x 1 0).1) 1 1).1).room) (.slice la21_2 (((cancelBV ((placeV (newB c) x 1 0).1) 1 1).1).live.length) lc21_2) (.slice da21_2 (((cancelBV ((placeV (newB c) x 1 0).1) 1 1).1).done.length) dc21_2) (((cancelBV ((placeV (newB c) x 1 0).1) 1 1).1).modes) c c.keys (i : Int) (.slice ga22_6 (((([] : List ChgV) ++ [((placeV (newB c) x 1 0).2.1)]) ++ [((cancelBV ((placeV (newB c) x 1 0).1) 1 1).2.1)]).length) gc22_6) (((0 + 1) + 1) + 1) (0 + 1)), rA ga22_6 gc22_6 40 11 (((([] : List ChgV) ++ [((placeV (newB c) x 1 0).2.1)]) ++ [((cancelBV ((placeV (newB c) x 1 0).1) 1 1).2.1)]).map chgRow), rS la7_3 lc7_3 9 (((placeV (newB c) x 1 0).1).live.map rowOf), rS da7_3 dc7_3 8 (((placeV (newB c) x 1 0).1).done.map callRow), rS la21_2 lc21_2 9 (((cancelBV ((placeV (newB c) x 1 0).1) 1 1).1).live.map rowOf), rS da21_2 dc21_2 8 (((cancelBV ((placeV (newB c) x 1 0).1) 1 1).1).done.map callRow), rB b18 40 (chL ((cancelBV ((placeV (newB c) x 1 0).1) 1 1).2.1)), rB b17 33 (bkL (((cancelBV ((placeV (newB c) x 1 0).1) 1 1).1).conf) (((cancelBV ((placeV (newB c) x 1 0).1) 1 1).1).index) (((cancelBV ((placeV (newB c) x 1 0).1) 1 1).1).room) (.slice la21_2 (((cancelBV ((placeV (newB c) x 1 0).1) 1 1).1).live.length) lc21_2) (.slice da21_2 (((cancelBV ((placeV (newB c) x 1 0).1) 1 1).1).done.length) dc21_2) (((cancelBV ((placeV (newB c) x 1 0).1) 1 1).1).modes)), rB b16 84 (snL (((placeV (newB c) x 1 0).1).conf) (((placeV (newB c) x 1 0).1).index) (((placeV (newB c) x 1 0).1).room) (.slice la7_3 (((placeV (newB c) x 1 0).1).live.length) lc7_3) (.slice da7_3 (((placeV (newB c) x 1 0).1).done.length) dc7_3) (((placeV (newB c) x 1 0).1).modes) c c.keys (i : Int)), rS la3_1 lc3_1 9 ((newB c).live.map rowOf), rS da3_1 dc3_1 8 ((newB c).done.map callRow), rB b12 40 (chL ((placeV (newB c) x 1 0).2.1)), rB b11 33 (bkL (((placeV (newB c) x 1 0).1).conf) (((placeV (newB c) x 1 0).1).index) (((placeV (newB c) x 1 0).1).room) (.slice la7_3 (((placeV (newB c) x 1 0).1).live.length) lc7_3) (.slice da7_3 (((placeV (newB c) x 1 0).1).done.length) dc7_3) (((placeV (newB c) x 1 0).1).modes)), rB b10 84 (snL ((newB c).conf) ((newB c).index) ((newB c).room) (.slice la3_1 ((newB c).live.length) lc3_1) (.slice da3_1 ((newB c).done.length) dc3_1) ((newB c).modes) c c.keys 0), rB b5 38 (xL x), rB b4 24 (cL c)])) (ac0 : Act) (hz : ac0.tmps.size = 126) (so18 : ac0.eval (.tmp 18) = .pointer (some ⟨b18, 0, none⟩)) (so19 : ac0.eval (.tmp 19) = .int .i64 ((cancelBV ((placeV (newB c) x 1 0).1) 1 1).2.2)) (so20 : ac0.eval (.tmp 20) = .int .i64 0) (so21 : ac0.eval (.tmp 21) = .int .i64 9) (so22 : ac0.eval (.tmp 22) = .slice (some y) ([((cancelBV ((placeV (newB c) x 1 0).1) 1 1).2.1)].length) c24_1) {QR : Exit → Act → World → Prop} (hfin : ∀ (ac1 : Act) (wz : World), ac1.tmps.size = 126 → ac1.defers = ac0.defers → (∀ t, ([8, 104, 105, 106, 107, 108, 109, 110, 111, 112, 113, 114, 115, 116, 117, 118, 119, 120, 121, 122, 123, 124, 125] : List Nat).contains t = false → ac1.eval (.tmp t) = ac0.eval (.tmp t)) → ac1.eval (.tmp 8) = .bool true →  Hid (Hp [] wa wz [rS (some y) c24_1 11 ([((cancelBV ((placeV (newB c) x 1 0).1) 1 1).2.1)].map chgRow), rB v3_1 115 (vtL (((cancelBV ((placeV (newB c) x 1 0).1) 1 1).1).conf) (((cancelBV ((placeV (newB c) x 1 0).1) 1 1).1).index) (((cancelBV ((placeV (newB c) x 1 0).1) 1 1).1).room) (.slice la21_2 (((cancelBV ((placeV (newB c) x 1 0).1) 1 1).1).live.length) lc21_2) (.slice da21_2 (((cancelBV ((placeV (newB c) x 1 0).1) 1 1).1).done.length) dc21_2) (((cancelBV ((placeV (newB c) x 1 0).1) 1 1).1).modes) c c.keys (i : Int) (.slice ga22_6 (((([] : List ChgV) ++ [((placeV (newB c) x 1 0).2.1)]) ++ [((cancelBV ((placeV (newB c) x 1 0).1) 1 1).2.1)]).length) gc22_6) (((0 + 1) + 1) + 1) (0 + 1)), rA ga22_6 gc22_6 40 11 (((([] : List ChgV) ++ [((placeV (newB c) x 1 0).2.1)]) ++ [((cancelBV ((placeV (newB c) x 1 0).1) 1 1).2.1)]).map chgRow), rS la7_3 lc7_3 9 (((placeV (newB c) x 1 0).1).live.map rowOf), rS da7_3 dc7_3 8 (((placeV (newB c) x 1 0).1).done.map callRow), rS la21_2 lc21_2 9 (((cancelBV ((placeV (newB c) x 1 0).1) 1 1).1).live.map rowOf), rS da21_2 dc21_2 8 (((cancelBV ((placeV (newB c) x 1 0).1) 1 1).1).done.map callRow), rB b18 40 (chL ((cancelBV ((placeV (newB c) x 1 0).1) 1 1).2.1)), rB b17 33 (bkL (((cancelBV ((placeV (newB c) x 1 0).1) 1 1).1).conf) (((cancelBV ((placeV (newB c) x 1 0).1) 1 1).1).index) (((cancelBV ((placeV (newB c) x 1 0).1) 1 1).1).room) (.slice la21_2 (((cancelBV ((placeV (newB c) x 1 0).1) 1 1).1).live.length) lc21_2) (.slice da21_2 (((cancelBV ((placeV (newB c) x 1 0).1) 1 1).1).done.length) dc21_2) (((cancelBV ((placeV (newB c) x 1 0).1) 1 1).1).modes)), rB b16 84 (snL (((placeV (newB c) x 1 0).1).conf) (((placeV (newB c) x 1 0).1).index) (((placeV (newB c) x 1 0).1).room) (.slice la7_3 (((placeV (newB c) x 1 0).1).live.length) lc7_3) (.slice da7_3 (((placeV (newB c) x 1 0).1).done.length) dc7_3) (((placeV (newB c) x 1 0).1).modes) c c.keys (i : Int)), rS la3_1 lc3_1 9 ((newB c).live.map rowOf), rS da3_1 dc3_1 8 ((newB c).done.map callRow), rB b12 40 (chL ((placeV (newB c) x 1 0).2.1)), rB b11 33 (bkL (((placeV (newB c) x 1 0).1).conf) (((placeV (newB c) x 1 0).1).index) (((placeV (newB c) x 1 0).1).room) (.slice la7_3 (((placeV (newB c) x 1 0).1).live.length) lc7_3) (.slice da7_3 (((placeV (newB c) x 1 0).1).done.length) dc7_3) (((placeV (newB c) x 1 0).1).modes)), rB b10 84 (snL ((newB c).conf) ((newB c).index) ((newB c).room) (.slice la3_1 ((newB c).live.length) lc3_1) (.slice da3_1 ((newB c).done.length) dc3_1) ((newB c).modes) c c.keys 0), rB b5 38 (xL x), rB b4 24 (cL c)]) → QR .normal ac1 wz) : (regAt Try.f8 25).wp Try.prog QR ac0 wb := by
  refine wp_region_st mixedP ⟨[0, 1, 2, 3, 4, 5, 6, 7, 8, 9, 10, 11, 12, 13, 14, 15, 16, 17, 18, 16, 19, 20, 21], by kernel_rfl⟩ [[], [0], [0, 1], [0, 1, 2], [0, 1, 2, 3], [0, 1, 2, 3, 4], [0, 1, 2, 3, 4, 5], [0, 1, 2, 3, 4, 5, 6], [0, 1, 2, 3, 4, 5, 6, 7], [0, 1, 2, 3, 4, 5, 6, 7, 8], [0, 1, 2, 3, 4, 5, 6, 7, 8, 9], [0, 1, 2, 3, 4, 5, 6, 7, 8, 9, 10], [0, 1, 2, 3, 4, 5, 6, 7, 8, 9, 10, 11], [0, 1, 2, 3, 4, 5, 6, 7, 8, 9, 10, 11, 12], [0, 1, 2, 3, 4, 5, 6, 7, 8, 9, 10, 11, 12, 13], [0, 1, 2, 3, 4, 5, 6, 7, 8, 9, 10, 11, 12, 13, 14], [0, 1, 2, 3, 4, 5, 6, 7, 8, 9, 10, 11, 12, 13, 14, 15], [0, 1, 2, 3, 4, 5, 6, 7, 8, 9, 10, 11, 12, 13, 14, 15, 16], [0, 1, 2, 3, 4, 5, 6, 7, 8, 9, 10, 11, 12, 13, 14, 15, 16, 17], [0, 1, 2, 3, 4, 5, 6, 7, 8, 9, 10, 11, 12, 13, 14, 15], [0, 1, 2, 3, 4, 5, 6, 7, 8, 9, 10, 11, 12, 13, 14, 15, 16, 17, 18, 19], [0, 1, 2, 3, 4, 5, 6, 7, 8, 9, 10, 11, 12, 13, 14, 15, 16, 17, 18, 19, 20], [0, 1, 2, 3, 4, 5, 6, 7, 8, 9, 10, 11, 12, 13, 14, 15, 16, 17, 18, 19, 20, 21]] (by kernel_rfl) (by kernel_rfl) 126 hz (by kernel_rfl) (fun (xx : Unit) jx => nth [.int .i64 ((cancelBV ((placeV (newB c) x 1 0).1) 1 1).2.2), .bool true, .bool true, .int .i64 0, .bool true, .bool true, .bool true, .int .i64 9, .bool true, .bool true, .bool true, .slice (some y) ([((cancelBV ((placeV (newB c) x 1 0).1) 1 1).2.1)].length) c24_1, .int .i64 ([((cancelBV ((placeV (newB c) x 1 0).1) 1 1).2.1)].length), .bool true, .bool true, .bool true, .slice (some y) ([((cancelBV ((placeV (newB c) x 1 0).1) 1 1).2.1)].length) c24_1, .pointer (some (y.add (0 * 11))), .agg (chA ((cancelBV ((placeV (newB c) x 1 0).1) 1 1).2.1)), .agg (chA ((cancelBV ((placeV (newB c) x 1 0).1) 1 1).2.1)), .bool true, .bool true, .bool true] jx) (fun (LL : Nat → Bool) (xx : Unit) ww => Hp [] wa ww [rS (some y) c24_1 11 ([((cancelBV ((placeV (newB c) x 1 0).1) 1 1).2.1)].map chgRow), rB v3_1 115 (vtL (((cancelBV ((placeV (newB c) x 1 0).1) 1 1).1).conf) (((cancelBV ((placeV (newB c) x 1 0).1) 1 1).1).index) (((cancelBV ((placeV (newB c) x 1 0).1) 1 1).1).room) (.slice la21_2 (((cancelBV ((placeV (newB c) x 1 0).1) 1 1).1).live.length) lc21_2) (.slice da21_2 (((cancelBV ((placeV (newB c) x 1 0).1) 1 1).1).done.length) dc21_2) (((cancelBV ((placeV (newB c) x 1 0).1) 1 1).1).modes) c c.keys (i : Int) (.slice ga22_6 (((([] : List ChgV) ++ [((placeV (newB c) x 1 0).2.1)]) ++ [((cancelBV ((placeV (newB c) x 1 0).1) 1 1).2.1)]).length) gc22_6) (((0 + 1) + 1) + 1) (0 + 1)), rA ga22_6 gc22_6 40 11 (((([] : List ChgV) ++ [((placeV (newB c) x 1 0).2.1)]) ++ [((cancelBV ((placeV (newB c) x 1 0).1) 1 1).2.1)]).map chgRow), rS la7_3 lc7_3 9 (((placeV (newB c) x 1 0).1).live.map rowOf), rS da7_3 dc7_3 8 (((placeV (newB c) x 1 0).1).done.map callRow), rS la21_2 lc21_2 9 (((cancelBV ((placeV (newB c) x 1 0).1) 1 1).1).live.map rowOf), rS da21_2 dc21_2 8 (((cancelBV ((placeV (newB c) x 1 0).1) 1 1).1).done.map callRow), rB b18 40 (chL ((cancelBV ((placeV (newB c) x 1 0).1) 1 1).2.1)), rB b17 33 (bkL (((cancelBV ((placeV (newB c) x 1 0).1) 1 1).1).conf) (((cancelBV ((placeV (newB c) x 1 0).1) 1 1).1).index) (((cancelBV ((placeV (newB c) x 1 0).1) 1 1).1).room) (.slice la21_2 (((cancelBV ((placeV (newB c) x 1 0).1) 1 1).1).live.length) lc21_2) (.slice da21_2 (((cancelBV ((placeV (newB c) x 1 0).1) 1 1).1).done.length) dc21_2) (((cancelBV ((placeV (newB c) x 1 0).1) 1 1).1).modes)), rB b16 84 (snL (((placeV (newB c) x 1 0).1).conf) (((placeV (newB c) x 1 0).1).index) (((placeV (newB c) x 1 0).1).room) (.slice la7_3 (((placeV (newB c) x 1 0).1).live.length) lc7_3) (.slice da7_3 (((placeV (newB c) x 1 0).1).done.length) dc7_3) (((placeV (newB c) x 1 0).1).modes) c c.keys (i : Int)), rS la3_1 lc3_1 9 ((newB c).live.map rowOf), rS da3_1 dc3_1 8 ((newB c).done.map callRow), rB b12 40 (chL ((placeV (newB c) x 1 0).2.1)), rB b11 33 (bkL (((placeV (newB c) x 1 0).1).conf) (((placeV (newB c) x 1 0).1).index) (((placeV (newB c) x 1 0).1).room) (.slice la7_3 (((placeV (newB c) x 1 0).1).live.length) lc7_3) (.slice da7_3 (((placeV (newB c) x 1 0).1).done.length) dc7_3) (((placeV (newB c) x 1 0).1).modes)), rB b10 84 (snL ((newB c).conf) ((newB c).index) ((newB c).room) (.slice la3_1 ((newB c).live.length) lc3_1) (.slice da3_1 ((newB c).done.length) dc3_1) ((newB c).modes) c c.keys 0), rB b5 38 (xL x), rB b4 24 (cL c)]) () H.out.drew ?_ (steps_al ?_) ?_ ?_
  · exact fun _ _ _ _ _ h => h
  · refine al_cons ?_ (al_cons ?_ (al_cons ?_ (al_cons ?_ (al_cons ?_ (al_cons ?_ (al_cons ?_ (al_cons ?_ (al_cons ?_ (al_cons ?_ (al_cons ?_ (al_cons ?_ (al_cons ?_ (al_cons ?_ (al_cons ?_ (al_cons ?_ (al_cons ?_ (al_cons ?_ (al_cons ?_ (al_cons ?_ (al_cons ?_ (al_cons ?_ (al_cons ?_ (al_nil)))))))))))))))))))))))
    · intro LL xx ac wc sg hst hwant QQ hgo
      exact op_val hwant hgo hst _ (exec_move rfl ((sg.free 19 (by kernel_rfl)).trans so19)) rfl
    · intro LL xx ac wc sg hst hwant QQ hgo
      have se104 : ac.eval (.tmp 104) = _ := (sg.slot 0 (sg.anc 0 rfl))
      have sg104 := gt_of se104
      (try simp only [nth] at se104 sg104)
      exact op_val hwant hgo hst _ (by simp only [execOp, nth]; go_simp <;> omega) rfl
    · intro LL xx ac wc sg hst hwant QQ hgo
      exact op_val hwant hgo hst _ (exec_move rfl (sg.slot 1 (sg.anc 1 rfl))) rfl
    · intro LL xx ac wc sg hst hwant QQ hgo
      exact op_val hwant hgo hst _ (exec_move rfl ((sg.free 20 (by kernel_rfl)).trans so20)) rfl
    · intro LL xx ac wc sg hst hwant QQ hgo
      have se107 : ac.eval (.tmp 107) = _ := (sg.slot 3 (sg.anc 3 rfl))
      have sg107 := gt_of se107
      (try simp only [nth] at se107 sg107)
      exact op_val hwant hgo hst _ (by simp only [execOp, nth]; go_simp <;> omega) rfl
    · intro LL xx ac wc sg hst hwant QQ hgo
      exact op_val hwant hgo hst (.bool true) (exec_pick (B := true) (U := .bool true) (V := undef) rfl (sg.slot 2 (sg.anc 2 rfl)) (fun _ => (sg.slot 4 (sg.anc 4 rfl))) (fun h => by cases h)) rfl
    · intro LL xx ac wc sg hst hwant QQ hgo
      exact op_val hwant hgo hst _ (exec_move rfl (sg.slot 5 (sg.anc 5 rfl))) rfl
    · intro LL xx ac wc sg hst hwant QQ hgo
      exact op_val hwant hgo hst _ (exec_move rfl ((sg.free 21 (by kernel_rfl)).trans so21)) rfl
    · intro LL xx ac wc sg hst hwant QQ hgo
      have se111 : ac.eval (.tmp 111) = _ := (sg.slot 7 (sg.anc 7 rfl))
      have sg111 := gt_of se111
      (try simp only [nth] at se111 sg111)
      exact op_val hwant hgo hst _ (by simp only [execOp, nth]; go_simp <;> omega) rfl
    · intro LL xx ac wc sg hst hwant QQ hgo
      exact op_val hwant hgo hst (.bool true) (exec_pick (B := true) (U := .bool true) (V := undef) rfl (sg.slot 6 (sg.anc 6 rfl)) (fun _ => (sg.slot 8 (sg.anc 8 rfl))) (fun h => by cases h)) rfl
    · intro LL xx ac wc sg hst hwant QQ hgo
      exact op_val hwant hgo hst _ (exec_move rfl (sg.slot 9 (sg.anc 9 rfl))) rfl
    · intro LL xx ac wc sg hst hwant QQ hgo
      exact op_val hwant hgo hst _ (exec_move rfl ((sg.free 22 (by kernel_rfl)).trans so22)) rfl
    · intro LL xx ac wc sg hst hwant QQ hgo
      have se115 : ac.eval (.tmp 115) = _ := (sg.slot 11 (sg.anc 11 rfl))
      have sg115 := gt_of se115
      (try simp only [nth] at se115 sg115)
      exact op_val hwant hgo hst _ (by simp only [execOp, nth]; go_simp <;> omega) rfl
    · intro LL xx ac wc sg hst hwant QQ hgo
      have se116 : ac.eval (.tmp 116) = _ := (sg.slot 12 (sg.anc 12 rfl))
      have sg116 := gt_of se116
      (try simp only [nth] at se116 sg116)
      exact op_val hwant hgo hst _ (by simp only [execOp, nth]; go_simp <;> omega) rfl
    · intro LL xx ac wc sg hst hwant QQ hgo
      exact op_val hwant hgo hst (.bool true) (exec_pick (B := true) (U := .bool true) (V := undef) rfl (sg.slot 10 (sg.anc 10 rfl)) (fun _ => (sg.slot 13 (sg.anc 13 rfl))) (fun h => by cases h)) rfl
    · intro LL xx ac wc sg hst hwant QQ hgo
      exact op_val hwant hgo hst _ (exec_move rfl (sg.slot 14 (sg.anc 14 rfl))) rfl
    · intro LL xx ac wc sg hst hwant QQ hgo
      exact op_val hwant hgo hst _ (exec_move rfl ((sg.free 22 (by kernel_rfl)).trans so22)) rfl
    · intro LL xx ac wc sg hst hwant QQ hgo
      have se120 : ac.eval (.tmp 120) = _ := (sg.slot 16 (sg.anc 16 rfl))
      have sg120 := gt_of se120
      (try simp only [nth] at se120 sg120)
      exact op_val hwant hgo hst _ (by simp only [execOp, nth]; go_simp <;> omega) rfl
    · intro LL xx ac wc sg hst hwant QQ hgo
      have H := Lib.hid hst
      refine hpS_load tyapi_Change H (y := y) rfl (sg.slot 17 (sg.anc 17 rfl)) hwant (by (repeat (first | exact List.Mem.head _ | apply List.Mem.tail))) HR.out rfl ?_
      exact hgo _ () _ (fun _ _ => rfl) rfl hst
    · intro LL xx ac wc sg hst hwant QQ hgo
      have H := Lib.hid hst
      refine hpA_load tyapi_Change H rfl ((sg.free 18 (by kernel_rfl)).trans so18) hwant (by (repeat (first | exact List.Mem.head _ | apply List.Mem.tail))) (by rfl) rfl ?_
      exact hgo _ () _ (fun _ _ => rfl) rfl hst
    · intro LL xx ac wc sg hst hwant QQ hgo
      exact op_val hwant hgo hst (.bool (true)) (exec_eql rfl (sg.slot 18 (sg.anc 18 rfl)) (sg.slot 19 (sg.anc 19 rfl)) (by kernel_rfl) (run_eq_chg_same ((cancelBV ((placeV (newB c) x 1 0).1) 1 1).2.1) wc)) (congrArg Value.bool (by simp))
    · intro LL xx ac wc sg hst hwant QQ hgo
      exact op_val hwant hgo hst (.bool true) (exec_pick (B := true) (U := .bool true) (V := undef) rfl (sg.slot 15 (sg.anc 15 rfl)) (fun _ => (sg.slot 20 (sg.anc 20 rfl))) (fun h => by cases h)) rfl
    · intro LL xx ac wc sg hst hwant QQ hgo
      exact op_val hwant hgo hst _ (exec_assign rfl (sg.slot 21 (sg.anc 21 rfl))) rfl
  · refine skips [3, 4, 7, 8, 11, 12, 13, 16, 17, 18, 19, 20] (by kernel_rfl) ?_
    refine List.forall_mem_cons.2 ⟨?_, List.forall_mem_cons.2 ⟨?_, List.forall_mem_cons.2 ⟨?_, List.forall_mem_cons.2 ⟨?_, List.forall_mem_cons.2 ⟨?_, List.forall_mem_cons.2 ⟨?_, List.forall_mem_cons.2 ⟨?_, List.forall_mem_cons.2 ⟨?_, List.forall_mem_cons.2 ⟨?_, List.forall_mem_cons.2 ⟨?_, List.forall_mem_cons.2 ⟨?_, List.forall_mem_cons.2 ⟨?_, fun _ h => by cases h⟩⟩⟩⟩⟩⟩⟩⟩⟩⟩⟩⟩
    · intro oo hop LL xx ac sg hwant
      cases Option.some.inj hop
      exact absurd ((want_t rfl rfl (sg.slot 2 (sg.anc 2 rfl))).symm.trans hwant) (by decide)
    · intro oo hop LL xx ac sg hwant
      cases Option.some.inj hop
      exact absurd ((want_t rfl rfl (sg.slot 2 (sg.anc 2 rfl))).symm.trans hwant) (by decide)
    · intro oo hop LL xx ac sg hwant
      cases Option.some.inj hop
      exact absurd ((want_t rfl rfl (sg.slot 6 (sg.anc 6 rfl))).symm.trans hwant) (by decide)
    · intro oo hop LL xx ac sg hwant
      cases Option.some.inj hop
      exact absurd ((want_t rfl rfl (sg.slot 6 (sg.anc 6 rfl))).symm.trans hwant) (by decide)
    · intro oo hop LL xx ac sg hwant
      cases Option.some.inj hop
      exact absurd ((want_t rfl rfl (sg.slot 10 (sg.anc 10 rfl))).symm.trans hwant) (by decide)
    · intro oo hop LL xx ac sg hwant
      cases Option.some.inj hop
      exact absurd ((want_t rfl rfl (sg.slot 10 (sg.anc 10 rfl))).symm.trans hwant) (by decide)
    · intro oo hop LL xx ac sg hwant
      cases Option.some.inj hop
      exact absurd ((want_t rfl rfl (sg.slot 10 (sg.anc 10 rfl))).symm.trans hwant) (by decide)
    · intro oo hop LL xx ac sg hwant
      cases Option.some.inj hop
      exact absurd ((want_t rfl rfl (sg.slot 15 (sg.anc 15 rfl))).symm.trans hwant) (by decide)
    · intro oo hop LL xx ac sg hwant
      cases Option.some.inj hop
      exact absurd ((want_t rfl rfl (sg.slot 15 (sg.anc 15 rfl))).symm.trans hwant) (by decide)
    · intro oo hop LL xx ac sg hwant
      cases Option.some.inj hop
      exact absurd ((want_t rfl rfl (sg.slot 15 (sg.anc 15 rfl))).symm.trans hwant) (by decide)
    · intro oo hop LL xx ac sg hwant
      cases Option.some.inj hop
      exact absurd ((want_t rfl rfl (sg.slot 15 (sg.anc 15 rfl))).symm.trans hwant) (by decide)
    · intro oo hop LL xx ac sg hwant
      cases Option.some.inj hop
      exact absurd ((want_t rfl rfl (sg.slot 15 (sg.anc 15 rfl))).symm.trans hwant) (by decide)
  · intro xx ac1 wz hfr hsl hst
    exact hfin ac1 wz (hfr.size.trans hz) hfr.defers (fr_keep hfr [8, 104, 105, 106, 107, 108, 109, 110, 111, 112, 113, 114, 115, 116, 117, 118, 119, 120, 121, 122, 123, 124, 125] (by kernel_rfl)) (hsl 22 (by decide)) (Lib.hid hst)
set_option maxHeartbeats 16000000 in
set_option maxRecDepth 20000 in
theorem ticks_w (c : Cfg) (x : CallV) (t : Int) (f : Bool) (w : World) : Calls Try.prog 8 #[.agg (cA c), .agg (xA x), .int .i64 t, .bool f] w fun e w' => e = .returned (.bool true) ∧ Off [] w w' := by
 have H := Lib.hid (Hp.start [] w)
 obtain ⟨m, hm, hm40⟩ := forty_is t
 have hI0 : Hid (InvB (newB c)) := Lib.hid (inv_new c)
 refine wStart (args := [.agg (cA c), .agg (xA x), .int .i64 t, .bool f]) Try.func8 rfl rfl rfl H ?_
 clear H
 show Wk 126 _ _ [(0, .agg (cA c)), (1, .agg (xA x)), (2, .int .i64 t), (3, .bool f)] _ _
 refine wSeqK fun KK1 hK1 => ?_
 refine wReg ?_
 refine wBx rfl rfl rfl fun b4 => ?_
 refine wBx rfl rfl rfl fun b5 => ?_
 refine p_ticks_w rfl ?_
 refine wN ?_
 refine tN (wKK hK1 ?_)
 refine wSeqK fun KK2 hK2 => ?_
 refine wSeqK fun KK3 hK3 => ?_
 refine wReg ?_
 refine wQ (l := []) Try.func32 rfl (by kernel_rfl) (.bool true) (fun wc H => awake11 wc) rfl rfl rfl rfl ?_
 refine p_ticks_w rfl ?_
 refine wN ?_
 refine tN (wKK hK3 ?_)
 refine wCf rfl ?_
 refine wSk ?_
 refine tN (wKK hK2 ?_)
 refine wSeqK fun KK4 hK4 => ?_
 rcases Bool.eq_false_or_eq_true (checkV c != 0) with y1 | y1
 · skip
   have y1o : (checkV c == 0) = false := neq_t y1
   refine wReg ?_
   refine wLr rfl tyapi_Config 1 rfl (cL c) rfl rfl ?_
   refine wQ (l := [.agg (cA c)]) Try.func33 rfl (by kernel_rfl) (.pointer none) (fun wc H => newVno c wc y1) rfl rfl rfl rfl ?_
   refine p_ticks_w rfl ?_
   refine wN ?_
   refine tN (wKK hK4 ?_)
   refine wSeqK fun KK5 hK5 => ?_
   refine wSeqK fun KK6 hK6 => ?_
   refine wReg ?_
   refine p_ticks_w rfl ?_
   refine wE (.bool true) rfl rfl rfl (fun aa ww hs _ => by exact exec_pnilnil rfl (hs _ _ rfl) rfl Try.underlying75) ?_
   refine wN ?_
   refine tN (wKK hK6 ?_)
   refine wCt rfl ?_
   refine wSeqK fun KK7 hK7 => ?_
   refine wReg ?_
   refine p_ticks_w rfl ?_
   refine wN ?_
   refine tN (wKK hK7 ?_)
   refine wRet ?_
   refine tR ?_
   exact wR1 rfl rfl (fun ww H => ⟨rfl, H.out.off⟩)
 · skip
   have y1o : (checkV c == 0) = true := neq_f y1
   refine wReg ?_
   refine wLr rfl tyapi_Config 1 rfl (cL c) rfl rfl ?_
   refine wC (l := [.agg (cA c)]) Try.func33 rfl (by kernel_rfl) (fun wc H => newVyes c wc (keys_in y1) y1) rfl rfl rfl rfl ?_
   intro wc H
   rintro er wd ⟨v3_1, la3_1, lc3_1, da3_1, dc3_1, rfl, HH, hf1, hf2⟩
   have H3 := hp_fresh H HH (fresh3 hf1 hf2)
   have H2 : Hid (Hp [] w wd [rA none 0 40 11 (([] : List ChgV).map chgRow), rB v3_1 115 (vtL ((newB c).conf) ((newB c).index) ((newB c).room) (.slice la3_1 ((newB c).live.length) lc3_1) (.slice da3_1 ((newB c).done.length) dc3_1) ((newB c).modes) c c.keys 0 (.slice none 0 0) 0 0), rS la3_1 lc3_1 9 ((newB c).live.map rowOf), rS da3_1 dc3_1 8 ((newB c).done.map callRow), rB b5 38 (xL x), rB b4 24 (cL c)]) := hp_nil H3 40 11
   clear H3
   refine ⟨_, rfl, wkAt H2 ?_⟩
   clear H H2
   refine p_ticks_w rfl ?_
   refine wN ?_
   refine tN (wKK hK4 ?_)
   refine wSeqK fun KK8 hK8 => ?_
   refine wSeqK fun KK9 hK9 => ?_
   refine wReg ?_
   refine p_ticks_w rfl ?_
   refine wE (.bool false) rfl rfl rfl (fun aa ww hs _ => by exact exec_pnil_eql rfl (hs _ _ rfl) rfl Try.underlying75) ?_
   refine wN ?_
   refine tN (wKK hK9 ?_)
   refine wCf rfl ?_
   refine wSk ?_
   refine tN (wKK hK8 ?_)
   refine wSeqK fun KK10 hK10 => ?_
   refine wReg ?_
   refine p_ticks_w rfl ?_
   refine wQ (l := [.pointer (some ⟨v3_1, 0, none⟩)]) Try.func34 rfl (by kernel_rfl) (.agg (snA ((newB c).conf) ((newB c).index) ((newB c).room) (.slice la3_1 ((newB c).live.length) lc3_1) (.slice da3_1 ((newB c).done.length) dc3_1) ((newB c).modes) c c.keys 0)) (fun wc H => readC v3_1 (newB c) la3_1 lc3_1 da3_1 dc3_1 c c.keys 0 none 0 ([] : List ChgV) 0 0 wc (H.out.blk 1 rfl)) rfl rfl rfl rfl ?_
   refine wAl rfl rfl tyvault_Snap fun b10 => ?_
   refine wSr rfl tyvault_Snap 0 rfl rfl rfl rfl (snL ((newB c).conf) ((newB c).index) ((newB c).room) (.slice la3_1 ((newB c).live.length) lc3_1) (.slice da3_1 ((newB c).done.length) dc3_1) ((newB c).modes) c c.keys 0) (by first | rfl | (simp only [spl]; rfl)) ?_
   refine wN ?_
   refine tN (wKK hK10 ?_)
   refine wSeqK fun KK11 hK11 => ?_
   refine wReg ?_
   refine p_ticks_w rfl ?_
   refine wLr rfl tybook_Book 0 rfl (bkL ((newB c).conf) ((newB c).index) ((newB c).room) (.slice la3_1 ((newB c).live.length) lc3_1) (.slice da3_1 ((newB c).done.length) dc3_1) ((newB c).modes)) rfl rfl ?_
   refine wLr rfl tyapi_Call 5 rfl (xL x) rfl rfl ?_
   refine wC (l := [.agg (bkA ((newB c).conf) ((newB c).index) ((newB c).room) (.slice la3_1 ((newB c).live.length) lc3_1) (.slice da3_1 ((newB c).done.length) dc3_1) ((newB c).modes)), .agg (xA x), .int .i64 1, .int .i64 0]) Try.func13 rfl (by kernel_rfl) (fun wc H => placeC (newB c) la3_1 lc3_1 da3_1 dc3_1 x 1 0 wc (hp_held H (by (repeat (first | exact List.Mem.head _ | apply List.Mem.tail)))) (hp_held H (by (repeat (first | exact List.Mem.head _ | apply List.Mem.tail)))) (Lib.hid hI0.out.ok) ) rfl rfl rfl rfl ?_
   intro wc H
   rintro er wd ⟨la7_3, lc7_3, da7_3, dc7_3, rfl, hg⟩
   have H2 := hp_gotB H hg.2.2.2.2 hg.1 hg.2.1 (by decide) (by decide) hg.2.2.1 hg.2.2.2.1 (List.forall_mem_cons.2 ⟨(by (repeat (first | exact List.Mem.head _ | apply List.Mem.tail))), List.forall_mem_cons.2 ⟨(by (repeat (first | exact List.Mem.head _ | apply List.Mem.tail))), fun _ h => by cases h⟩⟩)
   refine ⟨_, rfl, wkAt H2 ?_⟩
   clear H H2
   iterate 4 refine p_ticks_w rfl ?_
   refine wAl rfl rfl tybook_Book fun b11 => ?_
   refine wAl rfl rfl tyapi_Change fun b12 => ?_
   refine wSr rfl tybook_Book 1 rfl rfl rfl rfl (bkL (((placeV (newB c) x 1 0).1).conf) (((placeV (newB c) x 1 0).1).index) (((placeV (newB c) x 1 0).1).room) (.slice la7_3 (((placeV (newB c) x 1 0).1).live.length) lc7_3) (.slice da7_3 (((placeV (newB c) x 1 0).1).done.length) dc7_3) (((placeV (newB c) x 1 0).1).modes)) (by first | rfl | (simp only [spl]; rfl)) ?_
   refine wSr rfl tyapi_Change 0 rfl rfl rfl rfl (chL ((placeV (newB c) x 1 0).2.1)) (by first | rfl | (simp only [spl]; rfl)) ?_
   refine p_ticks_w rfl ?_
   refine wN ?_
   refine tN (wKK hK11 ?_)
   refine wSeqK fun KK12 hK12 => ?_
   refine wSeqK fun KK13 hK13 => ?_
   refine wReg ?_
   iterate 2 refine p_ticks_w rfl ?_
   refine wN ?_
   refine tN (wKK hK13 ?_)
   refine wCond (E := ((placeV (newB c) x 1 0).2.2) != 0) rfl (fun z2 => ?_) (fun z2 => ?_)
   · skip
     have z2o : (((placeV (newB c) x 1 0).2.2) == 0) = false := neq_t z2
     refine wSeqK fun KK14 hK14 => ?_
     refine wReg ?_
     refine p_ticks_w rfl ?_
     refine wN ?_
     refine tN (wKK hK14 ?_)
     refine wRet ?_
     refine tR ?_
     exact wR1 rfl rfl (fun ww H => ⟨rfl, H.out.off⟩)
   · skip
     have z2o : (((placeV (newB c) x 1 0).2.2) == 0) = true := neq_f z2
     intro aa ww nn dd hs H
     have h0 : (placeV (newB c) x 1 0).2.2 = 0 := by simpa using z2
     have hix0 := new_ix c
     have hap := replay_place (inv_new c) (by omega) h0
     have hI1 : Hid (InvB (placeV (newB c) x 1 0).1) := Lib.hid (place_toR (inv_new c) (by omega) 1 0).2
     have hta := tick_all y1 h0
     have haq := replay_cancel hI1.out hta.2.1
     have hI2 : Hid (InvB (cancelBV ((placeV (newB c) x 1 0).1) 1 1).1) := Lib.hid (cancel_toR hI1.out 1 1).2
     have hp1 := hta.1.1
     have hp2 := hta.1.2
     have hc1 := hta.2.1
     have hc2 := hta.2.2.1
     have hc3 := hta.2.2.2
     have hp2a : (placeV (newB c) x 1 0).1.index ≤ 1 ∧ 1 ≤ (placeV (newB c) x 1 0).1.index := by omega
     have hcz : (((cancelBV ((placeV (newB c) x 1 0).1) 1 1).2.2) == 0) = true := by rw [hc1]; rfl
     refine wIn nn dd hs H ?_
     refine wSk ?_
     refine tN (wKK hK12 ?_)
     refine wSeqK fun KK15 hK15 => ?_
     refine wReg ?_
     refine p_ticks_w rfl ?_
     refine wE (.int .u64 (IntKind.u64.wrap t)) rfl rfl rfl (fun aa ww hs _ => by have e41 := hs 41 _ rfl; have g41 := gt_of e41; simp only [execOp]; go_simp <;> first | rfl | omega) ?_
     refine wE (.int .u64 ((IntKind.u64.wrap t).tmod 40)) rfl rfl rfl (fun aa ww hs _ => exec_rem rfl (hs _ _ rfl) (rfl) (by omega)) ?_
     refine wE (.int .i64 m) rfl rfl rfl (fun aa ww hs _ => by have e43 := hs 43 _ rfl; have g43 := gt_of e43; simp only [execOp]; go_simp <;> first | rfl | omega) ?_
     refine p_ticks_w rfl ?_
     refine wN ?_
     refine tN (wKK hK15 ?_)
     refine wSeqK fun KK16 hK16 => ?_
     refine wSeqK fun KK17 hK17 => ?_
     refine wReg ?_
     refine p_ticks_w rfl ?_
     refine wN ?_
     refine tN (wKK hK17 ?_)
     refine wBlk ?_
     refine wH (R' := [rB b12 40 (chL ((placeV (newB c) x 1 0).2.1)), rB b11 33 (bkL (((placeV (newB c) x 1 0).1).conf) (((placeV (newB c) x 1 0).1).index) (((placeV (newB c) x 1 0).1).room) (.slice la7_3 (((placeV (newB c) x 1 0).1).live.length) lc7_3) (.slice da7_3 (((placeV (newB c) x 1 0).1).done.length) dc7_3) (((placeV (newB c) x 1 0).1).modes)), rS la7_3 lc7_3 9 (((placeV (newB c) x 1 0).1).live.map rowOf), rS da7_3 dc7_3 8 (((placeV (newB c) x 1 0).1).done.map callRow), rB b10 84 (snL ((newB c).conf) ((newB c).index) ((newB c).room) (.slice la3_1 ((newB c).live.length) lc3_1) (.slice da3_1 ((newB c).done.length) dc3_1) ((newB c).modes) c c.keys 0), rA none 0 40 11 (([] : List ChgV).map chgRow), rB v3_1 115 (vtL ((newB c).conf) ((newB c).index) ((newB c).room) (.slice la3_1 ((newB c).live.length) lc3_1) (.slice da3_1 ((newB c).done.length) dc3_1) ((newB c).modes) c c.keys 0 (.slice none 0 0) 0 0), rS la3_1 lc3_1 9 ((newB c).live.map rowOf), rS da3_1 dc3_1 8 ((newB c).done.map callRow), rB b5 38 (xL x), rB b4 24 (cL c)]) (fun ww H => hp_sel [0, 1, 2, 3, 4, 5, 6, 7, 8, 9, 10] H (by decide) rfl) ?_
     refine wLoop (fun ab wv => ∃ i : Nat, (i ≤ m) ∧ ab.tmps.size = 126 ∧ ab.defers = [] ∧ Sat [(0, .agg (cA c)), (1, .agg (xA x)), (2, .int .i64 t), (3, .bool f), (4, .pointer (some ⟨b4, 0, none⟩)), (5, .pointer (some ⟨b5, 0, none⟩)), (9, .pointer (some ⟨v3_1, 0, none⟩)), (10, .pointer (some ⟨b10, 0, none⟩)), (11, .pointer (some ⟨b11, 0, none⟩)), (12, .pointer (some ⟨b12, 0, none⟩)), (13, .int .i64 ((placeV (newB c) x 1 0).2.2)), (14, .int .i64 m), (15, .int .i64 i), (24, .bool false), (28, .bool false), (40, .bool (((placeV (newB c) x 1 0).2.2) != 0))] ab ∧ Hid (Hp [] w wv [rB b12 40 (chL ((placeV (newB c) x 1 0).2.1)), rB b11 33 (bkL (((placeV (newB c) x 1 0).1).conf) (((placeV (newB c) x 1 0).1).index) (((placeV (newB c) x 1 0).1).room) (.slice la7_3 (((placeV (newB c) x 1 0).1).live.length) lc7_3) (.slice da7_3 (((placeV (newB c) x 1 0).1).done.length) dc7_3) (((placeV (newB c) x 1 0).1).modes)), rS la7_3 lc7_3 9 (((placeV (newB c) x 1 0).1).live.map rowOf), rS da7_3 dc7_3 8 (((placeV (newB c) x 1 0).1).done.map callRow), rB b10 84 (snL ((newB c).conf) ((newB c).index) ((newB c).room) (.slice la3_1 ((newB c).live.length) lc3_1) (.slice da3_1 ((newB c).done.length) dc3_1) ((newB c).modes) c c.keys 0), rA none 0 40 11 (([] : List ChgV).map chgRow), rB v3_1 115 (vtL ((newB c).conf) ((newB c).index) ((newB c).room) (.slice la3_1 ((newB c).live.length) lc3_1) (.slice da3_1 ((newB c).done.length) dc3_1) ((newB c).modes) c c.keys (i : Int) (.slice none 0 0) 0 0), rS la3_1 lc3_1 9 ((newB c).live.map rowOf), rS da3_1 dc3_1 8 ((newB c).done.map callRow), rB b5 38 (xL x), rB b4 24 (cL c)])) (fun ab _ => m - (intOf (ab.eval (.tmp 15))).toNat) (fun aa ww nn dd hs H => ⟨0, (Nat.zero_le _), nn, dd, (sat_sub ⟨rfl, rfl, rfl, rfl, rfl, rfl, rfl, rfl, rfl, rfl, rfl, rfl, rfl, rfl, rfl, rfl, trivial⟩ hs), H⟩) ?_
     rintro a1 wv ⟨i, hi, nn, dd, hs, H⟩
     have mu1_15 := hs 15 _ rfl
     refine wIn nn dd hs H ?_
     clear nn dd hs H
     refine wSeqK fun KK18 hK18 => ?_
     refine wSeqK fun KK19 hK19 => ?_
     refine wReg ?_
     iterate 3 refine p_ticks_w rfl ?_
     refine wB (c := decide (i < m)) 47 rfl (by simp) ?_
     refine wN ?_
     refine tN (wKK hK19 ?_)
     refine wCond (E := decide (i < m)) rfl (fun z3 => ?_) (fun z3 => ?_)
     · skip
       have z3d : i < m := of_decide_eq_true z3
       refine wSk ?_
       refine tN (wKK hK18 ?_)
       refine wSeqK fun KK20 hK20 => ?_
       refine wBlk ?_
       refine wSeqK fun KK21 hK21 => ?_
       refine wReg ?_
       refine p_ticks_w rfl ?_
       refine wC (l := [.pointer (some ⟨v3_1, 0, none⟩)]) Try.func37 rfl (by kernel_rfl) (fun wc H => tickC v3_1 (newB c) la3_1 lc3_1 da3_1 dc3_1 c c.keys (i : Int) none 0 ([] : List ChgV) 0 0 wc (H.out.blk 6 rfl) (by omega)) rfl rfl rfl rfl ?_
       intro wc H
       rintro er wd ⟨rfl, hb, ho⟩
       have H2 := hp_turn H (i := 6) (cs' := (vtL ((newB c).conf) ((newB c).index) ((newB c).room) (.slice la3_1 ((newB c).live.length) lc3_1) (.slice da3_1 ((newB c).done.length) dc3_1) ((newB c).modes) c c.keys ((i : Int) + 1) (.slice none 0 0) 0 0)) rfl hb ho
       refine ⟨_, rfl, wkAt H2 ?_⟩
       clear H H2
       refine p_ticks_w rfl ?_
       refine wN ?_
       refine tN (wKK hK21 ?_)
       refine wCf rfl ?_
       refine wSk ?_
       refine bN (tN (wKK hK20 ?_))
       refine wReg ?_
       iterate 2 refine p_ticks_w rfl ?_
       refine wI 49 rfl (IntWalk.i64_in _ (by omega)) ?_
       refine p_ticks_w rfl ?_
       refine wN ?_
       refine tN ?_
       intro aa ww nn dd hs H
       refine ⟨⟨i + 1, (by omega), nn, dd, (sat_sub ⟨rfl, rfl, rfl, rfl, rfl, rfl, rfl, rfl, rfl, rfl, rfl, rfl, rfl, rfl, rfl, rfl, trivial⟩ hs), H⟩, ?_⟩
       have m15 := hs 15 _ rfl
       simp only [mu1_15, m15, intOf]
       omega
     · skip
       have z3d : ¬ (i < m) := of_decide_eq_false z3
       intro aa ww nn dd hs H
       have him : ((i : Int) != (m : Int)) = false := by simp; omega
       have hk1 : ((((([] : List ChgV) ++ [((placeV (newB c) x 1 0).2.1)]).length : Int)) != 1) = false := by simp
       refine wIn nn dd hs H ?_
       refine wEx ?_
       refine tX (tX (bX (tN (wKK hK16 ?_))))
       refine wSeqK fun KK22 hK22 => ?_
       refine wSeqK fun KK23 hK23 => ?_
       refine wReg ?_
       refine p_ticks_w rfl ?_
       refine wLr rfl tyvault_Snap 4 rfl (snL ((newB c).conf) ((newB c).index) ((newB c).room) (.slice la3_1 ((newB c).live.length) lc3_1) (.slice da3_1 ((newB c).done.length) dc3_1) ((newB c).modes) c c.keys 0) rfl rfl ?_
       refine wLr rfl tybook_Book 1 rfl (bkL (((placeV (newB c) x 1 0).1).conf) (((placeV (newB c) x 1 0).1).index) (((placeV (newB c) x 1 0).1).room) (.slice la7_3 (((placeV (newB c) x 1 0).1).live.length) lc7_3) (.slice da7_3 (((placeV (newB c) x 1 0).1).done.length) dc7_3) (((placeV (newB c) x 1 0).1).modes)) rfl rfl ?_
       refine wLr rfl tyapi_Change 0 rfl (chL ((placeV (newB c) x 1 0).2.1)) rfl rfl ?_
       refine p_ticks_w rfl ?_
       refine wLr rfl tykeys_Keys 4 rfl (kyL c c.keys) rfl rfl ?_
       refine wC (l := [.pointer (some ⟨v3_1, 0, none⟩), .agg (snA ((newB c).conf) ((newB c).index) ((newB c).room) (.slice la3_1 ((newB c).live.length) lc3_1) (.slice da3_1 ((newB c).done.length) dc3_1) ((newB c).modes) c c.keys 0), .agg (bkA (((placeV (newB c) x 1 0).1).conf) (((placeV (newB c) x 1 0).1).index) (((placeV (newB c) x 1 0).1).room) (.slice la7_3 (((placeV (newB c) x 1 0).1).live.length) lc7_3) (.slice da7_3 (((placeV (newB c) x 1 0).1).done.length) dc7_3) (((placeV (newB c) x 1 0).1).modes)), .agg (chA ((placeV (newB c) x 1 0).2.1)), .agg (kyA c c.keys)]) Try.func35 rfl (by kernel_rfl) (fun wc H => commitYes v3_1 (newB c) la3_1 lc3_1 da3_1 dc3_1 c c.keys (i : Int) none 0 ([] : List ChgV) 0 0 (newB c) la3_1 lc3_1 da3_1 dc3_1 c c.keys 0 ((placeV (newB c) x 1 0).1) la7_3 lc7_3 da7_3 dc7_3 ((placeV (newB c) x 1 0).2.1) c c.keys wc (hp_rootV (hp_sel [6, 5, 7, 8, 2, 3] H (by decide) rfl) (ro_S (ro_S (ro_S (ro_S ro_nil))))) (by omega) (by first | omega | (simp; done) | (simp; omega)) (by simp) hap hI0 hI1) rfl rfl rfl rfl ?_
       intro wc H
       rintro er wd ⟨ga16_6, gc16_6, rfl, HH⟩
       have H1 : Hid (Hp [] w wc ([rB v3_1 115 (vtL ((newB c).conf) ((newB c).index) ((newB c).room) (.slice la3_1 ((newB c).live.length) lc3_1) (.slice da3_1 ((newB c).done.length) dc3_1) ((newB c).modes) c c.keys (i : Int) (.slice none 0 0) 0 0), rA none 0 40 11 (([] : List ChgV).map chgRow), rS la3_1 lc3_1 9 ((newB c).live.map rowOf), rS da3_1 dc3_1 8 ((newB c).done.map callRow), rS la7_3 lc7_3 9 (((placeV (newB c) x 1 0).1).live.map rowOf), rS da7_3 dc7_3 8 (((placeV (newB c) x 1 0).1).done.map callRow)] ++ [rB b12 40 (chL ((placeV (newB c) x 1 0).2.1)), rB b11 33 (bkL (((placeV (newB c) x 1 0).1).conf) (((placeV (newB c) x 1 0).1).index) (((placeV (newB c) x 1 0).1).room) (.slice la7_3 (((placeV (newB c) x 1 0).1).live.length) lc7_3) (.slice da7_3 (((placeV (newB c) x 1 0).1).done.length) dc7_3) (((placeV (newB c) x 1 0).1).modes)), rB b10 84 (snL ((newB c).conf) ((newB c).index) ((newB c).room) (.slice la3_1 ((newB c).live.length) lc3_1) (.slice da3_1 ((newB c).done.length) dc3_1) ((newB c).modes) c c.keys 0), rB b5 38 (xL x), rB b4 24 (cL c)])) := hp_sel [6, 5, 7, 8, 2, 3, 0, 1, 4, 9, 10] H (by decide) rfl
       have H2 : Hid (Hp [] w wd [rB v3_1 115 (vtL (((placeV (newB c) x 1 0).1).conf) (((placeV (newB c) x 1 0).1).index) (((placeV (newB c) x 1 0).1).room) (.slice la7_3 (((placeV (newB c) x 1 0).1).live.length) lc7_3) (.slice da7_3 (((placeV (newB c) x 1 0).1).done.length) dc7_3) (((placeV (newB c) x 1 0).1).modes) c c.keys (i : Int) (.slice ga16_6 ((([] : List ChgV) ++ [((placeV (newB c) x 1 0).2.1)]).length) gc16_6) (0 + 1) 0), rA ga16_6 gc16_6 40 11 ((([] : List ChgV) ++ [((placeV (newB c) x 1 0).2.1)]).map chgRow), rS la3_1 lc3_1 9 ((newB c).live.map rowOf), rS da3_1 dc3_1 8 ((newB c).done.map callRow), rS la7_3 lc7_3 9 (((placeV (newB c) x 1 0).1).live.map rowOf), rS da7_3 dc7_3 8 (((placeV (newB c) x 1 0).1).done.map callRow), rB b12 40 (chL ((placeV (newB c) x 1 0).2.1)), rB b11 33 (bkL (((placeV (newB c) x 1 0).1).conf) (((placeV (newB c) x 1 0).1).index) (((placeV (newB c) x 1 0).1).room) (.slice la7_3 (((placeV (newB c) x 1 0).1).live.length) lc7_3) (.slice da7_3 (((placeV (newB c) x 1 0).1).done.length) dc7_3) (((placeV (newB c) x 1 0).1).modes)), rB b10 84 (snL ((newB c).conf) ((newB c).index) ((newB c).room) (.slice la3_1 ((newB c).live.length) lc3_1) (.slice da3_1 ((newB c).done.length) dc3_1) ((newB c).modes) c c.keys 0), rB b5 38 (xL x), rB b4 24 (cL c)]) := hp_backV H1 HH (fun r hr => .inl hr)
       clear H1
       refine ⟨_, rfl, wkAt H2 ?_⟩
       clear H H2
       iterate 3 refine p_ticks_w rfl ?_
       refine wQ (l := [.pointer (some ⟨v3_1, 0, none⟩)]) Try.func34 rfl (by kernel_rfl) (.agg (snA (((placeV (newB c) x 1 0).1).conf) (((placeV (newB c) x 1 0).1).index) (((placeV (newB c) x 1 0).1).room) (.slice la7_3 (((placeV (newB c) x 1 0).1).live.length) lc7_3) (.slice da7_3 (((placeV (newB c) x 1 0).1).done.length) dc7_3) (((placeV (newB c) x 1 0).1).modes) c c.keys (i : Int))) (fun wc H => readC v3_1 ((placeV (newB c) x 1 0).1) la7_3 lc7_3 da7_3 dc7_3 c c.keys (i : Int) ga16_6 gc16_6 (([] : List ChgV) ++ [((placeV (newB c) x 1 0).2.1)]) (0 + 1) 0 wc (H.out.blk 0 rfl)) rfl rfl rfl rfl ?_
       refine wE (.int .i64 (i : Int)) rfl rfl rfl (fun aa ww hs _ => by exact exec_fld rfl (hs _ _ rfl) (by kernel_rfl)) ?_
       iterate 2 refine p_ticks_w rfl ?_
       refine wB 66 rfl him ?_
       iterate 3 refine p_ticks_w rfl ?_
       refine wQ (l := [.pointer (some ⟨v3_1, 0, none⟩)]) Try.func38 rfl (by kernel_rfl) (.int .i64 ((([] : List ChgV) ++ [((placeV (newB c) x 1 0).2.1)]).length)) (fun wc H => keptC v3_1 ((placeV (newB c) x 1 0).1) la7_3 lc7_3 da7_3 dc7_3 c c.keys (i : Int) ga16_6 gc16_6 (([] : List ChgV) ++ [((placeV (newB c) x 1 0).2.1)]) (0 + 1) 0 wc (H.out.blk 0 rfl)) rfl rfl rfl rfl ?_
       refine p_ticks_w rfl ?_
       refine wB 71 rfl hk1 ?_
       refine p_ticks_w rfl ?_
       refine wN ?_
       refine tN (wKK hK23 ?_)
       refine wCf rfl ?_
       refine wSk ?_
       refine tN (wKK hK22 ?_)
       refine wSeqK fun KK24 hK24 => ?_
       refine wSeqK fun KK25 hK25 => ?_
       rcases Bool.eq_false_or_eq_true (f) with y4 | y4
       · skip
         intro aa ww nn dd hs H
         rw [y4] at hs
         have hf1 : (((atN (([] : List ChgV) ++ [((placeV (newB c) x 1 0).2.1)]) 1 : Nat) : Int) != 1) = false := by rw [at_one hp1]; rfl
         refine wIn nn dd hs H ?_
         refine wReg ?_
         iterate 3 refine p_ticks_w rfl ?_
         refine wC (l := [.pointer (some ⟨v3_1, 0, none⟩), .int .i64 1]) Try.func39 rfl (by kernel_rfl) (fun wc H => forgetC v3_1 ((placeV (newB c) x 1 0).1) la7_3 lc7_3 da7_3 dc7_3 c c.keys (i : Int) ga16_6 gc16_6 (([] : List ChgV) ++ [((placeV (newB c) x 1 0).2.1)]) (0 + 1) 0 1 wc (hp_rootV (hp_sel [0, 1] H (by decide) rfl) ro_nil) (by first | omega | (simp; done) | (simp; omega))) rfl rfl rfl rfl ?_
         intro wc H
         rintro er wd ⟨ga18_3, gc18_3, rfl, HH⟩
         have H1 : Hid (Hp [] w wc ([rB v3_1 115 (vtL (((placeV (newB c) x 1 0).1).conf) (((placeV (newB c) x 1 0).1).index) (((placeV (newB c) x 1 0).1).room) (.slice la7_3 (((placeV (newB c) x 1 0).1).live.length) lc7_3) (.slice da7_3 (((placeV (newB c) x 1 0).1).done.length) dc7_3) (((placeV (newB c) x 1 0).1).modes) c c.keys (i : Int) (.slice ga16_6 ((([] : List ChgV) ++ [((placeV (newB c) x 1 0).2.1)]).length) gc16_6) (0 + 1) 0), rA ga16_6 gc16_6 40 11 ((([] : List ChgV) ++ [((placeV (newB c) x 1 0).2.1)]).map chgRow)] ++ [rS la3_1 lc3_1 9 ((newB c).live.map rowOf), rS da3_1 dc3_1 8 ((newB c).done.map callRow), rS la7_3 lc7_3 9 (((placeV (newB c) x 1 0).1).live.map rowOf), rS da7_3 dc7_3 8 (((placeV (newB c) x 1 0).1).done.map callRow), rB b12 40 (chL ((placeV (newB c) x 1 0).2.1)), rB b11 33 (bkL (((placeV (newB c) x 1 0).1).conf) (((placeV (newB c) x 1 0).1).index) (((placeV (newB c) x 1 0).1).room) (.slice la7_3 (((placeV (newB c) x 1 0).1).live.length) lc7_3) (.slice da7_3 (((placeV (newB c) x 1 0).1).done.length) dc7_3) (((placeV (newB c) x 1 0).1).modes)), rB b10 84 (snL ((newB c).conf) ((newB c).index) ((newB c).room) (.slice la3_1 ((newB c).live.length) lc3_1) (.slice da3_1 ((newB c).done.length) dc3_1) ((newB c).modes) c c.keys 0), rB b5 38 (xL x), rB b4 24 (cL c)])) := hp_sel [0, 1, 2, 3, 4, 5, 6, 7, 8, 9, 10] H (by decide) rfl
         have H2 : Hid (Hp [] w wd [rB v3_1 115 (vtL (((placeV (newB c) x 1 0).1).conf) (((placeV (newB c) x 1 0).1).index) (((placeV (newB c) x 1 0).1).room) (.slice la7_3 (((placeV (newB c) x 1 0).1).live.length) lc7_3) (.slice da7_3 (((placeV (newB c) x 1 0).1).done.length) dc7_3) (((placeV (newB c) x 1 0).1).modes) c c.keys (i : Int) (.slice ga18_3 (((([] : List ChgV) ++ [((placeV (newB c) x 1 0).2.1)]).drop (atN (([] : List ChgV) ++ [((placeV (newB c) x 1 0).2.1)]) 1)).length) gc18_3) (0 + 1) 0), rA ga18_3 gc18_3 40 11 (((([] : List ChgV) ++ [((placeV (newB c) x 1 0).2.1)]).drop (atN (([] : List ChgV) ++ [((placeV (newB c) x 1 0).2.1)]) 1)).map chgRow), rS la3_1 lc3_1 9 ((newB c).live.map rowOf), rS da3_1 dc3_1 8 ((newB c).done.map callRow), rS la7_3 lc7_3 9 (((placeV (newB c) x 1 0).1).live.map rowOf), rS da7_3 dc7_3 8 (((placeV (newB c) x 1 0).1).done.map callRow), rB b12 40 (chL ((placeV (newB c) x 1 0).2.1)), rB b11 33 (bkL (((placeV (newB c) x 1 0).1).conf) (((placeV (newB c) x 1 0).1).index) (((placeV (newB c) x 1 0).1).room) (.slice la7_3 (((placeV (newB c) x 1 0).1).live.length) lc7_3) (.slice da7_3 (((placeV (newB c) x 1 0).1).done.length) dc7_3) (((placeV (newB c) x 1 0).1).modes)), rB b10 84 (snL ((newB c).conf) ((newB c).index) ((newB c).room) (.slice la3_1 ((newB c).live.length) lc3_1) (.slice da3_1 ((newB c).done.length) dc3_1) ((newB c).modes) c c.keys 0), rB b5 38 (xL x), rB b4 24 (cL c)]) := hp_backV H1 HH (fun _ h => by cases h)
         clear H1
         refine ⟨_, rfl, wkAt H2 ?_⟩
         clear H H2
         refine p_ticks_w rfl ?_
         refine wB 77 rfl hf1 ?_
         refine p_ticks_w rfl ?_
         refine wN ?_
         refine tN (wKK hK25 ?_)
         refine wCf rfl ?_
         refine wSk ?_
         refine tN (wKK hK24 ?_)
         refine wSeqK fun KK26 hK26 => ?_
         intro aa ww nn dd hs H
         have eL : ((([] : List ChgV) ++ [((placeV (newB c) x 1 0).2.1)]).drop (atN (([] : List ChgV) ++ [((placeV (newB c) x 1 0).2.1)]) 1)) = ([] : List ChgV) := log_none hp1
         rw [eL] at H
         refine wIn nn dd hs H ?_
         refine wReg ?_
         refine p_ticks_w rfl ?_
         refine wQ (l := [.pointer (some ⟨v3_1, 0, none⟩)]) Try.func34 rfl (by kernel_rfl) (.agg (snA (((placeV (newB c) x 1 0).1).conf) (((placeV (newB c) x 1 0).1).index) (((placeV (newB c) x 1 0).1).room) (.slice la7_3 (((placeV (newB c) x 1 0).1).live.length) lc7_3) (.slice da7_3 (((placeV (newB c) x 1 0).1).done.length) dc7_3) (((placeV (newB c) x 1 0).1).modes) c c.keys (i : Int))) (fun wc H => readC v3_1 ((placeV (newB c) x 1 0).1) la7_3 lc7_3 da7_3 dc7_3 c c.keys (i : Int) ga18_3 gc18_3 ([] : List ChgV) (0 + 1) 0 wc (H.out.blk 0 rfl)) rfl rfl rfl rfl ?_
         refine wAl rfl rfl tyvault_Snap fun b16 => ?_
         refine wSr rfl tyvault_Snap 0 rfl rfl rfl rfl (snL (((placeV (newB c) x 1 0).1).conf) (((placeV (newB c) x 1 0).1).index) (((placeV (newB c) x 1 0).1).room) (.slice la7_3 (((placeV (newB c) x 1 0).1).live.length) lc7_3) (.slice da7_3 (((placeV (newB c) x 1 0).1).done.length) dc7_3) (((placeV (newB c) x 1 0).1).modes) c c.keys (i : Int)) (by first | rfl | (simp only [spl]; rfl)) ?_
         refine wN ?_
         refine tN (wKK hK26 ?_)
         refine wSeqK fun KK27 hK27 => ?_
         refine wReg ?_
         refine p_ticks_w rfl ?_
         refine wLr rfl tybook_Book 0 rfl (bkL (((placeV (newB c) x 1 0).1).conf) (((placeV (newB c) x 1 0).1).index) (((placeV (newB c) x 1 0).1).room) (.slice la7_3 (((placeV (newB c) x 1 0).1).live.length) lc7_3) (.slice da7_3 (((placeV (newB c) x 1 0).1).done.length) dc7_3) (((placeV (newB c) x 1 0).1).modes)) rfl rfl ?_
         refine wC (l := [.agg (bkA (((placeV (newB c) x 1 0).1).conf) (((placeV (newB c) x 1 0).1).index) (((placeV (newB c) x 1 0).1).room) (.slice la7_3 (((placeV (newB c) x 1 0).1).live.length) lc7_3) (.slice da7_3 (((placeV (newB c) x 1 0).1).done.length) dc7_3) (((placeV (newB c) x 1 0).1).modes)), .int .i64 1, .int .i64 1]) Try.func14 rfl (by kernel_rfl) (fun wc H => cancelBC ((placeV (newB c) x 1 0).1) la7_3 lc7_3 da7_3 dc7_3 1 1 wc (hp_held H (by (repeat (first | exact List.Mem.head _ | apply List.Mem.tail)))) (hp_held H (by (repeat (first | exact List.Mem.head _ | apply List.Mem.tail)))) (Lib.hid hI1.out.ok) ) rfl rfl rfl rfl ?_
         intro wc H
         rintro er wd ⟨la21_2, lc21_2, da21_2, dc21_2, rfl, hg⟩
         have H2 := hp_gotB H hg.2.2.2.2 hg.1 hg.2.1 (by decide) (by decide) hg.2.2.1 hg.2.2.2.1 (List.forall_mem_cons.2 ⟨(by (repeat (first | exact List.Mem.head _ | apply List.Mem.tail))), List.forall_mem_cons.2 ⟨(by (repeat (first | exact List.Mem.head _ | apply List.Mem.tail))), fun _ h => by cases h⟩⟩)
         refine ⟨_, rfl, wkAt H2 ?_⟩
         clear H H2
         iterate 4 refine p_ticks_w rfl ?_
         refine wAl rfl rfl tybook_Book fun b17 => ?_
         refine wAl rfl rfl tyapi_Change fun b18 => ?_
         refine wSr rfl tybook_Book 1 rfl rfl rfl rfl (bkL (((cancelBV ((placeV (newB c) x 1 0).1) 1 1).1).conf) (((cancelBV ((placeV (newB c) x 1 0).1) 1 1).1).index) (((cancelBV ((placeV (newB c) x 1 0).1) 1 1).1).room) (.slice la21_2 (((cancelBV ((placeV (newB c) x 1 0).1) 1 1).1).live.length) lc21_2) (.slice da21_2 (((cancelBV ((placeV (newB c) x 1 0).1) 1 1).1).done.length) dc21_2) (((cancelBV ((placeV (newB c) x 1 0).1) 1 1).1).modes)) (by first | rfl | (simp only [spl]; rfl)) ?_
         refine wSr rfl tyapi_Change 0 rfl rfl rfl rfl (chL ((cancelBV ((placeV (newB c) x 1 0).1) 1 1).2.1)) (by first | rfl | (simp only [spl]; rfl)) ?_
         refine p_ticks_w rfl ?_
         refine wN ?_
         refine tN (wKK hK27 ?_)
         refine wSeqK fun KK28 hK28 => ?_
         refine wReg ?_
         refine p_ticks_w rfl ?_
         refine wLr rfl tyvault_Snap 4 rfl (snL (((placeV (newB c) x 1 0).1).conf) (((placeV (newB c) x 1 0).1).index) (((placeV (newB c) x 1 0).1).room) (.slice la7_3 (((placeV (newB c) x 1 0).1).live.length) lc7_3) (.slice da7_3 (((placeV (newB c) x 1 0).1).done.length) dc7_3) (((placeV (newB c) x 1 0).1).modes) c c.keys (i : Int)) rfl rfl ?_
         refine wLr rfl tybook_Book 1 rfl (bkL (((cancelBV ((placeV (newB c) x 1 0).1) 1 1).1).conf) (((cancelBV ((placeV (newB c) x 1 0).1) 1 1).1).index) (((cancelBV ((placeV (newB c) x 1 0).1) 1 1).1).room) (.slice la21_2 (((cancelBV ((placeV (newB c) x 1 0).1) 1 1).1).live.length) lc21_2) (.slice da21_2 (((cancelBV ((placeV (newB c) x 1 0).1) 1 1).1).done.length) dc21_2) (((cancelBV ((placeV (newB c) x 1 0).1) 1 1).1).modes)) rfl rfl ?_
         refine wLr rfl tyapi_Change 0 rfl (chL ((cancelBV ((placeV (newB c) x 1 0).1) 1 1).2.1)) rfl rfl ?_
         refine p_ticks_w rfl ?_
         refine wLr rfl tykeys_Keys 4 rfl (kyL c c.keys) rfl rfl ?_
         refine wC (l := [.pointer (some ⟨v3_1, 0, none⟩), .agg (snA (((placeV (newB c) x 1 0).1).conf) (((placeV (newB c) x 1 0).1).index) (((placeV (newB c) x 1 0).1).room) (.slice la7_3 (((placeV (newB c) x 1 0).1).live.length) lc7_3) (.slice da7_3 (((placeV (newB c) x 1 0).1).done.length) dc7_3) (((placeV (newB c) x 1 0).1).modes) c c.keys (i : Int)), .agg (bkA (((cancelBV ((placeV (newB c) x 1 0).1) 1 1).1).conf) (((cancelBV ((placeV (newB c) x 1 0).1) 1 1).1).index) (((cancelBV ((placeV (newB c) x 1 0).1) 1 1).1).room) (.slice la21_2 (((cancelBV ((placeV (newB c) x 1 0).1) 1 1).1).live.length) lc21_2) (.slice da21_2 (((cancelBV ((placeV (newB c) x 1 0).1) 1 1).1).done.length) dc21_2) (((cancelBV ((placeV (newB c) x 1 0).1) 1 1).1).modes)), .agg (chA ((cancelBV ((placeV (newB c) x 1 0).1) 1 1).2.1)), .agg (kyA c c.keys)]) Try.func35 rfl (by kernel_rfl) (fun wc H => commitYes v3_1 ((placeV (newB c) x 1 0).1) la7_3 lc7_3 da7_3 dc7_3 c c.keys (i : Int) ga18_3 gc18_3 ([] : List ChgV) (0 + 1) 0 ((placeV (newB c) x 1 0).1) la7_3 lc7_3 da7_3 dc7_3 c c.keys (i : Int) ((cancelBV ((placeV (newB c) x 1 0).1) 1 1).1) la21_2 lc21_2 da21_2 dc21_2 ((cancelBV ((placeV (newB c) x 1 0).1) 1 1).2.1) c c.keys wc (hp_rootV (hp_sel [5, 6, 9, 10, 2, 3] H (by decide) rfl) (ro_S (ro_S (ro_S (ro_S ro_nil))))) (by omega) (by first | omega | (simp; done) | (simp; omega)) (by simp) haq hI1 hI2) rfl rfl rfl rfl ?_
         intro wc H
         rintro er wd ⟨ga22_6, gc22_6, rfl, HH⟩
         have H1 : Hid (Hp [] w wc ([rB v3_1 115 (vtL (((placeV (newB c) x 1 0).1).conf) (((placeV (newB c) x 1 0).1).index) (((placeV (newB c) x 1 0).1).room) (.slice la7_3 (((placeV (newB c) x 1 0).1).live.length) lc7_3) (.slice da7_3 (((placeV (newB c) x 1 0).1).done.length) dc7_3) (((placeV (newB c) x 1 0).1).modes) c c.keys (i : Int) (.slice ga18_3 (([] : List ChgV).length) gc18_3) (0 + 1) 0), rA ga18_3 gc18_3 40 11 (([] : List ChgV).map chgRow), rS la7_3 lc7_3 9 (((placeV (newB c) x 1 0).1).live.map rowOf), rS da7_3 dc7_3 8 (((placeV (newB c) x 1 0).1).done.map callRow), rS la21_2 lc21_2 9 (((cancelBV ((placeV (newB c) x 1 0).1) 1 1).1).live.map rowOf), rS da21_2 dc21_2 8 (((cancelBV ((placeV (newB c) x 1 0).1) 1 1).1).done.map callRow)] ++ [rB b18 40 (chL ((cancelBV ((placeV (newB c) x 1 0).1) 1 1).2.1)), rB b17 33 (bkL (((cancelBV ((placeV (newB c) x 1 0).1) 1 1).1).conf) (((cancelBV ((placeV (newB c) x 1 0).1) 1 1).1).index) (((cancelBV ((placeV (newB c) x 1 0).1) 1 1).1).room) (.slice la21_2 (((cancelBV ((placeV (newB c) x 1 0).1) 1 1).1).live.length) lc21_2) (.slice da21_2 (((cancelBV ((placeV (newB c) x 1 0).1) 1 1).1).done.length) dc21_2) (((cancelBV ((placeV (newB c) x 1 0).1) 1 1).1).modes)), rB b16 84 (snL (((placeV (newB c) x 1 0).1).conf) (((placeV (newB c) x 1 0).1).index) (((placeV (newB c) x 1 0).1).room) (.slice la7_3 (((placeV (newB c) x 1 0).1).live.length) lc7_3) (.slice da7_3 (((placeV (newB c) x 1 0).1).done.length) dc7_3) (((placeV (newB c) x 1 0).1).modes) c c.keys (i : Int)), rS la3_1 lc3_1 9 ((newB c).live.map rowOf), rS da3_1 dc3_1 8 ((newB c).done.map callRow), rB b12 40 (chL ((placeV (newB c) x 1 0).2.1)), rB b11 33 (bkL (((placeV (newB c) x 1 0).1).conf) (((placeV (newB c) x 1 0).1).index) (((placeV (newB c) x 1 0).1).room) (.slice la7_3 (((placeV (newB c) x 1 0).1).live.length) lc7_3) (.slice da7_3 (((placeV (newB c) x 1 0).1).done.length) dc7_3) (((placeV (newB c) x 1 0).1).modes)), rB b10 84 (snL ((newB c).conf) ((newB c).index) ((newB c).room) (.slice la3_1 ((newB c).live.length) lc3_1) (.slice da3_1 ((newB c).done.length) dc3_1) ((newB c).modes) c c.keys 0), rB b5 38 (xL x), rB b4 24 (cL c)])) := hp_sel [5, 6, 9, 10, 2, 3, 0, 1, 4, 7, 8, 11, 12, 13, 14, 15] H (by decide) rfl
         have H2 : Hid (Hp [] w wd [rB v3_1 115 (vtL (((cancelBV ((placeV (newB c) x 1 0).1) 1 1).1).conf) (((cancelBV ((placeV (newB c) x 1 0).1) 1 1).1).index) (((cancelBV ((placeV (newB c) x 1 0).1) 1 1).1).room) (.slice la21_2 (((cancelBV ((placeV (newB c) x 1 0).1) 1 1).1).live.length) lc21_2) (.slice da21_2 (((cancelBV ((placeV (newB c) x 1 0).1) 1 1).1).done.length) dc21_2) (((cancelBV ((placeV (newB c) x 1 0).1) 1 1).1).modes) c c.keys (i : Int) (.slice ga22_6 ((([] : List ChgV) ++ [((cancelBV ((placeV (newB c) x 1 0).1) 1 1).2.1)]).length) gc22_6) ((0 + 1) + 1) 0), rA ga22_6 gc22_6 40 11 ((([] : List ChgV) ++ [((cancelBV ((placeV (newB c) x 1 0).1) 1 1).2.1)]).map chgRow), rS la7_3 lc7_3 9 (((placeV (newB c) x 1 0).1).live.map rowOf), rS da7_3 dc7_3 8 (((placeV (newB c) x 1 0).1).done.map callRow), rS la21_2 lc21_2 9 (((cancelBV ((placeV (newB c) x 1 0).1) 1 1).1).live.map rowOf), rS da21_2 dc21_2 8 (((cancelBV ((placeV (newB c) x 1 0).1) 1 1).1).done.map callRow), rB b18 40 (chL ((cancelBV ((placeV (newB c) x 1 0).1) 1 1).2.1)), rB b17 33 (bkL (((cancelBV ((placeV (newB c) x 1 0).1) 1 1).1).conf) (((cancelBV ((placeV (newB c) x 1 0).1) 1 1).1).index) (((cancelBV ((placeV (newB c) x 1 0).1) 1 1).1).room) (.slice la21_2 (((cancelBV ((placeV (newB c) x 1 0).1) 1 1).1).live.length) lc21_2) (.slice da21_2 (((cancelBV ((placeV (newB c) x 1 0).1) 1 1).1).done.length) dc21_2) (((cancelBV ((placeV (newB c) x 1 0).1) 1 1).1).modes)), rB b16 84 (snL (((placeV (newB c) x 1 0).1).conf) (((placeV (newB c) x 1 0).1).index) (((placeV (newB c) x 1 0).1).room) (.slice la7_3 (((placeV (newB c) x 1 0).1).live.length) lc7_3) (.slice da7_3 (((placeV (newB c) x 1 0).1).done.length) dc7_3) (((placeV (newB c) x 1 0).1).modes) c c.keys (i : Int)), rS la3_1 lc3_1 9 ((newB c).live.map rowOf), rS da3_1 dc3_1 8 ((newB c).done.map callRow), rB b12 40 (chL ((placeV (newB c) x 1 0).2.1)), rB b11 33 (bkL (((placeV (newB c) x 1 0).1).conf) (((placeV (newB c) x 1 0).1).index) (((placeV (newB c) x 1 0).1).room) (.slice la7_3 (((placeV (newB c) x 1 0).1).live.length) lc7_3) (.slice da7_3 (((placeV (newB c) x 1 0).1).done.length) dc7_3) (((placeV (newB c) x 1 0).1).modes)), rB b10 84 (snL ((newB c).conf) ((newB c).index) ((newB c).room) (.slice la3_1 ((newB c).live.length) lc3_1) (.slice da3_1 ((newB c).done.length) dc3_1) ((newB c).modes) c c.keys 0), rB b5 38 (xL x), rB b4 24 (cL c)]) := hp_backV H1 HH (fun r hr => .inl hr)
         clear H1
         refine ⟨_, rfl, wkAt H2 ?_⟩
         clear H H2
         refine p_ticks_w rfl ?_
         refine wN ?_
         refine tN (wKK hK28 ?_)
         refine wSeqK fun KK29 hK29 => ?_
         refine wReg ?_
         refine p_ticks_w rfl ?_
         refine wLr rfl tyvault_Snap 8 rfl (snL (((placeV (newB c) x 1 0).1).conf) (((placeV (newB c) x 1 0).1).index) (((placeV (newB c) x 1 0).1).room) (.slice la7_3 (((placeV (newB c) x 1 0).1).live.length) lc7_3) (.slice da7_3 (((placeV (newB c) x 1 0).1).done.length) dc7_3) (((placeV (newB c) x 1 0).1).modes) c c.keys (i : Int)) rfl rfl ?_
         refine wLr rfl tybook_Book 7 rfl (bkL (((cancelBV ((placeV (newB c) x 1 0).1) 1 1).1).conf) (((cancelBV ((placeV (newB c) x 1 0).1) 1 1).1).index) (((cancelBV ((placeV (newB c) x 1 0).1) 1 1).1).room) (.slice la21_2 (((cancelBV ((placeV (newB c) x 1 0).1) 1 1).1).live.length) lc21_2) (.slice da21_2 (((cancelBV ((placeV (newB c) x 1 0).1) 1 1).1).done.length) dc21_2) (((cancelBV ((placeV (newB c) x 1 0).1) 1 1).1).modes)) rfl rfl ?_
         refine wLr rfl tyapi_Change 6 rfl (chL ((cancelBV ((placeV (newB c) x 1 0).1) 1 1).2.1)) rfl rfl ?_
         refine p_ticks_w rfl ?_
         refine wLr rfl tykeys_Keys 8 rfl (kyL c c.keys) rfl rfl ?_
         refine wC (l := [.pointer (some ⟨v3_1, 0, none⟩), .agg (snA (((placeV (newB c) x 1 0).1).conf) (((placeV (newB c) x 1 0).1).index) (((placeV (newB c) x 1 0).1).room) (.slice la7_3 (((placeV (newB c) x 1 0).1).live.length) lc7_3) (.slice da7_3 (((placeV (newB c) x 1 0).1).done.length) dc7_3) (((placeV (newB c) x 1 0).1).modes) c c.keys (i : Int)), .agg (bkA (((cancelBV ((placeV (newB c) x 1 0).1) 1 1).1).conf) (((cancelBV ((placeV (newB c) x 1 0).1) 1 1).1).index) (((cancelBV ((placeV (newB c) x 1 0).1) 1 1).1).room) (.slice la21_2 (((cancelBV ((placeV (newB c) x 1 0).1) 1 1).1).live.length) lc21_2) (.slice da21_2 (((cancelBV ((placeV (newB c) x 1 0).1) 1 1).1).done.length) dc21_2) (((cancelBV ((placeV (newB c) x 1 0).1) 1 1).1).modes)), .agg (chA ((cancelBV ((placeV (newB c) x 1 0).1) 1 1).2.1)), .agg (kyA c c.keys)]) Try.func35 rfl (by kernel_rfl) (fun wc H => commitNo v3_1 ((cancelBV ((placeV (newB c) x 1 0).1) 1 1).1) la21_2 lc21_2 da21_2 dc21_2 c c.keys (i : Int) ga22_6 gc22_6 (([] : List ChgV) ++ [((cancelBV ((placeV (newB c) x 1 0).1) 1 1).2.1)]) ((0 + 1) + 1) 0 ((placeV (newB c) x 1 0).1) la7_3 lc7_3 da7_3 dc7_3 c c.keys (i : Int) ((cancelBV ((placeV (newB c) x 1 0).1) 1 1).1) la21_2 lc21_2 da21_2 dc21_2 ((cancelBV ((placeV (newB c) x 1 0).1) 1 1).2.1) c c.keys wc (H.out.blk 0 rfl) (by omega) (by simp; omega)) rfl rfl rfl rfl ?_
         intro wc H
         rintro er wd ⟨rfl, hb, ho⟩
         have H2 := hp_turn H (i := 0) (cs' := (vtL (((cancelBV ((placeV (newB c) x 1 0).1) 1 1).1).conf) (((cancelBV ((placeV (newB c) x 1 0).1) 1 1).1).index) (((cancelBV ((placeV (newB c) x 1 0).1) 1 1).1).room) (.slice la21_2 (((cancelBV ((placeV (newB c) x 1 0).1) 1 1).1).live.length) lc21_2) (.slice da21_2 (((cancelBV ((placeV (newB c) x 1 0).1) 1 1).1).done.length) dc21_2) (((cancelBV ((placeV (newB c) x 1 0).1) 1 1).1).modes) c c.keys (i : Int) (.slice ga22_6 ((([] : List ChgV) ++ [((cancelBV ((placeV (newB c) x 1 0).1) 1 1).2.1)]).length) gc22_6) (((0 + 1) + 1) + 1) (0 + 1))) rfl hb ho
         refine ⟨_, rfl, wkAt H2 ?_⟩
         clear H H2
         refine p_ticks_w rfl ?_
         refine wN ?_
         refine tN (wKK hK29 ?_)
         refine wSeqK fun KK30 hK30 => ?_
         refine wReg ?_
         refine p_ticks_w rfl ?_
         refine wC (l := [.pointer (some ⟨v3_1, 0, none⟩), .int .i64 1]) Try.func36 rfl (by kernel_rfl) (fun wc H => sinceC v3_1 ((cancelBV ((placeV (newB c) x 1 0).1) 1 1).1) la21_2 lc21_2 da21_2 dc21_2 c c.keys (i : Int) ga22_6 gc22_6 (([] : List ChgV) ++ [((cancelBV ((placeV (newB c) x 1 0).1) 1 1).2.1)]) (((0 + 1) + 1) + 1) (0 + 1) 1 wc (H.out.blk 0 rfl) (hp_held (hp_read H 1 rfl) (by (repeat (first | exact List.Mem.head _ | apply List.Mem.tail)))) (by first | omega | (simp; done) | (simp; omega)) (by have h := rA_cap (H.out.at 1 rfl); rwa [List.length_map] at h)) rfl rfl rfl rfl ?_
         intro wc H
         rintro er wd ⟨a24_1, c24_1, rfl, hh, hf, ho⟩
         have H2 := hp_got H (Rs := []) ho hh (by decide) (From.new hf) (fun r hr => by cases hr)
         refine ⟨_, rfl, wkAt H2 ?_⟩
         clear H H2
         refine p_ticks_w rfl ?_
         refine wN ?_
         refine tN (wKK hK30 ?_)
         refine wSeqK fun KK31 hK31 => ?_
         intro aa ww nn dd hs H
         have eR : ((([] : List ChgV) ++ [((cancelBV ((placeV (newB c) x 1 0).1) 1 1).2.1)]).drop (atN (([] : List ChgV) ++ [((cancelBV ((placeV (newB c) x 1 0).1) 1 1).2.1)]) 1)) = [((cancelBV ((placeV (newB c) x 1 0).1) 1 1).2.1)] := since_one hc2
         rw [eR] at H hs
         have HR := Lib.hid (show ([((cancelBV ((placeV (newB c) x 1 0).1) 1 1).2.1)].map chgRow)[0]? = some [.int .i64 (((cancelBV ((placeV (newB c) x 1 0).1) 1 1).2.1).index), .int .i64 ((((cancelBV ((placeV (newB c) x 1 0).1) 1 1).2.1).call).id), .int .i64 ((((cancelBV ((placeV (newB c) x 1 0).1) 1 1).2.1).call).kind), .int .i64 ((((cancelBV ((placeV (newB c) x 1 0).1) 1 1).2.1).call).src), .int .i64 ((((cancelBV ((placeV (newB c) x 1 0).1) 1 1).2.1).call).dst), .int .i64 ((((cancelBV ((placeV (newB c) x 1 0).1) 1 1).2.1).call).car), .int .i64 ((((cancelBV ((placeV (newB c) x 1 0).1) 1 1).2.1).call).state), .int .i64 ((((cancelBV ((placeV (newB c) x 1 0).1) 1 1).2.1).call).owner), .int .i64 ((((cancelBV ((placeV (newB c) x 1 0).1) 1 1).2.1).call).born), .int .i64 (((cancelBV ((placeV (newB c) x 1 0).1) 1 1).2.1).car), .int .i64 (((cancelBV ((placeV (newB c) x 1 0).1) 1 1).2.1).mode)] from rfl)
         obtain ⟨y, rfl⟩ := some_of_row (i := 0) (hp_held H (show rS a24_1 _ 11 ([((cancelBV ((placeV (newB c) x 1 0).1) 1 1).2.1)].map chgRow) ∈ _ by (repeat (first | exact List.Mem.head _ | apply List.Mem.tail)))) (by simp)
         have hl1 : ((([((cancelBV ((placeV (newB c) x 1 0).1) 1 1).2.1)] : List ChgV).length : Int) == 1) = true := rfl
         refine wIn nn dd hs H ?_
         intro aa ww nn dd hs H
         refine ticks_w_r25 m c x t f b4 b5 v3_1 la3_1 lc3_1 da3_1 dc3_1 b10 la7_3 lc7_3 da7_3 dc7_3 b11 b12 i b16 la21_2 lc21_2 da21_2 dc21_2 b17 b18 ga22_6 gc22_6 c24_1 y hm40 hm hap haq hcz hi z3d him hk1 hf1 hl1 HR H aa nn (hs 18 _ rfl) (hs 19 _ rfl) (hs 20 _ rfl) (hs 21 _ rfl) (hs 22 _ rfl) ?_
         intro ab wv nn2 dd2 kp o8 H2
         refine wIn nn2 (dd2.trans dd) (Sat.cons (Sat.cons (Sat.cons (Sat.cons (Sat.cons (Sat.cons (Sat.cons (Sat.cons (Sat.cons (Sat.cons (Sat.cons (Sat.cons (Sat.cons (Sat.cons (Sat.cons (Sat.cons (Sat.cons (Sat.cons (Sat.cons (Sat.cons (Sat.cons (Sat.cons (Sat.cons (Sat.cons (Sat.cons (Sat.cons (Sat.cons (sat_nil ab) ((kp 78 rfl).trans (hs 78 _ rfl))) ((kp 72 rfl).trans (hs 72 _ rfl))) ((kp 47 rfl).trans (hs 47 _ rfl))) ((kp 40 rfl).trans (hs 40 _ rfl))) ((kp 28 rfl).trans (hs 28 _ rfl))) ((kp 24 rfl).trans (hs 24 _ rfl))) ((kp 22 rfl).trans (hs 22 _ rfl))) ((kp 21 rfl).trans (hs 21 _ rfl))) ((kp 20 rfl).trans (hs 20 _ rfl))) ((kp 19 rfl).trans (hs 19 _ rfl))) ((kp 18 rfl).trans (hs 18 _ rfl))) ((kp 17 rfl).trans (hs 17 _ rfl))) ((kp 16 rfl).trans (hs 16 _ rfl))) ((kp 15 rfl).trans (hs 15 _ rfl))) ((kp 14 rfl).trans (hs 14 _ rfl))) ((kp 13 rfl).trans (hs 13 _ rfl))) ((kp 12 rfl).trans (hs 12 _ rfl))) ((kp 11 rfl).trans (hs 11 _ rfl))) ((kp 10 rfl).trans (hs 10 _ rfl))) ((kp 9 rfl).trans (hs 9 _ rfl))) ((kp 5 rfl).trans (hs 5 _ rfl))) ((kp 4 rfl).trans (hs 4 _ rfl))) ((kp 3 rfl).trans (hs 3 _ rfl))) ((kp 2 rfl).trans (hs 2 _ rfl))) ((kp 1 rfl).trans (hs 1 _ rfl))) ((kp 0 rfl).trans (hs 0 _ rfl))) o8) H2 ?_
         clear hs H kp H2 dd dd2 nn nn2 o8
         refine tN (wKK hK31 ?_)
         refine wRet ?_
         exact wR1 rfl rfl (fun ww H => ⟨rfl, H.out.off⟩)
       · skip
         intro aa ww nn dd hs H
         rw [y4] at hs
         refine wIn nn dd hs H ?_
         refine wReg ?_
         iterate 6 refine p_ticks_w rfl ?_
         refine wN ?_
         refine tN (wKK hK25 ?_)
         refine wCf rfl ?_
         refine wSk ?_
         refine tN (wKK hK24 ?_)
         refine wSeqK fun KK32 hK32 => ?_
         refine wReg ?_
         refine p_ticks_w rfl ?_
         refine wQ (l := [.pointer (some ⟨v3_1, 0, none⟩)]) Try.func34 rfl (by kernel_rfl) (.agg (snA (((placeV (newB c) x 1 0).1).conf) (((placeV (newB c) x 1 0).1).index) (((placeV (newB c) x 1 0).1).room) (.slice la7_3 (((placeV (newB c) x 1 0).1).live.length) lc7_3) (.slice da7_3 (((placeV (newB c) x 1 0).1).done.length) dc7_3) (((placeV (newB c) x 1 0).1).modes) c c.keys (i : Int))) (fun wc H => readC v3_1 ((placeV (newB c) x 1 0).1) la7_3 lc7_3 da7_3 dc7_3 c c.keys (i : Int) ga16_6 gc16_6 (([] : List ChgV) ++ [((placeV (newB c) x 1 0).2.1)]) (0 + 1) 0 wc (H.out.blk 0 rfl)) rfl rfl rfl rfl ?_
         refine wAl rfl rfl tyvault_Snap fun b16 => ?_
         refine wSr rfl tyvault_Snap 0 rfl rfl rfl rfl (snL (((placeV (newB c) x 1 0).1).conf) (((placeV (newB c) x 1 0).1).index) (((placeV (newB c) x 1 0).1).room) (.slice la7_3 (((placeV (newB c) x 1 0).1).live.length) lc7_3) (.slice da7_3 (((placeV (newB c) x 1 0).1).done.length) dc7_3) (((placeV (newB c) x 1 0).1).modes) c c.keys (i : Int)) (by first | rfl | (simp only [spl]; rfl)) ?_
         refine wN ?_
         refine tN (wKK hK32 ?_)
         refine wSeqK fun KK33 hK33 => ?_
         refine wReg ?_
         refine p_ticks_w rfl ?_
         refine wLr rfl tybook_Book 0 rfl (bkL (((placeV (newB c) x 1 0).1).conf) (((placeV (newB c) x 1 0).1).index) (((placeV (newB c) x 1 0).1).room) (.slice la7_3 (((placeV (newB c) x 1 0).1).live.length) lc7_3) (.slice da7_3 (((placeV (newB c) x 1 0).1).done.length) dc7_3) (((placeV (newB c) x 1 0).1).modes)) rfl rfl ?_
         refine wC (l := [.agg (bkA (((placeV (newB c) x 1 0).1).conf) (((placeV (newB c) x 1 0).1).index) (((placeV (newB c) x 1 0).1).room) (.slice la7_3 (((placeV (newB c) x 1 0).1).live.length) lc7_3) (.slice da7_3 (((placeV (newB c) x 1 0).1).done.length) dc7_3) (((placeV (newB c) x 1 0).1).modes)), .int .i64 1, .int .i64 1]) Try.func14 rfl (by kernel_rfl) (fun wc H => cancelBC ((placeV (newB c) x 1 0).1) la7_3 lc7_3 da7_3 dc7_3 1 1 wc (hp_held H (by (repeat (first | exact List.Mem.head _ | apply List.Mem.tail)))) (hp_held H (by (repeat (first | exact List.Mem.head _ | apply List.Mem.tail)))) (Lib.hid hI1.out.ok) ) rfl rfl rfl rfl ?_
         intro wc H
         rintro er wd ⟨la21_2, lc21_2, da21_2, dc21_2, rfl, hg⟩
         have H2 := hp_gotB H hg.2.2.2.2 hg.1 hg.2.1 (by decide) (by decide) hg.2.2.1 hg.2.2.2.1 (List.forall_mem_cons.2 ⟨(by (repeat (first | exact List.Mem.head _ | apply List.Mem.tail))), List.forall_mem_cons.2 ⟨(by (repeat (first | exact List.Mem.head _ | apply List.Mem.tail))), fun _ h => by cases h⟩⟩)
         refine ⟨_, rfl, wkAt H2 ?_⟩
         clear H H2
         iterate 4 refine p_ticks_w rfl ?_
         refine wAl rfl rfl tybook_Book fun b17 => ?_
         refine wAl rfl rfl tyapi_Change fun b18 => ?_
         refine wSr rfl tybook_Book 1 rfl rfl rfl rfl (bkL (((cancelBV ((placeV (newB c) x 1 0).1) 1 1).1).conf) (((cancelBV ((placeV (newB c) x 1 0).1) 1 1).1).index) (((cancelBV ((placeV (newB c) x 1 0).1) 1 1).1).room) (.slice la21_2 (((cancelBV ((placeV (newB c) x 1 0).1) 1 1).1).live.length) lc21_2) (.slice da21_2 (((cancelBV ((placeV (newB c) x 1 0).1) 1 1).1).done.length) dc21_2) (((cancelBV ((placeV (newB c) x 1 0).1) 1 1).1).modes)) (by first | rfl | (simp only [spl]; rfl)) ?_
         refine wSr rfl tyapi_Change 0 rfl rfl rfl rfl (chL ((cancelBV ((placeV (newB c) x 1 0).1) 1 1).2.1)) (by first | rfl | (simp only [spl]; rfl)) ?_
         refine p_ticks_w rfl ?_
         refine wN ?_
         refine tN (wKK hK33 ?_)
         refine wSeqK fun KK34 hK34 => ?_
         refine wReg ?_
         refine p_ticks_w rfl ?_
         refine wLr rfl tyvault_Snap 4 rfl (snL (((placeV (newB c) x 1 0).1).conf) (((placeV (newB c) x 1 0).1).index) (((placeV (newB c) x 1 0).1).room) (.slice la7_3 (((placeV (newB c) x 1 0).1).live.length) lc7_3) (.slice da7_3 (((placeV (newB c) x 1 0).1).done.length) dc7_3) (((placeV (newB c) x 1 0).1).modes) c c.keys (i : Int)) rfl rfl ?_
         refine wLr rfl tybook_Book 1 rfl (bkL (((cancelBV ((placeV (newB c) x 1 0).1) 1 1).1).conf) (((cancelBV ((placeV (newB c) x 1 0).1) 1 1).1).index) (((cancelBV ((placeV (newB c) x 1 0).1) 1 1).1).room) (.slice la21_2 (((cancelBV ((placeV (newB c) x 1 0).1) 1 1).1).live.length) lc21_2) (.slice da21_2 (((cancelBV ((placeV (newB c) x 1 0).1) 1 1).1).done.length) dc21_2) (((cancelBV ((placeV (newB c) x 1 0).1) 1 1).1).modes)) rfl rfl ?_
         refine wLr rfl tyapi_Change 0 rfl (chL ((cancelBV ((placeV (newB c) x 1 0).1) 1 1).2.1)) rfl rfl ?_
         refine p_ticks_w rfl ?_
         refine wLr rfl tykeys_Keys 4 rfl (kyL c c.keys) rfl rfl ?_
         refine wC (l := [.pointer (some ⟨v3_1, 0, none⟩), .agg (snA (((placeV (newB c) x 1 0).1).conf) (((placeV (newB c) x 1 0).1).index) (((placeV (newB c) x 1 0).1).room) (.slice la7_3 (((placeV (newB c) x 1 0).1).live.length) lc7_3) (.slice da7_3 (((placeV (newB c) x 1 0).1).done.length) dc7_3) (((placeV (newB c) x 1 0).1).modes) c c.keys (i : Int)), .agg (bkA (((cancelBV ((placeV (newB c) x 1 0).1) 1 1).1).conf) (((cancelBV ((placeV (newB c) x 1 0).1) 1 1).1).index) (((cancelBV ((placeV (newB c) x 1 0).1) 1 1).1).room) (.slice la21_2 (((cancelBV ((placeV (newB c) x 1 0).1) 1 1).1).live.length) lc21_2) (.slice da21_2 (((cancelBV ((placeV (newB c) x 1 0).1) 1 1).1).done.length) dc21_2) (((cancelBV ((placeV (newB c) x 1 0).1) 1 1).1).modes)), .agg (chA ((cancelBV ((placeV (newB c) x 1 0).1) 1 1).2.1)), .agg (kyA c c.keys)]) Try.func35 rfl (by kernel_rfl) (fun wc H => commitYes v3_1 ((placeV (newB c) x 1 0).1) la7_3 lc7_3 da7_3 dc7_3 c c.keys (i : Int) ga16_6 gc16_6 (([] : List ChgV) ++ [((placeV (newB c) x 1 0).2.1)]) (0 + 1) 0 ((placeV (newB c) x 1 0).1) la7_3 lc7_3 da7_3 dc7_3 c c.keys (i : Int) ((cancelBV ((placeV (newB c) x 1 0).1) 1 1).1) la21_2 lc21_2 da21_2 dc21_2 ((cancelBV ((placeV (newB c) x 1 0).1) 1 1).2.1) c c.keys wc (hp_rootV (hp_sel [5, 6, 9, 10, 2, 3] H (by decide) rfl) (ro_S (ro_S (ro_S (ro_S ro_nil))))) (by omega) (by first | omega | (simp; done) | (simp; omega)) (by simp) haq hI1 hI2) rfl rfl rfl rfl ?_
         intro wc H
         rintro er wd ⟨ga22_6, gc22_6, rfl, HH⟩
         have H1 : Hid (Hp [] w wc ([rB v3_1 115 (vtL (((placeV (newB c) x 1 0).1).conf) (((placeV (newB c) x 1 0).1).index) (((placeV (newB c) x 1 0).1).room) (.slice la7_3 (((placeV (newB c) x 1 0).1).live.length) lc7_3) (.slice da7_3 (((placeV (newB c) x 1 0).1).done.length) dc7_3) (((placeV (newB c) x 1 0).1).modes) c c.keys (i : Int) (.slice ga16_6 ((([] : List ChgV) ++ [((placeV (newB c) x 1 0).2.1)]).length) gc16_6) (0 + 1) 0), rA ga16_6 gc16_6 40 11 ((([] : List ChgV) ++ [((placeV (newB c) x 1 0).2.1)]).map chgRow), rS la7_3 lc7_3 9 (((placeV (newB c) x 1 0).1).live.map rowOf), rS da7_3 dc7_3 8 (((placeV (newB c) x 1 0).1).done.map callRow), rS la21_2 lc21_2 9 (((cancelBV ((placeV (newB c) x 1 0).1) 1 1).1).live.map rowOf), rS da21_2 dc21_2 8 (((cancelBV ((placeV (newB c) x 1 0).1) 1 1).1).done.map callRow)] ++ [rB b18 40 (chL ((cancelBV ((placeV (newB c) x 1 0).1) 1 1).2.1)), rB b17 33 (bkL (((cancelBV ((placeV (newB c) x 1 0).1) 1 1).1).conf) (((cancelBV ((placeV (newB c) x 1 0).1) 1 1).1).index) (((cancelBV ((placeV (newB c) x 1 0).1) 1 1).1).room) (.slice la21_2 (((cancelBV ((placeV (newB c) x 1 0).1) 1 1).1).live.length) lc21_2) (.slice da21_2 (((cancelBV ((placeV (newB c) x 1 0).1) 1 1).1).done.length) dc21_2) (((cancelBV ((placeV (newB c) x 1 0).1) 1 1).1).modes)), rB b16 84 (snL (((placeV (newB c) x 1 0).1).conf) (((placeV (newB c) x 1 0).1).index) (((placeV (newB c) x 1 0).1).room) (.slice la7_3 (((placeV (newB c) x 1 0).1).live.length) lc7_3) (.slice da7_3 (((placeV (newB c) x 1 0).1).done.length) dc7_3) (((placeV (newB c) x 1 0).1).modes) c c.keys (i : Int)), rS la3_1 lc3_1 9 ((newB c).live.map rowOf), rS da3_1 dc3_1 8 ((newB c).done.map callRow), rB b12 40 (chL ((placeV (newB c) x 1 0).2.1)), rB b11 33 (bkL (((placeV (newB c) x 1 0).1).conf) (((placeV (newB c) x 1 0).1).index) (((placeV (newB c) x 1 0).1).room) (.slice la7_3 (((placeV (newB c) x 1 0).1).live.length) lc7_3) (.slice da7_3 (((placeV (newB c) x 1 0).1).done.length) dc7_3) (((placeV (newB c) x 1 0).1).modes)), rB b10 84 (snL ((newB c).conf) ((newB c).index) ((newB c).room) (.slice la3_1 ((newB c).live.length) lc3_1) (.slice da3_1 ((newB c).done.length) dc3_1) ((newB c).modes) c c.keys 0), rB b5 38 (xL x), rB b4 24 (cL c)])) := hp_sel [5, 6, 9, 10, 2, 3, 0, 1, 4, 7, 8, 11, 12, 13, 14, 15] H (by decide) rfl
         have H2 : Hid (Hp [] w wd [rB v3_1 115 (vtL (((cancelBV ((placeV (newB c) x 1 0).1) 1 1).1).conf) (((cancelBV ((placeV (newB c) x 1 0).1) 1 1).1).index) (((cancelBV ((placeV (newB c) x 1 0).1) 1 1).1).room) (.slice la21_2 (((cancelBV ((placeV (newB c) x 1 0).1) 1 1).1).live.length) lc21_2) (.slice da21_2 (((cancelBV ((placeV (newB c) x 1 0).1) 1 1).1).done.length) dc21_2) (((cancelBV ((placeV (newB c) x 1 0).1) 1 1).1).modes) c c.keys (i : Int) (.slice ga22_6 (((([] : List ChgV) ++ [((placeV (newB c) x 1 0).2.1)]) ++ [((cancelBV ((placeV (newB c) x 1 0).1) 1 1).2.1)]).length) gc22_6) ((0 + 1) + 1) 0), rA ga22_6 gc22_6 40 11 (((([] : List ChgV) ++ [((placeV (newB c) x 1 0).2.1)]) ++ [((cancelBV ((placeV (newB c) x 1 0).1) 1 1).2.1)]).map chgRow), rS la7_3 lc7_3 9 (((placeV (newB c) x 1 0).1).live.map rowOf), rS da7_3 dc7_3 8 (((placeV (newB c) x 1 0).1).done.map callRow), rS la21_2 lc21_2 9 (((cancelBV ((placeV (newB c) x 1 0).1) 1 1).1).live.map rowOf), rS da21_2 dc21_2 8 (((cancelBV ((placeV (newB c) x 1 0).1) 1 1).1).done.map callRow), rB b18 40 (chL ((cancelBV ((placeV (newB c) x 1 0).1) 1 1).2.1)), rB b17 33 (bkL (((cancelBV ((placeV (newB c) x 1 0).1) 1 1).1).conf) (((cancelBV ((placeV (newB c) x 1 0).1) 1 1).1).index) (((cancelBV ((placeV (newB c) x 1 0).1) 1 1).1).room) (.slice la21_2 (((cancelBV ((placeV (newB c) x 1 0).1) 1 1).1).live.length) lc21_2) (.slice da21_2 (((cancelBV ((placeV (newB c) x 1 0).1) 1 1).1).done.length) dc21_2) (((cancelBV ((placeV (newB c) x 1 0).1) 1 1).1).modes)), rB b16 84 (snL (((placeV (newB c) x 1 0).1).conf) (((placeV (newB c) x 1 0).1).index) (((placeV (newB c) x 1 0).1).room) (.slice la7_3 (((placeV (newB c) x 1 0).1).live.length) lc7_3) (.slice da7_3 (((placeV (newB c) x 1 0).1).done.length) dc7_3) (((placeV (newB c) x 1 0).1).modes) c c.keys (i : Int)), rS la3_1 lc3_1 9 ((newB c).live.map rowOf), rS da3_1 dc3_1 8 ((newB c).done.map callRow), rB b12 40 (chL ((placeV (newB c) x 1 0).2.1)), rB b11 33 (bkL (((placeV (newB c) x 1 0).1).conf) (((placeV (newB c) x 1 0).1).index) (((placeV (newB c) x 1 0).1).room) (.slice la7_3 (((placeV (newB c) x 1 0).1).live.length) lc7_3) (.slice da7_3 (((placeV (newB c) x 1 0).1).done.length) dc7_3) (((placeV (newB c) x 1 0).1).modes)), rB b10 84 (snL ((newB c).conf) ((newB c).index) ((newB c).room) (.slice la3_1 ((newB c).live.length) lc3_1) (.slice da3_1 ((newB c).done.length) dc3_1) ((newB c).modes) c c.keys 0), rB b5 38 (xL x), rB b4 24 (cL c)]) := hp_backV H1 HH (fun r hr => .inl hr)
         clear H1
         refine ⟨_, rfl, wkAt H2 ?_⟩
         clear H H2
         refine p_ticks_w rfl ?_
         refine wN ?_
         refine tN (wKK hK34 ?_)
         refine wSeqK fun KK35 hK35 => ?_
         refine wReg ?_
         refine p_ticks_w rfl ?_
         refine wLr rfl tyvault_Snap 8 rfl (snL (((placeV (newB c) x 1 0).1).conf) (((placeV (newB c) x 1 0).1).index) (((placeV (newB c) x 1 0).1).room) (.slice la7_3 (((placeV (newB c) x 1 0).1).live.length) lc7_3) (.slice da7_3 (((placeV (newB c) x 1 0).1).done.length) dc7_3) (((placeV (newB c) x 1 0).1).modes) c c.keys (i : Int)) rfl rfl ?_
         refine wLr rfl tybook_Book 7 rfl (bkL (((cancelBV ((placeV (newB c) x 1 0).1) 1 1).1).conf) (((cancelBV ((placeV (newB c) x 1 0).1) 1 1).1).index) (((cancelBV ((placeV (newB c) x 1 0).1) 1 1).1).room) (.slice la21_2 (((cancelBV ((placeV (newB c) x 1 0).1) 1 1).1).live.length) lc21_2) (.slice da21_2 (((cancelBV ((placeV (newB c) x 1 0).1) 1 1).1).done.length) dc21_2) (((cancelBV ((placeV (newB c) x 1 0).1) 1 1).1).modes)) rfl rfl ?_
         refine wLr rfl tyapi_Change 6 rfl (chL ((cancelBV ((placeV (newB c) x 1 0).1) 1 1).2.1)) rfl rfl ?_
         refine p_ticks_w rfl ?_
         refine wLr rfl tykeys_Keys 8 rfl (kyL c c.keys) rfl rfl ?_
         refine wC (l := [.pointer (some ⟨v3_1, 0, none⟩), .agg (snA (((placeV (newB c) x 1 0).1).conf) (((placeV (newB c) x 1 0).1).index) (((placeV (newB c) x 1 0).1).room) (.slice la7_3 (((placeV (newB c) x 1 0).1).live.length) lc7_3) (.slice da7_3 (((placeV (newB c) x 1 0).1).done.length) dc7_3) (((placeV (newB c) x 1 0).1).modes) c c.keys (i : Int)), .agg (bkA (((cancelBV ((placeV (newB c) x 1 0).1) 1 1).1).conf) (((cancelBV ((placeV (newB c) x 1 0).1) 1 1).1).index) (((cancelBV ((placeV (newB c) x 1 0).1) 1 1).1).room) (.slice la21_2 (((cancelBV ((placeV (newB c) x 1 0).1) 1 1).1).live.length) lc21_2) (.slice da21_2 (((cancelBV ((placeV (newB c) x 1 0).1) 1 1).1).done.length) dc21_2) (((cancelBV ((placeV (newB c) x 1 0).1) 1 1).1).modes)), .agg (chA ((cancelBV ((placeV (newB c) x 1 0).1) 1 1).2.1)), .agg (kyA c c.keys)]) Try.func35 rfl (by kernel_rfl) (fun wc H => commitNo v3_1 ((cancelBV ((placeV (newB c) x 1 0).1) 1 1).1) la21_2 lc21_2 da21_2 dc21_2 c c.keys (i : Int) ga22_6 gc22_6 ((([] : List ChgV) ++ [((placeV (newB c) x 1 0).2.1)]) ++ [((cancelBV ((placeV (newB c) x 1 0).1) 1 1).2.1)]) ((0 + 1) + 1) 0 ((placeV (newB c) x 1 0).1) la7_3 lc7_3 da7_3 dc7_3 c c.keys (i : Int) ((cancelBV ((placeV (newB c) x 1 0).1) 1 1).1) la21_2 lc21_2 da21_2 dc21_2 ((cancelBV ((placeV (newB c) x 1 0).1) 1 1).2.1) c c.keys wc (H.out.blk 0 rfl) (by omega) (by simp; omega)) rfl rfl rfl rfl ?_
         intro wc H
         rintro er wd ⟨rfl, hb, ho⟩
         have H2 := hp_turn H (i := 0) (cs' := (vtL (((cancelBV ((placeV (newB c) x 1 0).1) 1 1).1).conf) (((cancelBV ((placeV (newB c) x 1 0).1) 1 1).1).index) (((cancelBV ((placeV (newB c) x 1 0).1) 1 1).1).room) (.slice la21_2 (((cancelBV ((placeV (newB c) x 1 0).1) 1 1).1).live.length) lc21_2) (.slice da21_2 (((cancelBV ((placeV (newB c) x 1 0).1) 1 1).1).done.length) dc21_2) (((cancelBV ((placeV (newB c) x 1 0).1) 1 1).1).modes) c c.keys (i : Int) (.slice ga22_6 (((([] : List ChgV) ++ [((placeV (newB c) x 1 0).2.1)]) ++ [((cancelBV ((placeV (newB c) x 1 0).1) 1 1).2.1)]).length) gc22_6) (((0 + 1) + 1) + 1) (0 + 1))) rfl hb ho
         refine ⟨_, rfl, wkAt H2 ?_⟩
         clear H H2
         refine p_ticks_w rfl ?_
         refine wN ?_
         refine tN (wKK hK35 ?_)
         refine wSeqK fun KK36 hK36 => ?_
         refine wReg ?_
         refine p_ticks_w rfl ?_
         refine wC (l := [.pointer (some ⟨v3_1, 0, none⟩), .int .i64 1]) Try.func36 rfl (by kernel_rfl) (fun wc H => sinceC v3_1 ((cancelBV ((placeV (newB c) x 1 0).1) 1 1).1) la21_2 lc21_2 da21_2 dc21_2 c c.keys (i : Int) ga22_6 gc22_6 ((([] : List ChgV) ++ [((placeV (newB c) x 1 0).2.1)]) ++ [((cancelBV ((placeV (newB c) x 1 0).1) 1 1).2.1)]) (((0 + 1) + 1) + 1) (0 + 1) 1 wc (H.out.blk 0 rfl) (hp_held (hp_read H 1 rfl) (by (repeat (first | exact List.Mem.head _ | apply List.Mem.tail)))) (by first | omega | (simp; done) | (simp; omega)) (by have h := rA_cap (H.out.at 1 rfl); rwa [List.length_map] at h)) rfl rfl rfl rfl ?_
         intro wc H
         rintro er wd ⟨a24_1, c24_1, rfl, hh, hf, ho⟩
         have H2 := hp_got H (Rs := []) ho hh (by decide) (From.new hf) (fun r hr => by cases hr)
         refine ⟨_, rfl, wkAt H2 ?_⟩
         clear H H2
         refine p_ticks_w rfl ?_
         refine wN ?_
         refine tN (wKK hK36 ?_)
         refine wSeqK fun KK37 hK37 => ?_
         intro aa ww nn dd hs H
         have eR : (((([] : List ChgV) ++ [((placeV (newB c) x 1 0).2.1)]) ++ [((cancelBV ((placeV (newB c) x 1 0).1) 1 1).2.1)]).drop (atN ((([] : List ChgV) ++ [((placeV (newB c) x 1 0).2.1)]) ++ [((cancelBV ((placeV (newB c) x 1 0).1) 1 1).2.1)]) 1)) = [((cancelBV ((placeV (newB c) x 1 0).1) 1 1).2.1)] := since_two hp1 hc2
         rw [eR] at H hs
         have HR := Lib.hid (show ([((cancelBV ((placeV (newB c) x 1 0).1) 1 1).2.1)].map chgRow)[0]? = some [.int .i64 (((cancelBV ((placeV (newB c) x 1 0).1) 1 1).2.1).index), .int .i64 ((((cancelBV ((placeV (newB c) x 1 0).1) 1 1).2.1).call).id), .int .i64 ((((cancelBV ((placeV (newB c) x 1 0).1) 1 1).2.1).call).kind), .int .i64 ((((cancelBV ((placeV (newB c) x 1 0).1) 1 1).2.1).call).src), .int .i64 ((((cancelBV ((placeV (newB c) x 1 0).1) 1 1).2.1).call).dst), .int .i64 ((((cancelBV ((placeV (newB c) x 1 0).1) 1 1).2.1).call).car), .int .i64 ((((cancelBV ((placeV (newB c) x 1 0).1) 1 1).2.1).call).state), .int .i64 ((((cancelBV ((placeV (newB c) x 1 0).1) 1 1).2.1).call).owner), .int .i64 ((((cancelBV ((placeV (newB c) x 1 0).1) 1 1).2.1).call).born), .int .i64 (((cancelBV ((placeV (newB c) x 1 0).1) 1 1).2.1).car), .int .i64 (((cancelBV ((placeV (newB c) x 1 0).1) 1 1).2.1).mode)] from rfl)
         obtain ⟨y, rfl⟩ := some_of_row (i := 0) (hp_held H (show rS a24_1 _ 11 ([((cancelBV ((placeV (newB c) x 1 0).1) 1 1).2.1)].map chgRow) ∈ _ by (repeat (first | exact List.Mem.head _ | apply List.Mem.tail)))) (by simp)
         have hl1 : ((([((cancelBV ((placeV (newB c) x 1 0).1) 1 1).2.1)] : List ChgV).length : Int) == 1) = true := rfl
         refine wIn nn dd hs H ?_
         intro aa ww nn dd hs H
         refine ticks_w_r25x1 m c x t f b4 b5 v3_1 la3_1 lc3_1 da3_1 dc3_1 b10 la7_3 lc7_3 da7_3 dc7_3 b11 b12 i b16 la21_2 lc21_2 da21_2 dc21_2 b17 b18 ga22_6 gc22_6 c24_1 y hm40 hm hap haq hcz hi z3d him hk1 hl1 HR H aa nn (hs 18 _ rfl) (hs 19 _ rfl) (hs 20 _ rfl) (hs 21 _ rfl) (hs 22 _ rfl) ?_
         intro ab wv nn2 dd2 kp o8 H2
         refine wIn nn2 (dd2.trans dd) (Sat.cons (Sat.cons (Sat.cons (Sat.cons (Sat.cons (Sat.cons (Sat.cons (Sat.cons (Sat.cons (Sat.cons (Sat.cons (Sat.cons (Sat.cons (Sat.cons (Sat.cons (Sat.cons (Sat.cons (Sat.cons (Sat.cons (Sat.cons (Sat.cons (Sat.cons (Sat.cons (Sat.cons (Sat.cons (Sat.cons (Sat.cons (sat_nil ab) ((kp 78 rfl).trans (hs 78 _ rfl))) ((kp 72 rfl).trans (hs 72 _ rfl))) ((kp 47 rfl).trans (hs 47 _ rfl))) ((kp 40 rfl).trans (hs 40 _ rfl))) ((kp 28 rfl).trans (hs 28 _ rfl))) ((kp 24 rfl).trans (hs 24 _ rfl))) ((kp 22 rfl).trans (hs 22 _ rfl))) ((kp 21 rfl).trans (hs 21 _ rfl))) ((kp 20 rfl).trans (hs 20 _ rfl))) ((kp 19 rfl).trans (hs 19 _ rfl))) ((kp 18 rfl).trans (hs 18 _ rfl))) ((kp 17 rfl).trans (hs 17 _ rfl))) ((kp 16 rfl).trans (hs 16 _ rfl))) ((kp 15 rfl).trans (hs 15 _ rfl))) ((kp 14 rfl).trans (hs 14 _ rfl))) ((kp 13 rfl).trans (hs 13 _ rfl))) ((kp 12 rfl).trans (hs 12 _ rfl))) ((kp 11 rfl).trans (hs 11 _ rfl))) ((kp 10 rfl).trans (hs 10 _ rfl))) ((kp 9 rfl).trans (hs 9 _ rfl))) ((kp 5 rfl).trans (hs 5 _ rfl))) ((kp 4 rfl).trans (hs 4 _ rfl))) ((kp 3 rfl).trans (hs 3 _ rfl))) ((kp 2 rfl).trans (hs 2 _ rfl))) ((kp 1 rfl).trans (hs 1 _ rfl))) ((kp 0 rfl).trans (hs 0 _ rfl))) o8) H2 ?_
         clear hs H kp H2 dd dd2 nn nn2 o8
         refine tN (wKK hK37 ?_)
         refine wRet ?_
         exact wR1 rfl rfl (fun ww H => ⟨rfl, H.out.off⟩)
end Go.Proofs.Ytnanihffljpdbaa.Bk
