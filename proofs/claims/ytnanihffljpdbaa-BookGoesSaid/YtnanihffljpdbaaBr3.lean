/- Layer 9: the reference: what changes a book. -/
import Derived.Test.YtnanihffljpdbaaProg
import Derived.Below
import Derived.WalkKit
import Derived.KernelRfl
import Derived.RowKit3
import Derived.Deep.LoopGhost
import Derived.Deep.QuietTactic
import Derived.BigQuiet
import Derived.WideLaws
import Derived.Deep.DeepCutAuto
import Derived.Deep.CutBlock
import Derived.Lib.Hide
import Derived.Laws.BitsLemmas
import Derived.Laws.Bits64
import Derived.Laws.BitsAllLaws
import Derived.IntWalk
import Derived.Outline
import Derived.WalkSpells
import Derived.Test.YtnanihffljpdbaaMem
import Derived.Test.YtnanihffljpdbaaBr2
namespace Go.Proofs.Ytnanihffljpdbaa.Bk
open Go.RowKit Go.Proofs.Ytnanihffljpdbaa.Mem Go.Proofs.Ytnanihffljpdbaa.Reg Go.Proofs.Ytnanihffljpdbaa.Wk Go.Proofs.Ytnanihffljpdbaa.Si Go.Proofs.Ytnanihffljpdbaa.Ca Go.Proofs.Ytnanihffljpdbaa.Sc6
set_option linter.unusedVariables false
set_option linter.unusedSimpArgs false

def tab_setRC : Wk.Tab := [(24, 1, 1), (61, 0, 0), (61, 1, 18), (61, 2, 19), (61, 5, 22)]
theorem p_setRC {ops : Array Oper} {rest : List Oper} {o : Oper} {w0 : World} {Q : Exit → Act → World → Prop} {S : List Nat} {R : List Res} {K K' : Wk.Env} {N : Nat} (h : Wk.stp tab_setRC N ops K o = some K') (n : Wk.Wk N S w0 K' R (wpList Try.prog ops Q rest)) : Wk.Wk N S w0 K R (wpList Try.prog ops Q (o :: rest)) := Wk.wP (T := tab_setRC) (by kernel_rfl) h n
set_option maxHeartbeats 4000000 in
set_option maxRecDepth 20000 in
theorem setRC_r9 (u : RBook) (la : Option Addr) (lc : Nat) (da : Option Addr) (dc : Nat) (car : Int) (mode : Int) (hul : u.live.length ≤ 1000) (hud : u.done.length ≤ 1000) (hui : 0 ≤ u.index ∧ u.index ≤ 1073741824) (huc : u.c.cars ≤ 4) (b3 : Nat) (b6 : Nat) (b7 : Nat) (z5lld : ¬ (car < 1)) (z5lrd : ¬ (u.c.cars < car)) (z6d : ¬ (1073741824 ≤ u.index)) (m : Nat) (hm : car - 1 = ((m : Nat) : Int)) (hm4 : m < 4) (hmw : IntKind.i64.wrap (car - 1) = ((m : Nat) : Int)) {wa wb : World} (H : Hid (Hp [] wa wb [rB b7 40 (chL zeroCh), rB b6 61 (rbL zeroF false 0 (.slice none 0 0) (.slice none 0 0) ([0, 0, 0, 0])), rB b3 61 (rbL u.c u.is (u.index + 1) (.slice la u.live.length lc) (.slice da u.done.length dc) (u.modes.set m mode)), rS da dc 8 (u.done.map callRow), rS la lc 8 (u.live.map callRow)])) (ac0 : Act) (hz : ac0.tmps.size = 53) (so1 : ac0.eval (.tmp 1) = .int .i64 car) (so2 : ac0.eval (.tmp 2) = .int .i64 mode) (so3 : ac0.eval (.tmp 3) = .pointer (some ⟨b3, 0, none⟩)) (so6 : ac0.eval (.tmp 6) = .pointer (some ⟨b6, 0, none⟩)) (so7 : ac0.eval (.tmp 7) = .pointer (some ⟨b7, 0, none⟩)) {QR : Exit → Act → World → Prop} (hfin : ∀ (ac1 : Act) (wz : World), ac1.tmps.size = 53 → ac1.defers = ac0.defers → (∀ t, ([8, 47, 48, 49, 50, 51, 52] : List Nat).contains t = false → ac1.eval (.tmp t) = ac0.eval (.tmp t)) → ac1.eval (.tmp 8) = .int .i64 0 →  Hid (Hp [] wa wz [rB b7 40 [.int .i64 (u.index + 1), .int .i64 0, .int .i64 0, .int .i64 0, .int .i64 0, .int .i64 0, .int .i64 0, .int .i64 0, .int .i64 0, .int .i64 car, .int .i64 mode], rB b6 61 (rbL u.c u.is (u.index + 1) (.slice la u.live.length lc) (.slice da u.done.length dc) (u.modes.set m mode)), rB b3 61 (rbL u.c u.is (u.index + 1) (.slice la u.live.length lc) (.slice da u.done.length dc) (u.modes.set m mode)), rS da dc 8 (u.done.map callRow), rS la lc 8 (u.live.map callRow)]) → QR .normal ac1 wz) : (regAt Try.f27 9).wp Try.prog QR ac0 wb := by
  refine wp_region_st mixedP ⟨[0, 0, 1, 0, 0, 2, 1, 3, 4], by kernel_rfl⟩ [[], [], [1], [], [], [1, 2, 3, 4], [0], [0, 1, 2, 3, 4, 5, 6], [0, 1, 2, 3, 4, 5, 6, 7]] (by kernel_rfl) (by kernel_rfl) 53 hz (by kernel_rfl) (fun (xx : Unit) jx => nth [.agg (rbA u.c u.is (u.index + 1) (.slice la u.live.length lc) (.slice da u.done.length dc) (u.modes.set m mode)), .pointer (some ⟨b3, 19, none⟩), .int .i64 (u.index + 1), .int .i64 car, .int .i64 mode, .agg #[.int .i64 (u.index + 1), .int .i64 0, .int .i64 0, .int .i64 0, .int .i64 0, .int .i64 0, .int .i64 0, .int .i64 0, .int .i64 0, .int .i64 car, .int .i64 mode], undef, undef, .int .i64 0] jx) (fun (LL : Nat → Bool) (xx : Unit) ww => Hp [] wa ww (bif LL 6 then (bif LL 7 then [rB b7 40 [.int .i64 (u.index + 1), .int .i64 0, .int .i64 0, .int .i64 0, .int .i64 0, .int .i64 0, .int .i64 0, .int .i64 0, .int .i64 0, .int .i64 car, .int .i64 mode], rB b6 61 (rbL u.c u.is (u.index + 1) (.slice la u.live.length lc) (.slice da u.done.length dc) (u.modes.set m mode)), rB b3 61 (rbL u.c u.is (u.index + 1) (.slice la u.live.length lc) (.slice da u.done.length dc) (u.modes.set m mode)), rS da dc 8 (u.done.map callRow), rS la lc 8 (u.live.map callRow)] else [rB b7 40 (chL zeroCh), rB b6 61 (rbL u.c u.is (u.index + 1) (.slice la u.live.length lc) (.slice da u.done.length dc) (u.modes.set m mode)), rB b3 61 (rbL u.c u.is (u.index + 1) (.slice la u.live.length lc) (.slice da u.done.length dc) (u.modes.set m mode)), rS da dc 8 (u.done.map callRow), rS la lc 8 (u.live.map callRow)]) else [rB b7 40 (chL zeroCh), rB b6 61 (rbL zeroF false 0 (.slice none 0 0) (.slice none 0 0) ([0, 0, 0, 0])), rB b3 61 (rbL u.c u.is (u.index + 1) (.slice la u.live.length lc) (.slice da u.done.length dc) (u.modes.set m mode)), rS da dc 8 (u.done.map callRow), rS la lc 8 (u.live.map callRow)])) () H.out.drew ?_ (steps_al ?_) ?_ ?_
  · intro L1 L2 xx ww hL sg
    have lh6 := hL 6 (by decide)
    have lh7 := hL 7 (by decide)
    simp only [lh6, lh7] at sg
    exact sg
  · refine al_cons ?_ (al_cons ?_ (al_cons ?_ (al_cons ?_ (al_cons ?_ (al_cons ?_ (al_cons ?_ (al_cons ?_ (al_cons ?_ (al_nil)))))))))
    · intro LL xx ac wc sg hst hwant QQ hgo
      have H := Lib.hid hst
      simp only [sg.des 6 rfl, sg.des 7 rfl, cond_true, cond_false] at H
      refine hpA_load tyhoistwayref09_Book H rfl ((sg.free 3 (by kernel_rfl)).trans so3) hwant (by (repeat (first | exact List.Mem.head _ | apply List.Mem.tail))) (by rfl) rfl ?_
      exact hgo _ () _ (fun _ _ => rfl) rfl hst
    · intro LL xx ac wc sg hst hwant QQ hgo
      have se3 : ac.eval (.tmp 3) = _ := ((sg.free 3 (by kernel_rfl)).trans so3)
      have sg3 := gt_of se3
      exact op_val hwant hgo hst _ (by simp only [execOp, nth]; go_simp <;> omega) rfl
    · intro LL xx ac wc sg hst hwant QQ hgo
      rcases Bool.eq_false_or_eq_true (LL 6) with lh6 | lh6
      · skip
        have H := Lib.hid hst
        simp only [lh6, sg.des 7 rfl, cond_true, cond_false] at H
        refine hpA_load1 tyint H rfl (sg.slot 1 (sg.anc 1 rfl)) hwant (by (repeat (first | exact List.Mem.head _ | apply List.Mem.tail))) (by rfl) ?_
        exact hgo _ () _ (fun _ _ => rfl) rfl hst
      · skip
        have H := Lib.hid hst
        simp only [lh6, sg.des 7 rfl, cond_true, cond_false] at H
        refine hpA_load1 tyint H rfl (sg.slot 1 (sg.anc 1 rfl)) hwant (by (repeat (first | exact List.Mem.head _ | apply List.Mem.tail))) (by rfl) ?_
        exact hgo _ () _ (fun _ _ => rfl) rfl hst
    · intro LL xx ac wc sg hst hwant QQ hgo
      exact op_val hwant hgo hst _ (exec_move rfl ((sg.free 1 (by kernel_rfl)).trans so1)) rfl
    · intro LL xx ac wc sg hst hwant QQ hgo
      exact op_val hwant hgo hst _ (exec_move rfl ((sg.free 2 (by kernel_rfl)).trans so2)) rfl
    · intro LL xx ac wc sg hst hwant QQ hgo
      have se49 : ac.eval (.tmp 49) = _ := (sg.slot 2 (sg.anc 2 rfl))
      have sg49 := gt_of se49
      have se50 : ac.eval (.tmp 50) = _ := (sg.slot 3 (sg.anc 3 rfl))
      have sg50 := gt_of se50
      have se51 : ac.eval (.tmp 51) = _ := (sg.slot 4 (sg.anc 4 rfl))
      have sg51 := gt_of se51
      (try simp only [nth] at se49 sg49 se50 sg50 se51 sg51)
      (try simp only [xA, xL, cA, cL, chA, chL, bkA, bkL, rbA, rbL] at se49 sg49 se50 sg50 se51 sg51)
      exact op_val hwant hgo hst _ (by simp only [execOp, nth, xA, xL, cA, cL, chA, chL, bkA, bkL, rbA, rbL]; go_simp <;> omega) rfl
    · intro LL xx ac wc sg hst hwant QQ hgo
      have H := Lib.hid hst
      simp only [sg.self, sg.des 7 rfl, cond_true, cond_false] at H
      refine hpA_store tyhoistwayref09_Book H rfl rfl ((sg.free 6 (by kernel_rfl)).trans so6) (sg.slot 0 (sg.anc 0 rfl)) rfl (by repeat (first | apply Put.head | apply Put.tail)) (by simp [xA, xL, cA, cL, chA, chL, bkA, bkL, rbA, rbL]) (by simp [xA, xL, cA, cL, chA, chL, bkA, bkL, rbA, rbL, Value.oneCell']) (by first | rfl | (simp only [spl]; rfl)) rfl ?_
      intro wd H2
      exact hgo _ () _ (fun _ _ => rfl) rfl (by simp only [(show upd LL 6 6 = true from rfl), (show upd LL 6 7 = LL 7 from rfl), sg.des 7 rfl, cond_true, cond_false]; exact H2.out)
    · intro LL xx ac wc sg hst hwant QQ hgo
      have H := Lib.hid hst
      simp only [sg.anc 6 rfl, sg.self, cond_true, cond_false] at H
      refine hpA_store tyapi_Change H rfl rfl ((sg.free 7 (by kernel_rfl)).trans so7) (sg.slot 5 (sg.anc 5 rfl)) rfl (by repeat (first | apply Put.head | apply Put.tail)) (by simp [xA, xL, cA, cL, chA, chL, bkA, bkL, rbA, rbL]) (by simp [xA, xL, cA, cL, chA, chL, bkA, bkL, rbA, rbL, Value.oneCell']) (by first | rfl | (simp only [spl]; rfl)) rfl ?_
      intro wd H2
      exact hgo _ () _ (fun _ _ => rfl) rfl (by simp only [(show upd LL 7 6 = LL 6 from rfl), sg.anc 6 rfl, (show upd LL 7 7 = true from rfl), cond_true, cond_false]; exact H2.out)
    · intro LL xx ac wc sg hst hwant QQ hgo
      exact op_val hwant hgo hst _ (exec_assign rfl rfl) rfl
  · exact skips [] (by kernel_rfl) (fun _ h => by cases h)
  · intro xx ac1 wz hfr hsl hst
    exact hfin ac1 wz (hfr.size.trans hz) hfr.defers (fr_keep hfr [8, 47, 48, 49, 50, 51, 52] (by kernel_rfl)) (hsl 8 (by decide)) (Lib.hid hst)
set_option maxHeartbeats 16000000 in
set_option maxRecDepth 20000 in
theorem setRC (u : RBook) (la : Option Addr) (lc : Nat) (da : Option Addr) (dc : Nat) (car : Int) (mode : Int) (w : World) (h1 : (rS la lc 8 (u.live.map callRow)).holds w) (h2 : (rS da dc 8 (u.done.map callRow)).holds w) (hu : Hid (OkR u)) : Calls Try.prog 27 #[.agg (rbA u.c u.is u.index (.slice la u.live.length lc) (.slice da u.done.length dc) u.modes), .int .i64 car, .int .i64 mode] w fun e w' => ∃ la' lc' da' dc', e = .returned (.tuple #[.agg #[.int .i64 ((((setR u car mode).1).c).floors), .int .i64 ((((setR u car mode).1).c).cars), .int .i64 ((((setR u car mode).1).c).seats), .int .i64 ((((setR u car mode).1).c).calls), .int .i64 ((((setR u car mode).1).c).lines), .int .i64 ((((setR u car mode).1).c).keys), .int .i64 ((((setR u car mode).1).c).window), .int .i64 ((((setR u car mode).1).c).burst), .int .i64 ((((setR u car mode).1).c).rate), .int .i64 ((((setR u car mode).1).c).idle), .int .i64 ((((setR u car mode).1).c).inn), .int .i64 ((((setR u car mode).1).c).out), .int .i64 ((((setR u car mode).1).c).feed), .int .i64 ((((setR u car mode).1).c).retries), .int .i64 ((((setR u car mode).1).c).life), .int .i64 ((((setR u car mode).1).c).door), .int .i64 ((((setR u car mode).1).c).holds), .int .u32 ((((setR u car mode).1).c).secret), .bool (((setR u car mode).1).is), .int .i64 (((setR u car mode).1).index), .slice la' (((setR u car mode).1).live.length) lc', .slice da' (((setR u car mode).1).done.length) dc', .int .i64 (((setR u car mode).1).modes.getD 0 0), .int .i64 (((setR u car mode).1).modes.getD 1 0), .int .i64 (((setR u car mode).1).modes.getD 2 0), .int .i64 (((setR u car mode).1).modes.getD 3 0)], .agg #[.int .i64 (((setR u car mode).2.1).index), .int .i64 ((((setR u car mode).2.1).call).id), .int .i64 ((((setR u car mode).2.1).call).kind), .int .i64 ((((setR u car mode).2.1).call).src), .int .i64 ((((setR u car mode).2.1).call).dst), .int .i64 ((((setR u car mode).2.1).call).car), .int .i64 ((((setR u car mode).2.1).call).state), .int .i64 ((((setR u car mode).2.1).call).owner), .int .i64 ((((setR u car mode).2.1).call).born), .int .i64 (((setR u car mode).2.1).car), .int .i64 (((setR u car mode).2.1).mode)], .int .i64 (setR u car mode).2.2]) ∧ GivesR w w' [rS la lc 8 (u.live.map callRow), rS da dc 8 (u.done.map callRow)] la' lc' da' dc' (setR u car mode).1 := by
 have H := Lib.hid (Hp.start [] w)
 have H := hp_old H h1 (by decide)
 have H := hp_old H h2 (by decide)
 clear h1 h2
 refine wStart (args := [.agg (rbA u.c u.is u.index (.slice la u.live.length lc) (.slice da u.done.length dc) u.modes), .int .i64 car, .int .i64 mode]) Try.func27 rfl rfl rfl H ?_
 clear H
 show Wk 53 _ _ [(0, .agg (rbA u.c u.is u.index (.slice la u.live.length lc) (.slice da u.done.length dc) u.modes)), (1, .int .i64 car), (2, .int .i64 mode)] _ _
 have hul : u.live.length ≤ 1000 := hu.out.live
 have hud : u.done.length ≤ 1000 := hu.out.done
 have hui : 0 ≤ u.index ∧ u.index ≤ 1073741824 := hu.out.index
 have huc : u.c.cars ≤ 4 := hu.out.cars
 refine wSeqK fun KK1 hK1 => ?_
 refine wReg ?_
 refine wBx rfl rfl rfl fun b3 => ?_
 refine wAl rfl rfl tyhoistwayref09_Book fun b6 => ?_
 refine wAl rfl rfl tyapi_Change fun b7 => ?_
 refine p_setRC rfl ?_
 refine wN ?_
 refine tN (wKK hK1 ?_)
 refine wSeqK fun KK2 hK2 => ?_
 refine wSeqK fun KK3 hK3 => ?_
 refine wReg ?_
 refine p_setRC rfl ?_
 refine wLd rfl tybool 2 rfl rfl ?_
 refine p_setRC rfl ?_
 refine wN ?_
 refine tN (wKK hK3 ?_)
 refine wCond (E := !u.is) rfl (fun z1 => ?_) (fun z1 => ?_)
 · skip
   have z1n : u.is = false := Reg.bn z1
   refine wSeqK fun KK4 hK4 => ?_
   refine wReg ?_
   refine wE (.agg (rbA zeroF false 0 (.slice none 0 0) (.slice none 0 0) ([0, 0, 0, 0]))) rfl rfl rfl (fun aa ww hs _ => by simp only [execOp]; go_simp <;> first | rfl | omega) ?_
   refine wE (.agg (chA zeroCh)) rfl rfl rfl (fun aa ww hs _ => by simp only [execOp]; go_simp <;> first | rfl | omega) ?_
   refine wSr rfl tyhoistwayref09_Book 1 rfl rfl rfl rfl (rbL zeroF false 0 (.slice none 0 0) (.slice none 0 0) ([0, 0, 0, 0])) (by first | rfl | (simp only [spl]; rfl)) ?_
   refine wSr rfl tyapi_Change 0 rfl rfl rfl rfl (chL zeroCh) (by first | rfl | (simp only [spl]; rfl)) ?_
   refine p_setRC rfl ?_
   refine wN ?_
   refine tN (wKK hK4 ?_)
   refine wRet ?_
   refine tR ?_
   exact wRcct tyhoistwayref09_Book tyapi_Change rfl rfl rfl rfl 1 0 rfl rfl rfl rfl (fun ww H => (by simp only [setR, z1, z1n, cond_true, cond_false, Bool.not_true, Bool.not_false, Bool.true_and, Bool.and_true, Bool.false_and, Bool.and_false, Bool.true_or, Bool.or_true, Bool.false_or, Bool.or_false]; exact ⟨none, 0, none, 0, rfl, (rS_nil _ _), (rS_nil _ _), (From.none _ _ _ _ _), (From.none _ _ _ _ _), H.out.off⟩))
 · skip
   have z1n : u.is = true := Reg.bt z1
   refine wSk ?_
   refine tN (wKK hK2 ?_)
   refine wSeqK fun KK5 hK5 => ?_
   refine wSeqK fun KK6 hK6 => ?_
   refine wReg ?_
   iterate 3 refine p_setRC rfl ?_
   refine wCut 6 [(22, .bool ((decide (car < 1)) || (decide (u.c.cars < car)))), (0, .agg (rbA u.c u.is u.index (.slice la u.live.length lc) (.slice da u.done.length dc) u.modes)), (1, .int .i64 car), (2, .int .i64 mode), (3, .pointer (some ⟨b3, 0, none⟩)), (6, .pointer (some ⟨b6, 0, none⟩)), (7, .pointer (some ⟨b7, 0, none⟩)), (8, .int .i64 0), (11, .bool (!u.is))] ?_ ?_
   · intro KK hKK
     rcases Bool.eq_false_or_eq_true (decide (car < 1)) with u2 | u2
     · skip
       refine wB (c := true) 16 rfl u2 ?_
       iterate 5 refine p_setRC rfl ?_
       refine p_setRC rfl ?_
       refine wB (c := (decide (car < 1)) || (decide (u.c.cars < car))) 22 rfl (by rw [u2]; rfl) ?_
       refine wN (tN ?_)
       exact fun aa ww nn dd hs H => hKK aa ww nn dd (sat_sub ⟨rfl, rfl, rfl, rfl, rfl, rfl, rfl, rfl, rfl, trivial⟩ hs) H
     · skip
       refine wB (c := false) 16 rfl u2 ?_
       iterate 3 refine p_setRC rfl ?_
       refine wLd rfl tyint 2 rfl rfl ?_
       refine p_setRC rfl ?_
       refine p_setRC rfl ?_
       refine wB (c := (decide (car < 1)) || (decide (u.c.cars < car))) 22 rfl (by rw [u2]; rfl) ?_
       refine wN (tN ?_)
       exact fun aa ww nn dd hs H => hKK aa ww nn dd (sat_sub ⟨rfl, rfl, rfl, rfl, rfl, rfl, rfl, rfl, rfl, trivial⟩ hs) H
   refine p_setRC rfl ?_
   refine wCut 7 [(30, .bool (((decide (car < 1)) || (decide (u.c.cars < car))) || ((mode != 1) && (mode != 2)))), (0, .agg (rbA u.c u.is u.index (.slice la u.live.length lc) (.slice da u.done.length dc) u.modes)), (1, .int .i64 car), (2, .int .i64 mode), (3, .pointer (some ⟨b3, 0, none⟩)), (6, .pointer (some ⟨b6, 0, none⟩)), (7, .pointer (some ⟨b7, 0, none⟩)), (8, .int .i64 0), (11, .bool (!u.is))] ?_ ?_
   · intro KK hKK
     rcases Bool.eq_false_or_eq_true ((decide (car < 1)) || (decide (u.c.cars < car))) with u3 | u3
     · skip
       refine wB (c := true) 23 rfl u3 ?_
       iterate 6 refine p_setRC rfl ?_
       refine p_setRC rfl ?_
       refine wB (c := ((decide (car < 1)) || (decide (u.c.cars < car))) || ((mode != 1) && (mode != 2))) 30 rfl (by rw [u3]; rfl) ?_
       refine wN (tN ?_)
       exact fun aa ww nn dd hs H => hKK aa ww nn dd (sat_sub ⟨rfl, rfl, rfl, rfl, rfl, rfl, rfl, rfl, rfl, trivial⟩ hs) H
     · skip
       refine wB (c := false) 23 rfl u3 ?_
       iterate 3 refine p_setRC rfl ?_
       refine wCut 3 [(29, .bool ((mode != 1) && (mode != 2))), (0, .agg (rbA u.c u.is u.index (.slice la u.live.length lc) (.slice da u.done.length dc) u.modes)), (1, .int .i64 car), (2, .int .i64 mode), (3, .pointer (some ⟨b3, 0, none⟩)), (6, .pointer (some ⟨b6, 0, none⟩)), (7, .pointer (some ⟨b7, 0, none⟩)), (8, .int .i64 0), (11, .bool (!u.is)), (23, .bool false)] ?_ ?_
       · intro KK hKK
         rcases Bool.eq_false_or_eq_true (mode != 1) with u4 | u4
         · skip
           refine wB (c := true) 26 rfl u4 ?_
           iterate 2 refine p_setRC rfl ?_
           refine p_setRC rfl ?_
           refine wB (c := (mode != 1) && (mode != 2)) 29 rfl (by rw [u4]; rfl) ?_
           refine wN (tN ?_)
           exact fun aa ww nn dd hs H => hKK aa ww nn dd (sat_sub ⟨rfl, rfl, rfl, rfl, rfl, rfl, rfl, rfl, rfl, rfl, trivial⟩ hs) H
         · skip
           refine wB (c := false) 26 rfl u4 ?_
           iterate 2 refine p_setRC rfl ?_
           refine p_setRC rfl ?_
           refine wB (c := (mode != 1) && (mode != 2)) 29 rfl (by rw [u4]; rfl) ?_
           refine wN (tN ?_)
           exact fun aa ww nn dd hs H => hKK aa ww nn dd (sat_sub ⟨rfl, rfl, rfl, rfl, rfl, rfl, rfl, rfl, rfl, rfl, trivial⟩ hs) H
       refine p_setRC rfl ?_
       refine wB (c := ((decide (car < 1)) || (decide (u.c.cars < car))) || ((mode != 1) && (mode != 2))) 30 rfl (by rw [u3]; rfl) ?_
       refine wN (tN ?_)
       exact fun aa ww nn dd hs H => hKK aa ww nn dd (sat_sub ⟨rfl, rfl, rfl, rfl, rfl, rfl, rfl, rfl, rfl, trivial⟩ hs) H
   refine wN ?_
   refine tN (wKK hK6 ?_)
   refine wCond (E := ((decide (car < 1)) || (decide (u.c.cars < car))) || ((mode != 1) && (mode != 2))) rfl (fun z5 => ?_) (fun z5 => ?_)
   · skip
     refine wSeqK fun KK7 hK7 => ?_
     refine wReg ?_
     refine wE (.agg (rbA zeroF false 0 (.slice none 0 0) (.slice none 0 0) ([0, 0, 0, 0]))) rfl rfl rfl (fun aa ww hs _ => by simp only [execOp]; go_simp <;> first | rfl | omega) ?_
     refine wE (.agg (chA zeroCh)) rfl rfl rfl (fun aa ww hs _ => by simp only [execOp]; go_simp <;> first | rfl | omega) ?_
     refine wSr rfl tyhoistwayref09_Book 1 rfl rfl rfl rfl (rbL zeroF false 0 (.slice none 0 0) (.slice none 0 0) ([0, 0, 0, 0])) (by first | rfl | (simp only [spl]; rfl)) ?_
     refine wSr rfl tyapi_Change 0 rfl rfl rfl rfl (chL zeroCh) (by first | rfl | (simp only [spl]; rfl)) ?_
     refine p_setRC rfl ?_
     refine wN ?_
     refine tN (wKK hK7 ?_)
     refine wRet ?_
     refine tR ?_
     exact wRcct tyhoistwayref09_Book tyapi_Change rfl rfl rfl rfl 1 0 rfl rfl rfl rfl (fun ww H => (by simp only [setR, z1, z1n, z5, cond_true, cond_false, Bool.not_true, Bool.not_false, Bool.true_and, Bool.and_true, Bool.false_and, Bool.and_false, Bool.true_or, Bool.or_true, Bool.false_or, Bool.or_false]; exact ⟨none, 0, none, 0, rfl, (rS_nil _ _), (rS_nil _ _), (From.none _ _ _ _ _), (From.none _ _ _ _ _), H.out.off⟩))
   · skip
     have z5l : ((decide (car < 1)) || (decide (u.c.cars < car))) = false := Reg.ol z5
     have z5ll : (decide (car < 1)) = false := Reg.ol z5l
     have z5lld : ¬ (car < 1) := of_decide_eq_false z5ll
     have z5lr : (decide (u.c.cars < car)) = false := Reg.orr z5l
     have z5lrd : ¬ (u.c.cars < car) := of_decide_eq_false z5lr
     have z5r : ((mode != 1) && (mode != 2)) = false := Reg.orr z5
     refine wSk ?_
     refine tN (wKK hK5 ?_)
     refine wSeqK fun KK8 hK8 => ?_
     refine wSeqK fun KK9 hK9 => ?_
     refine wReg ?_
     refine p_setRC rfl ?_
     refine wLd rfl tyint 2 rfl rfl ?_
     refine p_setRC rfl ?_
     refine wN ?_
     refine tN (wKK hK9 ?_)
     refine wCond (E := decide (1073741824 ≤ u.index)) rfl (fun z6 => ?_) (fun z6 => ?_)
     · skip
       have z6d : 1073741824 ≤ u.index := of_decide_eq_true z6
       refine wSeqK fun KK10 hK10 => ?_
       refine wReg ?_
       refine wE (.agg (rbA zeroF false 0 (.slice none 0 0) (.slice none 0 0) ([0, 0, 0, 0]))) rfl rfl rfl (fun aa ww hs _ => by simp only [execOp]; go_simp <;> first | rfl | omega) ?_
       refine wE (.agg (chA zeroCh)) rfl rfl rfl (fun aa ww hs _ => by simp only [execOp]; go_simp <;> first | rfl | omega) ?_
       refine wSr rfl tyhoistwayref09_Book 1 rfl rfl rfl rfl (rbL zeroF false 0 (.slice none 0 0) (.slice none 0 0) ([0, 0, 0, 0])) (by first | rfl | (simp only [spl]; rfl)) ?_
       refine wSr rfl tyapi_Change 0 rfl rfl rfl rfl (chL zeroCh) (by first | rfl | (simp only [spl]; rfl)) ?_
       refine p_setRC rfl ?_
       refine wN ?_
       refine tN (wKK hK10 ?_)
       refine wRet ?_
       refine tR ?_
       exact wRcct tyhoistwayref09_Book tyapi_Change rfl rfl rfl rfl 1 0 rfl rfl rfl rfl (fun ww H => (by simp only [setR, z1, z1n, z5, z5l, z5ll, z5lr, z5r, z6, cond_true, cond_false, Bool.not_true, Bool.not_false, Bool.true_and, Bool.and_true, Bool.false_and, Bool.and_false, Bool.true_or, Bool.or_true, Bool.false_or, Bool.or_false]; exact ⟨none, 0, none, 0, rfl, (rS_nil _ _), (rS_nil _ _), (From.none _ _ _ _ _), (From.none _ _ _ _ _), H.out.off⟩))
     · skip
       have z6d : ¬ (1073741824 ≤ u.index) := of_decide_eq_false z6
       refine wSk ?_
       refine tN (wKK hK8 ?_)
       refine wSeqK fun KK11 hK11 => ?_
       intro aa ww nn dd hs H
       obtain ⟨m, hm, hm4⟩ : ∃ m : Nat, car - 1 = (m : Int) ∧ m < 4 := ⟨(car - 1).toNat, by have h1 := of_decide_eq_false z5ll; have h2 := of_decide_eq_false z5lr; omega, by have h1 := of_decide_eq_false z5ll; have h2 := of_decide_eq_false z5lr; omega⟩
       have hmw : IntKind.i64.wrap (car - 1) = ((m : Nat) : Int) := by rw [hm]; exact IntWalk.i64_in _ (by omega)
       refine wIn nn dd hs H ?_
       refine wReg ?_
       iterate 2 refine p_setRC rfl ?_
       refine wI 39 rfl hmw ?_
       iterate 2 refine p_setRC rfl ?_
       refine wE (.pointer (some ⟨b3, 22 + m, none⟩)) rfl rfl rfl (fun aa ww hs _ => by have e41 := hs 41 _ rfl; have g41 := gt_of e41; have e39 := hs 39 _ rfl; have g39 := gt_of e39; simp only [execOp]; go_simp <;> first | rfl | omega) ?_
       refine wSa rfl tyint 2 rfl (by show _ < 26; omega) rfl rfl (cs' := (rbL u.c u.is u.index (.slice la u.live.length lc) (.slice da u.done.length dc) (u.modes.set m mode))) (set4 u.modes hu.out.modes hm4 [.int .i64 u.c.floors, .int .i64 u.c.cars, .int .i64 u.c.seats, .int .i64 u.c.calls, .int .i64 u.c.lines, .int .i64 u.c.keys, .int .i64 u.c.window, .int .i64 u.c.burst, .int .i64 u.c.rate, .int .i64 u.c.idle, .int .i64 u.c.inn, .int .i64 u.c.out, .int .i64 u.c.feed, .int .i64 u.c.retries, .int .i64 u.c.life, .int .i64 u.c.door, .int .i64 u.c.holds, .int .u32 u.c.secret, .bool u.is, .int .i64 u.index, .slice la u.live.length lc, .slice da u.done.length dc] rfl mode) ?_
       refine wN ?_
       refine tN (wKK hK11 ?_)
       refine wSeqK fun KK12 hK12 => ?_
       refine wReg ?_
       refine p_setRC rfl ?_
       refine wLd rfl tyint 2 rfl rfl ?_
       refine p_setRC rfl ?_
       refine wI 45 rfl (IntWalk.i64_in _ (by omega)) ?_
       refine p_setRC rfl ?_
       refine wSt rfl tyint 2 rfl rfl rfl rfl ?_
       refine wN ?_
       refine tN (wKK hK12 ?_)
       refine wSeqK fun KK13 hK13 => ?_
       intro aa ww nn dd hs H
       refine setRC_r9 u la lc da dc car mode hul hud hui huc b3 b6 b7 z5lld z5lrd z6d m hm hm4 hmw H aa nn (hs 1 _ rfl) (hs 2 _ rfl) (hs 3 _ rfl) (hs 6 _ rfl) (hs 7 _ rfl) ?_
       intro ab wv nn2 dd2 kp o8 H2
       refine wIn nn2 (dd2.trans dd) (Sat.cons (Sat.cons (Sat.cons (Sat.cons (Sat.cons (Sat.cons (Sat.cons (Sat.cons (Sat.cons (Sat.cons (sat_nil ab) ((kp 35 rfl).trans (hs 35 _ rfl))) ((kp 30 rfl).trans (hs 30 _ rfl))) ((kp 11 rfl).trans (hs 11 _ rfl))) ((kp 7 rfl).trans (hs 7 _ rfl))) ((kp 6 rfl).trans (hs 6 _ rfl))) ((kp 3 rfl).trans (hs 3 _ rfl))) ((kp 2 rfl).trans (hs 2 _ rfl))) ((kp 1 rfl).trans (hs 1 _ rfl))) ((kp 0 rfl).trans (hs 0 _ rfl))) o8) H2 ?_
       clear hs H kp H2 dd dd2 nn nn2 o8
       refine tN (wKK hK13 ?_)
       refine wRet ?_
       exact wRcct tyhoistwayref09_Book tyapi_Change rfl rfl rfl rfl 1 0 rfl rfl rfl rfl (fun ww H => (by simp only [setR, z1, z1n, z5, z5l, z5ll, z5lr, z5r, z6, cond_true, cond_false, Bool.not_true, Bool.not_false, Bool.true_and, Bool.and_true, Bool.false_and, Bool.and_false, Bool.true_or, Bool.or_true, Bool.false_or, Bool.or_false, show (car - 1).toNat = m from by omega]; exact ⟨la, lc, da, dc, rfl, (hp_held H (by (repeat (first | exact List.Mem.head _ | apply List.Mem.tail)))), (hp_held H (by (repeat (first | exact List.Mem.head _ | apply List.Mem.tail)))), (From.same rfl _ (by (repeat (first | exact List.Mem.head _ | apply List.Mem.tail)))), (From.same rfl _ (by (repeat (first | exact List.Mem.head _ | apply List.Mem.tail)))), H.out.off⟩))
def tab_placeRC : Wk.Tab := [(38, 0, 0), (38, 5, 5), (38, 6, 6), (38, 7, 7), (61, 0, 0), (61, 2, 19)]
theorem p_placeRC {ops : Array Oper} {rest : List Oper} {o : Oper} {w0 : World} {Q : Exit → Act → World → Prop} {S : List Nat} {R : List Res} {K K' : Wk.Env} {N : Nat} (h : Wk.stp tab_placeRC N ops K o = some K') (n : Wk.Wk N S w0 K' R (wpList Try.prog ops Q rest)) : Wk.Wk N S w0 K R (wpList Try.prog ops Q (o :: rest)) := Wk.wP (T := tab_placeRC) (by kernel_rfl) h n
set_option maxHeartbeats 16000000 in
set_option maxRecDepth 20000 in
theorem placeRC (u : RBook) (la : Option Addr) (lc : Nat) (da : Option Addr) (dc : Nat) (x : CallV) (owner : Int) (now : Int) (w : World) (h1 : (rS la lc 8 (u.live.map callRow)).holds w) (h2 : (rS da dc 8 (u.done.map callRow)).holds w) (hu : Hid (OkR u)) : Calls Try.prog 25 #[.agg (rbA u.c u.is u.index (.slice la u.live.length lc) (.slice da u.done.length dc) u.modes), .agg (xA x), .int .i64 owner, .int .i64 now] w fun e w' => ∃ la' lc' da' dc', e = .returned (.tuple #[.agg #[.int .i64 ((((placeR u x owner now).1).c).floors), .int .i64 ((((placeR u x owner now).1).c).cars), .int .i64 ((((placeR u x owner now).1).c).seats), .int .i64 ((((placeR u x owner now).1).c).calls), .int .i64 ((((placeR u x owner now).1).c).lines), .int .i64 ((((placeR u x owner now).1).c).keys), .int .i64 ((((placeR u x owner now).1).c).window), .int .i64 ((((placeR u x owner now).1).c).burst), .int .i64 ((((placeR u x owner now).1).c).rate), .int .i64 ((((placeR u x owner now).1).c).idle), .int .i64 ((((placeR u x owner now).1).c).inn), .int .i64 ((((placeR u x owner now).1).c).out), .int .i64 ((((placeR u x owner now).1).c).feed), .int .i64 ((((placeR u x owner now).1).c).retries), .int .i64 ((((placeR u x owner now).1).c).life), .int .i64 ((((placeR u x owner now).1).c).door), .int .i64 ((((placeR u x owner now).1).c).holds), .int .u32 ((((placeR u x owner now).1).c).secret), .bool (((placeR u x owner now).1).is), .int .i64 (((placeR u x owner now).1).index), .slice la' (((placeR u x owner now).1).live.length) lc', .slice da' (((placeR u x owner now).1).done.length) dc', .int .i64 (((placeR u x owner now).1).modes.getD 0 0), .int .i64 (((placeR u x owner now).1).modes.getD 1 0), .int .i64 (((placeR u x owner now).1).modes.getD 2 0), .int .i64 (((placeR u x owner now).1).modes.getD 3 0)], .agg #[.int .i64 (((placeR u x owner now).2.1).index), .int .i64 ((((placeR u x owner now).2.1).call).id), .int .i64 ((((placeR u x owner now).2.1).call).kind), .int .i64 ((((placeR u x owner now).2.1).call).src), .int .i64 ((((placeR u x owner now).2.1).call).dst), .int .i64 ((((placeR u x owner now).2.1).call).car), .int .i64 ((((placeR u x owner now).2.1).call).state), .int .i64 ((((placeR u x owner now).2.1).call).owner), .int .i64 ((((placeR u x owner now).2.1).call).born), .int .i64 (((placeR u x owner now).2.1).car), .int .i64 (((placeR u x owner now).2.1).mode)], .int .i64 (placeR u x owner now).2.2]) ∧ GivesR w w' [rS la lc 8 (u.live.map callRow), rS da dc 8 (u.done.map callRow)] la' lc' da' dc' (placeR u x owner now).1 := by
 have H := Lib.hid (Hp.start [] w)
 have H := hp_old H h1 (by decide)
 have H := hp_old H h2 (by decide)
 clear h1 h2
 refine wStart (args := [.agg (rbA u.c u.is u.index (.slice la u.live.length lc) (.slice da u.done.length dc) u.modes), .agg (xA x), .int .i64 owner, .int .i64 now]) Try.func25 rfl rfl rfl H ?_
 clear H
 show Wk 52 _ _ [(0, .agg (rbA u.c u.is u.index (.slice la u.live.length lc) (.slice da u.done.length dc) u.modes)), (1, .agg (xA x)), (2, .int .i64 owner), (3, .int .i64 now)] _ _
 have hul : u.live.length ≤ 1000 := hu.out.live
 have hud : u.done.length ≤ 1000 := hu.out.done
 have hui : 0 ≤ u.index ∧ u.index ≤ 1073741824 := hu.out.index
 have huc : u.c.cars ≤ 4 := hu.out.cars
 refine wSeqK fun KK1 hK1 => ?_
 refine wReg ?_
 refine wBx rfl rfl rfl fun b4 => ?_
 refine wBx rfl rfl rfl fun b5 => ?_
 refine wAl rfl rfl tyhoistwayref09_Book fun b8 => ?_
 refine wAl rfl rfl tyapi_Change fun b9 => ?_
 refine p_placeRC rfl ?_
 refine wN ?_
 refine tN (wKK hK1 ?_)
 refine wSeqK fun KK2 hK2 => ?_
 refine wSeqK fun KK3 hK3 => ?_
 refine wReg ?_
 refine p_placeRC rfl ?_
 refine wLr rfl tyapi_Config 3 rfl (cL u.c) rfl rfl ?_
 refine wLr rfl tyapi_Call 2 rfl (xL x) rfl rfl ?_
 refine wQ (l := [.agg (cA u.c), .agg (xA x)]) Try.func57 rfl (by kernel_rfl) (.int .i64 (checkCallV u.c x)) (fun wc H => checkR u.c x wc) rfl rfl rfl rfl ?_
 refine p_placeRC rfl ?_
 refine wN ?_
 refine tN (wKK hK3 ?_)
 refine wSeqK fun KK4 hK4 => ?_
 refine wReg ?_
 iterate 2 refine p_placeRC rfl ?_
 refine wN ?_
 refine tN (wKK hK4 ?_)
 refine wCond (E := (checkCallV u.c x) != 0) rfl (fun z1 => ?_) (fun z1 => ?_)
 · skip
   have z1o : ((checkCallV u.c x) == 0) = false := neq_t z1
   refine wSeqK fun KK5 hK5 => ?_
   refine wReg ?_
   refine wE (.agg (rbA zeroF false 0 (.slice none 0 0) (.slice none 0 0) ([0, 0, 0, 0]))) rfl rfl rfl (fun aa ww hs _ => by simp only [execOp]; go_simp <;> first | rfl | omega) ?_
   refine wE (.agg (chA zeroCh)) rfl rfl rfl (fun aa ww hs _ => by simp only [execOp]; go_simp <;> first | rfl | omega) ?_
   refine p_placeRC rfl ?_
   refine wSr rfl tyhoistwayref09_Book 1 rfl rfl rfl rfl (rbL zeroF false 0 (.slice none 0 0) (.slice none 0 0) ([0, 0, 0, 0])) (by first | rfl | (simp only [spl]; rfl)) ?_
   refine wSr rfl tyapi_Change 0 rfl rfl rfl rfl (chL zeroCh) (by first | rfl | (simp only [spl]; rfl)) ?_
   refine p_placeRC rfl ?_
   refine wN ?_
   refine tN (wKK hK5 ?_)
   refine wRet ?_
   refine tR ?_
   exact wRcct tyhoistwayref09_Book tyapi_Change rfl rfl rfl rfl 1 0 rfl rfl rfl rfl (fun ww H => (by simp only [placeR, z1, z1o, cond_true, cond_false, Bool.not_true, Bool.not_false, Bool.true_and, Bool.and_true, Bool.false_and, Bool.and_false, Bool.true_or, Bool.or_true, Bool.false_or, Bool.or_false]; exact ⟨none, 0, none, 0, rfl, (rS_nil _ _), (rS_nil _ _), (From.none _ _ _ _ _), (From.none _ _ _ _ _), H.out.off⟩))
 · skip
   have z1o : ((checkCallV u.c x) == 0) = true := neq_f z1
   refine wSk ?_
   refine tN (wKK hK2 ?_)
   refine wSeqK fun KK6 hK6 => ?_
   refine wSeqK fun KK7 hK7 => ?_
   refine wReg ?_
   iterate 3 refine p_placeRC rfl ?_
   refine wCut 3 [(26, .bool ((decide (owner < 1)) || (decide (1073741824 < owner)))), (0, .agg (rbA u.c u.is u.index (.slice la u.live.length lc) (.slice da u.done.length dc) u.modes)), (1, .agg (xA x)), (2, .int .i64 owner), (3, .int .i64 now), (4, .pointer (some ⟨b4, 0, none⟩)), (5, .pointer (some ⟨b5, 0, none⟩)), (8, .pointer (some ⟨b8, 0, none⟩)), (9, .pointer (some ⟨b9, 0, none⟩)), (10, .int .i64 0), (11, .int .i64 (checkCallV u.c x)), (17, .bool ((checkCallV u.c x) != 0))] ?_ ?_
   · intro KK hKK
     rcases Bool.eq_false_or_eq_true (decide (owner < 1)) with u2 | u2
     · skip
       refine wB (c := true) 23 rfl u2 ?_
       iterate 2 refine p_placeRC rfl ?_
       refine p_placeRC rfl ?_
       refine wB (c := (decide (owner < 1)) || (decide (1073741824 < owner))) 26 rfl (by rw [u2]; rfl) ?_
       refine wN (tN ?_)
       exact fun aa ww nn dd hs H => hKK aa ww nn dd (sat_sub ⟨rfl, rfl, rfl, rfl, rfl, rfl, rfl, rfl, rfl, rfl, rfl, rfl, trivial⟩ hs) H
     · skip
       refine wB (c := false) 23 rfl u2 ?_
       iterate 2 refine p_placeRC rfl ?_
       refine p_placeRC rfl ?_
       refine wB (c := (decide (owner < 1)) || (decide (1073741824 < owner))) 26 rfl (by rw [u2]; rfl) ?_
       refine wN (tN ?_)
       exact fun aa ww nn dd hs H => hKK aa ww nn dd (sat_sub ⟨rfl, rfl, rfl, rfl, rfl, rfl, rfl, rfl, rfl, rfl, rfl, rfl, trivial⟩ hs) H
   refine p_placeRC rfl ?_
   refine wCut 3 [(30, .bool (((decide (owner < 1)) || (decide (1073741824 < owner))) || (decide (now < 0)))), (0, .agg (rbA u.c u.is u.index (.slice la u.live.length lc) (.slice da u.done.length dc) u.modes)), (1, .agg (xA x)), (2, .int .i64 owner), (3, .int .i64 now), (4, .pointer (some ⟨b4, 0, none⟩)), (5, .pointer (some ⟨b5, 0, none⟩)), (8, .pointer (some ⟨b8, 0, none⟩)), (9, .pointer (some ⟨b9, 0, none⟩)), (10, .int .i64 0), (11, .int .i64 (checkCallV u.c x)), (17, .bool ((checkCallV u.c x) != 0))] ?_ ?_
   · intro KK hKK
     rcases Bool.eq_false_or_eq_true ((decide (owner < 1)) || (decide (1073741824 < owner))) with u3 | u3
     · skip
       refine wB (c := true) 27 rfl u3 ?_
       iterate 2 refine p_placeRC rfl ?_
       refine p_placeRC rfl ?_
       refine wB (c := ((decide (owner < 1)) || (decide (1073741824 < owner))) || (decide (now < 0))) 30 rfl (by rw [u3]; rfl) ?_
       refine wN (tN ?_)
       exact fun aa ww nn dd hs H => hKK aa ww nn dd (sat_sub ⟨rfl, rfl, rfl, rfl, rfl, rfl, rfl, rfl, rfl, rfl, rfl, rfl, trivial⟩ hs) H
     · skip
       refine wB (c := false) 27 rfl u3 ?_
       iterate 2 refine p_placeRC rfl ?_
       refine p_placeRC rfl ?_
       refine wB (c := ((decide (owner < 1)) || (decide (1073741824 < owner))) || (decide (now < 0))) 30 rfl (by rw [u3]; rfl) ?_
       refine wN (tN ?_)
       exact fun aa ww nn dd hs H => hKK aa ww nn dd (sat_sub ⟨rfl, rfl, rfl, rfl, rfl, rfl, rfl, rfl, rfl, rfl, rfl, rfl, trivial⟩ hs) H
   refine p_placeRC rfl ?_
   refine wCut 3 [(34, .bool ((((decide (owner < 1)) || (decide (1073741824 < owner))) || (decide (now < 0))) || (decide (1073741824 < now)))), (0, .agg (rbA u.c u.is u.index (.slice la u.live.length lc) (.slice da u.done.length dc) u.modes)), (1, .agg (xA x)), (2, .int .i64 owner), (3, .int .i64 now), (4, .pointer (some ⟨b4, 0, none⟩)), (5, .pointer (some ⟨b5, 0, none⟩)), (8, .pointer (some ⟨b8, 0, none⟩)), (9, .pointer (some ⟨b9, 0, none⟩)), (10, .int .i64 0), (11, .int .i64 (checkCallV u.c x)), (17, .bool ((checkCallV u.c x) != 0))] ?_ ?_
   · intro KK hKK
     rcases Bool.eq_false_or_eq_true (((decide (owner < 1)) || (decide (1073741824 < owner))) || (decide (now < 0))) with u4 | u4
     · skip
       refine wB (c := true) 31 rfl u4 ?_
       iterate 2 refine p_placeRC rfl ?_
       refine p_placeRC rfl ?_
       refine wB (c := (((decide (owner < 1)) || (decide (1073741824 < owner))) || (decide (now < 0))) || (decide (1073741824 < now))) 34 rfl (by rw [u4]; rfl) ?_
       refine wN (tN ?_)
       exact fun aa ww nn dd hs H => hKK aa ww nn dd (sat_sub ⟨rfl, rfl, rfl, rfl, rfl, rfl, rfl, rfl, rfl, rfl, rfl, rfl, trivial⟩ hs) H
     · skip
       refine wB (c := false) 31 rfl u4 ?_
       iterate 2 refine p_placeRC rfl ?_
       refine p_placeRC rfl ?_
       refine wB (c := (((decide (owner < 1)) || (decide (1073741824 < owner))) || (decide (now < 0))) || (decide (1073741824 < now))) 34 rfl (by rw [u4]; rfl) ?_
       refine wN (tN ?_)
       exact fun aa ww nn dd hs H => hKK aa ww nn dd (sat_sub ⟨rfl, rfl, rfl, rfl, rfl, rfl, rfl, rfl, rfl, rfl, rfl, rfl, trivial⟩ hs) H
   refine wN ?_
   refine tN (wKK hK7 ?_)
   refine wCond (E := (((decide (owner < 1)) || (decide (1073741824 < owner))) || (decide (now < 0))) || (decide (1073741824 < now))) rfl (fun z5 => ?_) (fun z5 => ?_)
   · skip
     refine wSeqK fun KK8 hK8 => ?_
     refine wReg ?_
     refine wE (.agg (rbA zeroF false 0 (.slice none 0 0) (.slice none 0 0) ([0, 0, 0, 0]))) rfl rfl rfl (fun aa ww hs _ => by simp only [execOp]; go_simp <;> first | rfl | omega) ?_
     refine wE (.agg (chA zeroCh)) rfl rfl rfl (fun aa ww hs _ => by simp only [execOp]; go_simp <;> first | rfl | omega) ?_
     refine wSr rfl tyhoistwayref09_Book 1 rfl rfl rfl rfl (rbL zeroF false 0 (.slice none 0 0) (.slice none 0 0) ([0, 0, 0, 0])) (by first | rfl | (simp only [spl]; rfl)) ?_
     refine wSr rfl tyapi_Change 0 rfl rfl rfl rfl (chL zeroCh) (by first | rfl | (simp only [spl]; rfl)) ?_
     refine p_placeRC rfl ?_
     refine wN ?_
     refine tN (wKK hK8 ?_)
     refine wRet ?_
     refine tR ?_
     exact wRcct tyhoistwayref09_Book tyapi_Change rfl rfl rfl rfl 1 0 rfl rfl rfl rfl (fun ww H => (by simp only [placeR, z1, z1o, z5, cond_true, cond_false, Bool.not_true, Bool.not_false, Bool.true_and, Bool.and_true, Bool.false_and, Bool.and_false, Bool.true_or, Bool.or_true, Bool.false_or, Bool.or_false]; exact ⟨none, 0, none, 0, rfl, (rS_nil _ _), (rS_nil _ _), (From.none _ _ _ _ _), (From.none _ _ _ _ _), H.out.off⟩))
   · skip
     have z5l : (((decide (owner < 1)) || (decide (1073741824 < owner))) || (decide (now < 0))) = false := Reg.ol z5
     have z5ll : ((decide (owner < 1)) || (decide (1073741824 < owner))) = false := Reg.ol z5l
     have z5lll : (decide (owner < 1)) = false := Reg.ol z5ll
     have z5llld : ¬ (owner < 1) := of_decide_eq_false z5lll
     have z5llr : (decide (1073741824 < owner)) = false := Reg.orr z5ll
     have z5llrd : ¬ (1073741824 < owner) := of_decide_eq_false z5llr
     have z5lr : (decide (now < 0)) = false := Reg.orr z5l
     have z5lrd : ¬ (now < 0) := of_decide_eq_false z5lr
     have z5r : (decide (1073741824 < now)) = false := Reg.orr z5
     have z5rd : ¬ (1073741824 < now) := of_decide_eq_false z5r
     refine wSk ?_
     refine tN (wKK hK6 ?_)
     refine wSeqK fun KK9 hK9 => ?_
     refine wReg ?_
     refine p_placeRC rfl ?_
     refine wLd rfl tyint 3 rfl rfl ?_
     refine p_placeRC rfl ?_
     refine wI 39 rfl (IntWalk.i64_in _ (by omega)) ?_
     refine p_placeRC rfl ?_
     refine wSt rfl tyint 2 rfl rfl rfl rfl ?_
     refine wN ?_
     refine tN (wKK hK9 ?_)
     refine wSeqK fun KK10 hK10 => ?_
     refine wReg ?_
     iterate 2 refine p_placeRC rfl ?_
     refine wSt rfl tyint 2 rfl rfl rfl rfl ?_
     refine wN ?_
     refine tN (wKK hK10 ?_)
     refine wSeqK fun KK11 hK11 => ?_
     refine wReg ?_
     iterate 2 refine p_placeRC rfl ?_
     refine wSt rfl tyint 2 rfl rfl rfl rfl ?_
     refine wN ?_
     refine tN (wKK hK11 ?_)
     refine wSeqK fun KK12 hK12 => ?_
     refine wReg ?_
     refine p_placeRC rfl ?_
     refine wSt rfl tyint 2 rfl rfl rfl rfl ?_
     refine wN ?_
     refine tN (wKK hK12 ?_)
     refine wSeqK fun KK13 hK13 => ?_
     refine wReg ?_
     refine wLr rfl tyhoistwayref09_Book 3 rfl (rbL u.c u.is u.index (.slice la u.live.length lc) (.slice da u.done.length dc) u.modes) rfl rfl ?_
     refine wLr rfl tyapi_Call 2 rfl [.int .i64 (u.index + 1), .int .i64 x.kind, .int .i64 x.src, .int .i64 x.dst, .int .i64 x.car, .int .i64 1, .int .i64 owner, .int .i64 now] rfl rfl ?_
     refine wC (l := [.agg (rbA u.c u.is u.index (.slice la u.live.length lc) (.slice da u.done.length dc) u.modes), .agg #[.int .i64 (u.index + 1), .int .i64 x.kind, .int .i64 x.src, .int .i64 x.dst, .int .i64 x.car, .int .i64 1, .int .i64 owner, .int .i64 now]]) Try.func58 rfl (by kernel_rfl) (fun wc H => nextRC u la lc da dc (⟨u.index + 1, x.kind, x.src, x.dst, x.car, 1, owner, now⟩ : CallV) wc (hp_held H (by (repeat (first | exact List.Mem.head _ | apply List.Mem.tail)))) (hp_held H (by (repeat (first | exact List.Mem.head _ | apply List.Mem.tail)))) hu) rfl rfl rfl rfl ?_
     intro wc H
     rintro er wd ⟨la10_2, lc10_2, da10_2, dc10_2, rfl, hg⟩
     have H2 := hp_gotB H hg.2.2.2.2 hg.1 hg.2.1 (by decide) (by decide) hg.2.2.1 hg.2.2.2.1 (List.forall_mem_cons.2 ⟨(by (repeat (first | exact List.Mem.head _ | apply List.Mem.tail))), List.forall_mem_cons.2 ⟨(by (repeat (first | exact List.Mem.head _ | apply List.Mem.tail))), fun _ h => by cases h⟩⟩)
     replace H2 := hp_fact H2 (p := From w [rS la lc 8 (u.live.map callRow), rS da dc 8 (u.done.map callRow)] (rS la10_2 lc10_2 8 (((nextR u (⟨u.index + 1, x.kind, x.src, x.dst, x.car, 1, owner, now⟩ : CallV)).1).live.map callRow)).foot) (from_trans hg.2.2.1 H.out.off (List.forall_mem_cons.2 ⟨(From.same rfl _ (by (repeat (first | exact List.Mem.head _ | apply List.Mem.tail)))), List.forall_mem_cons.2 ⟨(From.same rfl _ (by (repeat (first | exact List.Mem.head _ | apply List.Mem.tail)))), fun _ h => by cases h⟩⟩))
     replace H2 := hp_fact H2 (p := From w [rS la lc 8 (u.live.map callRow), rS da dc 8 (u.done.map callRow)] (rS da10_2 dc10_2 8 (((nextR u (⟨u.index + 1, x.kind, x.src, x.dst, x.car, 1, owner, now⟩ : CallV)).1).done.map callRow)).foot) (from_trans hg.2.2.2.1 H.out.off (List.forall_mem_cons.2 ⟨(From.same rfl _ (by (repeat (first | exact List.Mem.head _ | apply List.Mem.tail)))), List.forall_mem_cons.2 ⟨(From.same rfl _ (by (repeat (first | exact List.Mem.head _ | apply List.Mem.tail)))), fun _ h => by cases h⟩⟩))
     refine ⟨_, rfl, wkAt H2 ?_⟩
     clear H H2
     iterate 3 refine p_placeRC rfl ?_
     refine wSr rfl tyhoistwayref09_Book 5 rfl rfl rfl rfl (rbL (((nextR u (⟨u.index + 1, x.kind, x.src, x.dst, x.car, 1, owner, now⟩ : CallV)).1).c) (((nextR u (⟨u.index + 1, x.kind, x.src, x.dst, x.car, 1, owner, now⟩ : CallV)).1).is) (((nextR u (⟨u.index + 1, x.kind, x.src, x.dst, x.car, 1, owner, now⟩ : CallV)).1).index) (.slice la10_2 (((nextR u (⟨u.index + 1, x.kind, x.src, x.dst, x.car, 1, owner, now⟩ : CallV)).1).live.length) lc10_2) (.slice da10_2 (((nextR u (⟨u.index + 1, x.kind, x.src, x.dst, x.car, 1, owner, now⟩ : CallV)).1).done.length) dc10_2) (((nextR u (⟨u.index + 1, x.kind, x.src, x.dst, x.car, 1, owner, now⟩ : CallV)).1).modes)) (by first | rfl | (simp only [spl]; rfl)) ?_
     refine wSr rfl tyapi_Change 4 rfl rfl rfl rfl (chL ((nextR u (⟨u.index + 1, x.kind, x.src, x.dst, x.car, 1, owner, now⟩ : CallV)).2.1)) (by first | rfl | (simp only [spl]; rfl)) ?_
     refine p_placeRC rfl ?_
     refine wN ?_
     refine tN (wKK hK13 ?_)
     refine wRet ?_
     exact wRcct tyhoistwayref09_Book tyapi_Change rfl rfl rfl rfl 5 4 rfl rfl rfl rfl (fun ww H => (by simp only [placeR, z1, z1o, z5, z5l, z5ll, z5lll, z5llr, z5lr, z5r, cond_true, cond_false, Bool.not_true, Bool.not_false, Bool.true_and, Bool.and_true, Bool.false_and, Bool.and_false, Bool.true_or, Bool.or_true, Bool.false_or, Bool.or_false]; exact ⟨la10_2, lc10_2, da10_2, dc10_2, rfl, (hp_held H (by (repeat (first | exact List.Mem.head _ | apply List.Mem.tail)))), (hp_held H (by (repeat (first | exact List.Mem.head _ | apply List.Mem.tail)))), (hp_told H (by (repeat (first | exact List.Mem.head _ | apply List.Mem.tail)))), (hp_told H (by (repeat (first | exact List.Mem.head _ | apply List.Mem.tail)))), H.out.off⟩))
def tab_cancelRC : Wk.Tab := [(38, 5, 5), (38, 6, 6), (61, 1, 18)]
theorem p_cancelRC {ops : Array Oper} {rest : List Oper} {o : Oper} {w0 : World} {Q : Exit → Act → World → Prop} {S : List Nat} {R : List Res} {K K' : Wk.Env} {N : Nat} (h : Wk.stp tab_cancelRC N ops K o = some K') (n : Wk.Wk N S w0 K' R (wpList Try.prog ops Q rest)) : Wk.Wk N S w0 K R (wpList Try.prog ops Q (o :: rest)) := Wk.wP (T := tab_cancelRC) (by kernel_rfl) h n
set_option maxHeartbeats 16000000 in
set_option maxRecDepth 20000 in
theorem cancelRC (u : RBook) (la : Option Addr) (lc : Nat) (da : Option Addr) (dc : Nat) (id : Int) (owner : Int) (w : World) (h1 : (rS la lc 8 (u.live.map callRow)).holds w) (h2 : (rS da dc 8 (u.done.map callRow)).holds w) (hu : Hid (OkR u)) : Calls Try.prog 26 #[.agg (rbA u.c u.is u.index (.slice la u.live.length lc) (.slice da u.done.length dc) u.modes), .int .i64 id, .int .i64 owner] w fun e w' => ∃ la' lc' da' dc', e = .returned (.tuple #[.agg #[.int .i64 ((((cancelR u id owner).1).c).floors), .int .i64 ((((cancelR u id owner).1).c).cars), .int .i64 ((((cancelR u id owner).1).c).seats), .int .i64 ((((cancelR u id owner).1).c).calls), .int .i64 ((((cancelR u id owner).1).c).lines), .int .i64 ((((cancelR u id owner).1).c).keys), .int .i64 ((((cancelR u id owner).1).c).window), .int .i64 ((((cancelR u id owner).1).c).burst), .int .i64 ((((cancelR u id owner).1).c).rate), .int .i64 ((((cancelR u id owner).1).c).idle), .int .i64 ((((cancelR u id owner).1).c).inn), .int .i64 ((((cancelR u id owner).1).c).out), .int .i64 ((((cancelR u id owner).1).c).feed), .int .i64 ((((cancelR u id owner).1).c).retries), .int .i64 ((((cancelR u id owner).1).c).life), .int .i64 ((((cancelR u id owner).1).c).door), .int .i64 ((((cancelR u id owner).1).c).holds), .int .u32 ((((cancelR u id owner).1).c).secret), .bool (((cancelR u id owner).1).is), .int .i64 (((cancelR u id owner).1).index), .slice la' (((cancelR u id owner).1).live.length) lc', .slice da' (((cancelR u id owner).1).done.length) dc', .int .i64 (((cancelR u id owner).1).modes.getD 0 0), .int .i64 (((cancelR u id owner).1).modes.getD 1 0), .int .i64 (((cancelR u id owner).1).modes.getD 2 0), .int .i64 (((cancelR u id owner).1).modes.getD 3 0)], .agg #[.int .i64 (((cancelR u id owner).2.1).index), .int .i64 ((((cancelR u id owner).2.1).call).id), .int .i64 ((((cancelR u id owner).2.1).call).kind), .int .i64 ((((cancelR u id owner).2.1).call).src), .int .i64 ((((cancelR u id owner).2.1).call).dst), .int .i64 ((((cancelR u id owner).2.1).call).car), .int .i64 ((((cancelR u id owner).2.1).call).state), .int .i64 ((((cancelR u id owner).2.1).call).owner), .int .i64 ((((cancelR u id owner).2.1).call).born), .int .i64 (((cancelR u id owner).2.1).car), .int .i64 (((cancelR u id owner).2.1).mode)], .int .i64 (cancelR u id owner).2.2]) ∧ GivesR w w' [rS la lc 8 (u.live.map callRow), rS da dc 8 (u.done.map callRow)] la' lc' da' dc' (cancelR u id owner).1 := by
 have H := Lib.hid (Hp.start [] w)
 have H := hp_old H h1 (by decide)
 have H := hp_old H h2 (by decide)
 clear h1 h2
 refine wStart (args := [.agg (rbA u.c u.is u.index (.slice la u.live.length lc) (.slice da u.done.length dc) u.modes), .int .i64 id, .int .i64 owner]) Try.func26 rfl rfl rfl H ?_
 clear H
 show Wk 49 _ _ [(0, .agg (rbA u.c u.is u.index (.slice la u.live.length lc) (.slice da u.done.length dc) u.modes)), (1, .int .i64 id), (2, .int .i64 owner)] _ _
 have hul : u.live.length ≤ 1000 := hu.out.live
 have hud : u.done.length ≤ 1000 := hu.out.done
 have hui : 0 ≤ u.index ∧ u.index ≤ 1073741824 := hu.out.index
 have huc : u.c.cars ≤ 4 := hu.out.cars
 refine wSeqK fun KK1 hK1 => ?_
 refine wReg ?_
 refine wBx rfl rfl rfl fun b3 => ?_
 refine wAl rfl rfl tyhoistwayref09_Book fun b6 => ?_
 refine wAl rfl rfl tyapi_Change fun b7 => ?_
 refine p_cancelRC rfl ?_
 refine wN ?_
 refine tN (wKK hK1 ?_)
 refine wSeqK fun KK2 hK2 => ?_
 refine wSeqK fun KK3 hK3 => ?_
 refine wReg ?_
 refine p_cancelRC rfl ?_
 refine wLd rfl tybool 2 rfl rfl ?_
 refine p_cancelRC rfl ?_
 refine wN ?_
 refine tN (wKK hK3 ?_)
 refine wCond (E := !u.is) rfl (fun z1 => ?_) (fun z1 => ?_)
 · skip
   have z1n : u.is = false := Reg.bn z1
   refine wSeqK fun KK4 hK4 => ?_
   refine wReg ?_
   refine wE (.agg (rbA zeroF false 0 (.slice none 0 0) (.slice none 0 0) ([0, 0, 0, 0]))) rfl rfl rfl (fun aa ww hs _ => by simp only [execOp]; go_simp <;> first | rfl | omega) ?_
   refine wE (.agg (chA zeroCh)) rfl rfl rfl (fun aa ww hs _ => by simp only [execOp]; go_simp <;> first | rfl | omega) ?_
   refine wSr rfl tyhoistwayref09_Book 1 rfl rfl rfl rfl (rbL zeroF false 0 (.slice none 0 0) (.slice none 0 0) ([0, 0, 0, 0])) (by first | rfl | (simp only [spl]; rfl)) ?_
   refine wSr rfl tyapi_Change 0 rfl rfl rfl rfl (chL zeroCh) (by first | rfl | (simp only [spl]; rfl)) ?_
   refine p_cancelRC rfl ?_
   refine wN ?_
   refine tN (wKK hK4 ?_)
   refine wRet ?_
   refine tR ?_
   exact wRcct tyhoistwayref09_Book tyapi_Change rfl rfl rfl rfl 1 0 rfl rfl rfl rfl (fun ww H => (by simp only [cancelR, z1, z1n, cond_true, cond_false, Bool.not_true, Bool.not_false, Bool.true_and, Bool.and_true, Bool.false_and, Bool.and_false, Bool.true_or, Bool.or_true, Bool.false_or, Bool.or_false]; exact ⟨none, 0, none, 0, rfl, (rS_nil _ _), (rS_nil _ _), (From.none _ _ _ _ _), (From.none _ _ _ _ _), H.out.off⟩))
 · skip
   have z1n : u.is = true := Reg.bt z1
   refine wSk ?_
   refine tN (wKK hK2 ?_)
   refine wSeqK fun KK5 hK5 => ?_
   refine wReg ?_
   refine wLr rfl tyhoistwayref09_Book 2 rfl (rbL u.c u.is u.index (.slice la u.live.length lc) (.slice da u.done.length dc) u.modes) rfl rfl ?_
   refine p_cancelRC rfl ?_
   refine wQ (l := [.agg (rbA u.c u.is u.index (.slice la u.live.length lc) (.slice da u.done.length dc) u.modes), .int .i64 id]) Try.func29 rfl (by kernel_rfl) (.tuple #[.agg (xA ((findR u id).1)), .bool ((findR u id).2)]) (fun wc H => findRC u la lc da dc id wc (hp_held H (by (repeat (first | exact List.Mem.head _ | apply List.Mem.tail)))) (hp_held H (by (repeat (first | exact List.Mem.head _ | apply List.Mem.tail)))) hu) rfl rfl rfl rfl ?_
   iterate 3 refine p_cancelRC rfl ?_
   refine wAl rfl rfl tyapi_Call fun b9 => ?_
   refine wSr rfl tyapi_Call 0 rfl rfl rfl rfl (xL ((findR u id).1)) (by first | rfl | (simp only [spl]; rfl)) ?_
   refine p_cancelRC rfl ?_
   refine wN ?_
   refine tN (wKK hK5 ?_)
   refine wSeqK fun KK6 hK6 => ?_
   refine wSeqK fun KK7 hK7 => ?_
   refine wReg ?_
   iterate 2 refine p_cancelRC rfl ?_
   refine wN ?_
   refine tN (wKK hK7 ?_)
   refine wCond (E := !((findR u id).2)) rfl (fun z2 => ?_) (fun z2 => ?_)
   · skip
     have z2n : ((findR u id).2) = false := Reg.bn z2
     refine wSeqK fun KK8 hK8 => ?_
     refine wReg ?_
     refine wE (.agg (rbA zeroF false 0 (.slice none 0 0) (.slice none 0 0) ([0, 0, 0, 0]))) rfl rfl rfl (fun aa ww hs _ => by simp only [execOp]; go_simp <;> first | rfl | omega) ?_
     refine wE (.agg (chA zeroCh)) rfl rfl rfl (fun aa ww hs _ => by simp only [execOp]; go_simp <;> first | rfl | omega) ?_
     refine wSr rfl tyhoistwayref09_Book 2 rfl rfl rfl rfl (rbL zeroF false 0 (.slice none 0 0) (.slice none 0 0) ([0, 0, 0, 0])) (by first | rfl | (simp only [spl]; rfl)) ?_
     refine wSr rfl tyapi_Change 1 rfl rfl rfl rfl (chL zeroCh) (by first | rfl | (simp only [spl]; rfl)) ?_
     refine p_cancelRC rfl ?_
     refine wN ?_
     refine tN (wKK hK8 ?_)
     refine wRet ?_
     refine tR ?_
     exact wRcct tyhoistwayref09_Book tyapi_Change rfl rfl rfl rfl 2 1 rfl rfl rfl rfl (fun ww H => (by simp only [cancelR, z1, z1n, z2, z2n, cond_true, cond_false, Bool.not_true, Bool.not_false, Bool.true_and, Bool.and_true, Bool.false_and, Bool.and_false, Bool.true_or, Bool.or_true, Bool.false_or, Bool.or_false]; exact ⟨none, 0, none, 0, rfl, (rS_nil _ _), (rS_nil _ _), (From.none _ _ _ _ _), (From.none _ _ _ _ _), H.out.off⟩))
   · skip
     have z2n : ((findR u id).2) = true := Reg.bt z2
     refine wSk ?_
     refine tN (wKK hK6 ?_)
     refine wSeqK fun KK9 hK9 => ?_
     refine wSeqK fun KK10 hK10 => ?_
     refine wReg ?_
     refine p_cancelRC rfl ?_
     refine wLd rfl tyint 0 rfl rfl ?_
     iterate 2 refine p_cancelRC rfl ?_
     refine wN ?_
     refine tN (wKK hK10 ?_)
     refine wCond (E := (((findR u id).1).owner) != owner) rfl (fun z3 => ?_) (fun z3 => ?_)
     · skip
       have z3o : ((((findR u id).1).owner) == owner) = false := neq_t z3
       refine wSeqK fun KK11 hK11 => ?_
       refine wReg ?_
       refine wE (.agg (rbA zeroF false 0 (.slice none 0 0) (.slice none 0 0) ([0, 0, 0, 0]))) rfl rfl rfl (fun aa ww hs _ => by simp only [execOp]; go_simp <;> first | rfl | omega) ?_
       refine wE (.agg (chA zeroCh)) rfl rfl rfl (fun aa ww hs _ => by simp only [execOp]; go_simp <;> first | rfl | omega) ?_
       refine wSr rfl tyhoistwayref09_Book 2 rfl rfl rfl rfl (rbL zeroF false 0 (.slice none 0 0) (.slice none 0 0) ([0, 0, 0, 0])) (by first | rfl | (simp only [spl]; rfl)) ?_
       refine wSr rfl tyapi_Change 1 rfl rfl rfl rfl (chL zeroCh) (by first | rfl | (simp only [spl]; rfl)) ?_
       refine p_cancelRC rfl ?_
       refine wN ?_
       refine tN (wKK hK11 ?_)
       refine wRet ?_
       refine tR ?_
       exact wRcct tyhoistwayref09_Book tyapi_Change rfl rfl rfl rfl 2 1 rfl rfl rfl rfl (fun ww H => (by simp only [cancelR, z1, z1n, z2, z2n, z3, z3o, cond_true, cond_false, Bool.not_true, Bool.not_false, Bool.true_and, Bool.and_true, Bool.false_and, Bool.and_false, Bool.true_or, Bool.or_true, Bool.false_or, Bool.or_false]; exact ⟨none, 0, none, 0, rfl, (rS_nil _ _), (rS_nil _ _), (From.none _ _ _ _ _), (From.none _ _ _ _ _), H.out.off⟩))
     · skip
       have z3o : ((((findR u id).1).owner) == owner) = true := neq_f z3
       refine wSk ?_
       refine tN (wKK hK9 ?_)
       refine wSeqK fun KK12 hK12 => ?_
       refine wSeqK fun KK13 hK13 => ?_
       refine wReg ?_
       refine p_cancelRC rfl ?_
       refine wLd rfl tyint 0 rfl rfl ?_
       iterate 2 refine p_cancelRC rfl ?_
       refine wCut 4 [(39, .bool (((((findR u id).1).state) != 1) && ((((findR u id).1).state) != 2))), (0, .agg (rbA u.c u.is u.index (.slice la u.live.length lc) (.slice da u.done.length dc) u.modes)), (1, .int .i64 id), (2, .int .i64 owner), (3, .pointer (some ⟨b3, 0, none⟩)), (6, .pointer (some ⟨b6, 0, none⟩)), (7, .pointer (some ⟨b7, 0, none⟩)), (8, .int .i64 0), (9, .pointer (some ⟨b9, 0, none⟩)), (10, .bool ((findR u id).2)), (13, .bool (!u.is)), (23, .bool (!((findR u id).2))), (29, .bool ((((findR u id).1).owner) != owner))] ?_ ?_
       · intro KK hKK
         rcases Bool.eq_false_or_eq_true ((((findR u id).1).state) != 1) with u4 | u4
         · skip
           refine wB (c := true) 35 rfl u4 ?_
           refine p_cancelRC rfl ?_
           refine wLd rfl tyint 0 rfl rfl ?_
           refine p_cancelRC rfl ?_
           refine p_cancelRC rfl ?_
           refine wB (c := ((((findR u id).1).state) != 1) && ((((findR u id).1).state) != 2)) 39 rfl (by rw [u4]; rfl) ?_
           refine wN (tN ?_)
           exact fun aa ww nn dd hs H => hKK aa ww nn dd (sat_sub ⟨rfl, rfl, rfl, rfl, rfl, rfl, rfl, rfl, rfl, rfl, rfl, rfl, rfl, trivial⟩ hs) H
         · skip
           refine wB (c := false) 35 rfl u4 ?_
           iterate 3 refine p_cancelRC rfl ?_
           refine p_cancelRC rfl ?_
           refine wB (c := ((((findR u id).1).state) != 1) && ((((findR u id).1).state) != 2)) 39 rfl (by rw [u4]; rfl) ?_
           refine wN (tN ?_)
           exact fun aa ww nn dd hs H => hKK aa ww nn dd (sat_sub ⟨rfl, rfl, rfl, rfl, rfl, rfl, rfl, rfl, rfl, rfl, rfl, rfl, rfl, trivial⟩ hs) H
       refine wN ?_
       refine tN (wKK hK13 ?_)
       refine wCond (E := ((((findR u id).1).state) != 1) && ((((findR u id).1).state) != 2)) rfl (fun z5 => ?_) (fun z5 => ?_)
       · skip
         have z5l : ((((findR u id).1).state) != 1) = true := Reg.bl z5
         have z5lo : ((((findR u id).1).state) == 1) = false := neq_t z5l
         have z5r : ((((findR u id).1).state) != 2) = true := Reg.br z5
         have z5ro : ((((findR u id).1).state) == 2) = false := neq_t z5r
         refine wSeqK fun KK14 hK14 => ?_
         refine wReg ?_
         refine wE (.agg (rbA zeroF false 0 (.slice none 0 0) (.slice none 0 0) ([0, 0, 0, 0]))) rfl rfl rfl (fun aa ww hs _ => by simp only [execOp]; go_simp <;> first | rfl | omega) ?_
         refine wE (.agg (chA zeroCh)) rfl rfl rfl (fun aa ww hs _ => by simp only [execOp]; go_simp <;> first | rfl | omega) ?_
         refine wSr rfl tyhoistwayref09_Book 2 rfl rfl rfl rfl (rbL zeroF false 0 (.slice none 0 0) (.slice none 0 0) ([0, 0, 0, 0])) (by first | rfl | (simp only [spl]; rfl)) ?_
         refine wSr rfl tyapi_Change 1 rfl rfl rfl rfl (chL zeroCh) (by first | rfl | (simp only [spl]; rfl)) ?_
         refine p_cancelRC rfl ?_
         refine wN ?_
         refine tN (wKK hK14 ?_)
         refine wRet ?_
         refine tR ?_
         exact wRcct tyhoistwayref09_Book tyapi_Change rfl rfl rfl rfl 2 1 rfl rfl rfl rfl (fun ww H => (by simp only [cancelR, z1, z1n, z2, z2n, z3, z3o, z5, z5l, z5lo, z5r, z5ro, cond_true, cond_false, Bool.not_true, Bool.not_false, Bool.true_and, Bool.and_true, Bool.false_and, Bool.and_false, Bool.true_or, Bool.or_true, Bool.false_or, Bool.or_false]; exact ⟨none, 0, none, 0, rfl, (rS_nil _ _), (rS_nil _ _), (From.none _ _ _ _ _), (From.none _ _ _ _ _), H.out.off⟩))
       · skip
         refine wSk ?_
         refine tN (wKK hK12 ?_)
         refine wSeqK fun KK15 hK15 => ?_
         refine wReg ?_
         refine p_cancelRC rfl ?_
         refine wSt rfl tyint 0 rfl rfl rfl rfl ?_
         refine wN ?_
         refine tN (wKK hK15 ?_)
         refine wSeqK fun KK16 hK16 => ?_
         refine wReg ?_
         refine wLr rfl tyhoistwayref09_Book 3 rfl (rbL u.c u.is u.index (.slice la u.live.length lc) (.slice da u.done.length dc) u.modes) rfl rfl ?_
         refine wLr rfl tyapi_Call 0 rfl [.int .i64 (((findR u id).1).id), .int .i64 (((findR u id).1).kind), .int .i64 (((findR u id).1).src), .int .i64 (((findR u id).1).dst), .int .i64 (((findR u id).1).car), .int .i64 5, .int .i64 (((findR u id).1).owner), .int .i64 (((findR u id).1).born)] rfl rfl ?_
         refine wC (l := [.agg (rbA u.c u.is u.index (.slice la u.live.length lc) (.slice da u.done.length dc) u.modes), .agg #[.int .i64 (((findR u id).1).id), .int .i64 (((findR u id).1).kind), .int .i64 (((findR u id).1).src), .int .i64 (((findR u id).1).dst), .int .i64 (((findR u id).1).car), .int .i64 5, .int .i64 (((findR u id).1).owner), .int .i64 (((findR u id).1).born)]]) Try.func58 rfl (by kernel_rfl) (fun wc H => nextRC u la lc da dc (⟨((findR u id).1).id, ((findR u id).1).kind, ((findR u id).1).src, ((findR u id).1).dst, ((findR u id).1).car, 5, ((findR u id).1).owner, ((findR u id).1).born⟩ : CallV) wc (hp_held H (by (repeat (first | exact List.Mem.head _ | apply List.Mem.tail)))) (hp_held H (by (repeat (first | exact List.Mem.head _ | apply List.Mem.tail)))) hu) rfl rfl rfl rfl ?_
         intro wc H
         rintro er wd ⟨la11_2, lc11_2, da11_2, dc11_2, rfl, hg⟩
         have H2 := hp_gotB H hg.2.2.2.2 hg.1 hg.2.1 (by decide) (by decide) hg.2.2.1 hg.2.2.2.1 (List.forall_mem_cons.2 ⟨(by (repeat (first | exact List.Mem.head _ | apply List.Mem.tail))), List.forall_mem_cons.2 ⟨(by (repeat (first | exact List.Mem.head _ | apply List.Mem.tail))), fun _ h => by cases h⟩⟩)
         replace H2 := hp_fact H2 (p := From w [rS la lc 8 (u.live.map callRow), rS da dc 8 (u.done.map callRow)] (rS la11_2 lc11_2 8 (((nextR u (⟨((findR u id).1).id, ((findR u id).1).kind, ((findR u id).1).src, ((findR u id).1).dst, ((findR u id).1).car, 5, ((findR u id).1).owner, ((findR u id).1).born⟩ : CallV)).1).live.map callRow)).foot) (from_trans hg.2.2.1 H.out.off (List.forall_mem_cons.2 ⟨(From.same rfl _ (by (repeat (first | exact List.Mem.head _ | apply List.Mem.tail)))), List.forall_mem_cons.2 ⟨(From.same rfl _ (by (repeat (first | exact List.Mem.head _ | apply List.Mem.tail)))), fun _ h => by cases h⟩⟩))
         replace H2 := hp_fact H2 (p := From w [rS la lc 8 (u.live.map callRow), rS da dc 8 (u.done.map callRow)] (rS da11_2 dc11_2 8 (((nextR u (⟨((findR u id).1).id, ((findR u id).1).kind, ((findR u id).1).src, ((findR u id).1).dst, ((findR u id).1).car, 5, ((findR u id).1).owner, ((findR u id).1).born⟩ : CallV)).1).done.map callRow)).foot) (from_trans hg.2.2.2.1 H.out.off (List.forall_mem_cons.2 ⟨(From.same rfl _ (by (repeat (first | exact List.Mem.head _ | apply List.Mem.tail)))), List.forall_mem_cons.2 ⟨(From.same rfl _ (by (repeat (first | exact List.Mem.head _ | apply List.Mem.tail)))), fun _ h => by cases h⟩⟩))
         refine ⟨_, rfl, wkAt H2 ?_⟩
         clear H H2
         iterate 3 refine p_cancelRC rfl ?_
         refine wSr rfl tyhoistwayref09_Book 6 rfl rfl rfl rfl (rbL (((nextR u (⟨((findR u id).1).id, ((findR u id).1).kind, ((findR u id).1).src, ((findR u id).1).dst, ((findR u id).1).car, 5, ((findR u id).1).owner, ((findR u id).1).born⟩ : CallV)).1).c) (((nextR u (⟨((findR u id).1).id, ((findR u id).1).kind, ((findR u id).1).src, ((findR u id).1).dst, ((findR u id).1).car, 5, ((findR u id).1).owner, ((findR u id).1).born⟩ : CallV)).1).is) (((nextR u (⟨((findR u id).1).id, ((findR u id).1).kind, ((findR u id).1).src, ((findR u id).1).dst, ((findR u id).1).car, 5, ((findR u id).1).owner, ((findR u id).1).born⟩ : CallV)).1).index) (.slice la11_2 (((nextR u (⟨((findR u id).1).id, ((findR u id).1).kind, ((findR u id).1).src, ((findR u id).1).dst, ((findR u id).1).car, 5, ((findR u id).1).owner, ((findR u id).1).born⟩ : CallV)).1).live.length) lc11_2) (.slice da11_2 (((nextR u (⟨((findR u id).1).id, ((findR u id).1).kind, ((findR u id).1).src, ((findR u id).1).dst, ((findR u id).1).car, 5, ((findR u id).1).owner, ((findR u id).1).born⟩ : CallV)).1).done.length) dc11_2) (((nextR u (⟨((findR u id).1).id, ((findR u id).1).kind, ((findR u id).1).src, ((findR u id).1).dst, ((findR u id).1).car, 5, ((findR u id).1).owner, ((findR u id).1).born⟩ : CallV)).1).modes)) (by first | rfl | (simp only [spl]; rfl)) ?_
         refine wSr rfl tyapi_Change 5 rfl rfl rfl rfl (chL ((nextR u (⟨((findR u id).1).id, ((findR u id).1).kind, ((findR u id).1).src, ((findR u id).1).dst, ((findR u id).1).car, 5, ((findR u id).1).owner, ((findR u id).1).born⟩ : CallV)).2.1)) (by first | rfl | (simp only [spl]; rfl)) ?_
         refine p_cancelRC rfl ?_
         refine wN ?_
         refine tN (wKK hK16 ?_)
         refine wRet ?_
         exact wRcct tyhoistwayref09_Book tyapi_Change rfl rfl rfl rfl 6 5 rfl rfl rfl rfl (fun ww H => (by simp only [cancelR, z1, z1n, z2, z2n, z3, z3o, z5, cond_true, cond_false, Bool.not_true, Bool.not_false, Bool.true_and, Bool.and_true, Bool.false_and, Bool.and_false, Bool.true_or, Bool.or_true, Bool.false_or, Bool.or_false]; exact ⟨la11_2, lc11_2, da11_2, dc11_2, rfl, (hp_held H (by (repeat (first | exact List.Mem.head _ | apply List.Mem.tail)))), (hp_held H (by (repeat (first | exact List.Mem.head _ | apply List.Mem.tail)))), (hp_told H (by (repeat (first | exact List.Mem.head _ | apply List.Mem.tail)))), (hp_told H (by (repeat (first | exact List.Mem.head _ | apply List.Mem.tail)))), H.out.off⟩))
def tab_applyRC : Wk.Tab := [(38, 0, 0), (38, 1, 1), (38, 2, 2), (38, 3, 3), (38, 4, 4), (38, 5, 5), (38, 6, 6), (38, 7, 7), (40, 0, 0), (40, 1, 1), (40, 2, 9), (40, 3, 10), (61, 0, 0), (61, 1, 18), (61, 2, 19), (61, 3, 20)]
theorem p_applyRC {ops : Array Oper} {rest : List Oper} {o : Oper} {w0 : World} {Q : Exit → Act → World → Prop} {S : List Nat} {R : List Res} {K K' : Wk.Env} {N : Nat} (h : Wk.stp tab_applyRC N ops K o = some K') (n : Wk.Wk N S w0 K' R (wpList Try.prog ops Q rest)) : Wk.Wk N S w0 K R (wpList Try.prog ops Q (o :: rest)) := Wk.wP (T := tab_applyRC) (by kernel_rfl) h n
set_option maxHeartbeats 4000000 in
set_option maxRecDepth 20000 in
theorem applyRC_r14 (u : RBook) (lc : Nat) (da : Option Addr) (dc : Nat) (ch : ChgV) (hul : u.live.length ≤ 1000) (hud : u.done.length ≤ 1000) (hui : 0 ≤ u.index ∧ u.index ≤ 1073741824) (huc : u.c.cars ≤ 4) (b2 : Nat) (b3 : Nat) (b4 : Nat) (z3ld : ¬ (ch.index < 1)) (b9 : Nat) (i : Nat) (hi : i ≤ u.live.length) (z7d : i < u.live.length) (yz : Addr) (z : CallV) (HRz : Hid ((u.live.map callRow)[i]? = some [.int .i64 z.id, .int .i64 z.kind, .int .i64 z.src, .int .i64 z.dst, .int .i64 z.car, .int .i64 z.state, .int .i64 z.owner, .int .i64 z.born])) {wa wb : World} (H : Hid (Hp [] wa wb [rB b9 38 (xL ch.call), rB b4 61 (rbL zeroF false 0 (.slice none 0 0) (.slice none 0 0) ([0, 0, 0, 0])), rB b3 40 (chL ch), rB b2 61 (rbL u.c u.is u.index (.slice (some yz) u.live.length lc) (.slice da u.done.length dc) u.modes), rS da dc 8 (u.done.map callRow), rS (some yz) lc 8 (u.live.map callRow)])) (ac0 : Act) (hz : ac0.tmps.size = 153) (so2 : ac0.eval (.tmp 2) = .pointer (some ⟨b2, 0, none⟩)) (so9 : ac0.eval (.tmp 9) = .pointer (some ⟨b9, 0, none⟩)) (so10 : ac0.eval (.tmp 10) = .int .i64 i) {QR : Exit → Act → World → Prop} (hfin : ∀ (ac1 : Act) (wz : World), ac1.tmps.size = 153 → ac1.defers = ac0.defers → (∀ t, ([68, 69, 70, 71, 72, 73, 74, 75, 76] : List Nat).contains t = false → ac1.eval (.tmp t) = ac0.eval (.tmp t)) → ac1.eval (.tmp 76) = .bool (z.id == ch.call.id) →  Hid (Hp [] wa wz [rB b9 38 (xL ch.call), rB b4 61 (rbL zeroF false 0 (.slice none 0 0) (.slice none 0 0) ([0, 0, 0, 0])), rB b3 40 (chL ch), rB b2 61 (rbL u.c u.is u.index (.slice (some yz) u.live.length lc) (.slice da u.done.length dc) u.modes), rS da dc 8 (u.done.map callRow), rS (some yz) lc 8 (u.live.map callRow)]) → QR .normal ac1 wz) : (regAt Try.f28 14).wp Try.prog QR ac0 wb := by
  refine wp_region_st mixedP ⟨[0, 1, 0, 2, 3, 4, 0, 1, 5], by kernel_rfl⟩ [[], [0], [], [0, 1, 2], [0, 1, 2, 3], [0, 1, 2, 3, 4], [], [6], [0, 1, 2, 3, 4, 5, 6, 7]] (by kernel_rfl) (by kernel_rfl) 153 hz (by kernel_rfl) (fun (xx : Unit) jx => nth [.pointer (some ⟨b2, 20, none⟩), .slice (some yz) u.live.length lc, .int .i64 i, .pointer (some (yz.add (i * 8))), .pointer (some (yz.add (i * 8))), .int .i64 z.id, .pointer (some ⟨b9, 0, none⟩), .int .i64 ch.call.id, .bool (z.id == ch.call.id)] jx) (fun (LL : Nat → Bool) (xx : Unit) ww => Hp [] wa ww [rB b9 38 (xL ch.call), rB b4 61 (rbL zeroF false 0 (.slice none 0 0) (.slice none 0 0) ([0, 0, 0, 0])), rB b3 40 (chL ch), rB b2 61 (rbL u.c u.is u.index (.slice (some yz) u.live.length lc) (.slice da u.done.length dc) u.modes), rS da dc 8 (u.done.map callRow), rS (some yz) lc 8 (u.live.map callRow)]) () H.out.drew ?_ (steps_al ?_) ?_ ?_
  · exact fun _ _ _ _ _ h => h
  · refine al_cons ?_ (al_cons ?_ (al_cons ?_ (al_cons ?_ (al_cons ?_ (al_cons ?_ (al_cons ?_ (al_cons ?_ (al_cons ?_ (al_nil)))))))))
    · intro LL xx ac wc sg hst hwant QQ hgo
      have se2 : ac.eval (.tmp 2) = _ := ((sg.free 2 (by kernel_rfl)).trans so2)
      have sg2 := gt_of se2
      exact op_val hwant hgo hst _ (by simp only [execOp, nth]; go_simp <;> omega) rfl
    · intro LL xx ac wc sg hst hwant QQ hgo
      have H := Lib.hid hst
      refine hpA_load1 tyS_api_Call H rfl (sg.slot 0 (sg.anc 0 rfl)) hwant (by (repeat (first | exact List.Mem.head _ | apply List.Mem.tail))) (by rfl) ?_
      exact hgo _ () _ (fun _ _ => rfl) rfl hst
    · intro LL xx ac wc sg hst hwant QQ hgo
      exact op_val hwant hgo hst _ (exec_move rfl ((sg.free 10 (by kernel_rfl)).trans so10)) rfl
    · intro LL xx ac wc sg hst hwant QQ hgo
      have se69 : ac.eval (.tmp 69) = _ := (sg.slot 1 (sg.anc 1 rfl))
      have sg69 := gt_of se69
      have se70 : ac.eval (.tmp 70) = _ := (sg.slot 2 (sg.anc 2 rfl))
      have sg70 := gt_of se70
      (try simp only [nth] at se69 sg69 se70 sg70)
      exact op_val hwant hgo hst _ (by simp only [execOp, nth]; go_simp <;> omega) rfl
    · intro LL xx ac wc sg hst hwant QQ hgo
      have se71 : ac.eval (.tmp 71) = _ := (sg.slot 3 (sg.anc 3 rfl))
      have sg71 := gt_of se71
      (try simp only [nth] at se71 sg71)
      exact op_val hwant hgo hst _ (by simp only [execOp, nth]; go_simp <;> omega) rfl
    · intro LL xx ac wc sg hst hwant QQ hgo
      have H := Lib.hid hst
      refine hpS_load1 0 tyint H (y := yz) rfl (sg.slot 4 (sg.anc 4 rfl)) hwant (by (repeat (first | exact List.Mem.head _ | apply List.Mem.tail))) HRz.out (by rfl) (by simp [Addr.add]) ?_
      exact hgo _ () _ (fun _ _ => rfl) rfl hst
    · intro LL xx ac wc sg hst hwant QQ hgo
      have se9 : ac.eval (.tmp 9) = _ := ((sg.free 9 (by kernel_rfl)).trans so9)
      have sg9 := gt_of se9
      exact op_val hwant hgo hst _ (by simp only [execOp, nth]; go_simp <;> omega) rfl
    · intro LL xx ac wc sg hst hwant QQ hgo
      have H := Lib.hid hst
      refine hpA_load1 tyint H rfl (sg.slot 6 (sg.anc 6 rfl)) hwant (by (repeat (first | exact List.Mem.head _ | apply List.Mem.tail))) (by rfl) ?_
      exact hgo _ () _ (fun _ _ => rfl) rfl hst
    · intro LL xx ac wc sg hst hwant QQ hgo
      have se73 : ac.eval (.tmp 73) = _ := (sg.slot 5 (sg.anc 5 rfl))
      have sg73 := gt_of se73
      have se75 : ac.eval (.tmp 75) = _ := (sg.slot 7 (sg.anc 7 rfl))
      have sg75 := gt_of se75
      (try simp only [nth] at se73 sg73 se75 sg75)
      exact op_val hwant hgo hst _ (by simp only [execOp, nth]; go_simp <;> omega) rfl
  · exact skips [] (by kernel_rfl) (fun _ h => by cases h)
  · intro xx ac1 wz hfr hsl hst
    exact hfin ac1 wz (hfr.size.trans hz) hfr.defers (fr_keep hfr [68, 69, 70, 71, 72, 73, 74, 75, 76] (by kernel_rfl)) (hsl 8 (by decide)) (Lib.hid hst)
set_option maxHeartbeats 4000000 in
set_option maxRecDepth 20000 in
theorem applyRC_r15 (u : RBook) (lc : Nat) (da : Option Addr) (dc : Nat) (ch : ChgV) (hul : u.live.length ≤ 1000) (hud : u.done.length ≤ 1000) (hui : 0 ≤ u.index ∧ u.index ≤ 1073741824) (huc : u.c.cars ≤ 4) (b2 : Nat) (b3 : Nat) (b4 : Nat) (z3ld : ¬ (ch.index < 1)) (b9 : Nat) (i : Nat) (hi : i ≤ u.live.length) (z7d : i < u.live.length) (yz : Addr) (z : CallV) (HRz : Hid ((u.live.map callRow)[i]? = some [.int .i64 z.id, .int .i64 z.kind, .int .i64 z.src, .int .i64 z.dst, .int .i64 z.car, .int .i64 z.state, .int .i64 z.owner, .int .i64 z.born])) {wa wb : World} (H : Hid (Hp [] wa wb [rB b9 38 (xL ch.call), rB b4 61 (rbL zeroF false 0 (.slice none 0 0) (.slice none 0 0) ([0, 0, 0, 0])), rB b3 40 (chL ch), rB b2 61 (rbL u.c u.is u.index (.slice (some yz) u.live.length lc) (.slice da u.done.length dc) u.modes), rS da dc 8 (u.done.map callRow), rS (some yz) lc 8 (u.live.map callRow)])) (ac0 : Act) (hz : ac0.tmps.size = 153) (so2 : ac0.eval (.tmp 2) = .pointer (some ⟨b2, 0, none⟩)) (so9 : ac0.eval (.tmp 9) = .pointer (some ⟨b9, 0, none⟩)) (so10 : ac0.eval (.tmp 10) = .int .i64 i) {QR : Exit → Act → World → Prop} (hfin : ∀ (ac1 : Act) (wz : World), ac1.tmps.size = 153 → ac1.defers = ac0.defers → (∀ t, ([77, 78, 79, 80, 81, 82, 83, 84, 85, 86] : List Nat).contains t = false → ac1.eval (.tmp t) = ac0.eval (.tmp t)) → ac1.eval (.tmp 86) = .bool (!(mayV u.c z ch.call)) →  Hid (Hp [] wa wz [rB b9 38 (xL ch.call), rB b4 61 (rbL zeroF false 0 (.slice none 0 0) (.slice none 0 0) ([0, 0, 0, 0])), rB b3 40 (chL ch), rB b2 61 (rbL u.c u.is u.index (.slice (some yz) u.live.length lc) (.slice da u.done.length dc) u.modes), rS da dc 8 (u.done.map callRow), rS (some yz) lc 8 (u.live.map callRow)]) → QR .normal ac1 wz) : (regAt Try.f28 15).wp Try.prog QR ac0 wb := by
  refine wp_region_st mixedP ⟨[0, 1, 0, 1, 0, 2, 3, 0, 4, 5], by kernel_rfl⟩ [[], [0], [], [2], [], [2, 3, 4], [2, 3, 4, 5], [], [0, 1, 2, 3, 4, 5, 6, 7], [0, 1, 2, 3, 4, 5, 6, 7, 8]] (by kernel_rfl) (by kernel_rfl) 153 hz (by kernel_rfl) (fun (xx : Unit) jx => nth [.pointer (some ⟨b2, 0, none⟩), .agg (cA u.c), .pointer (some ⟨b2, 20, none⟩), .slice (some yz) u.live.length lc, .int .i64 i, .pointer (some (yz.add (i * 8))), .agg (xA z), .agg (xA ch.call), .bool (mayV u.c z ch.call), .bool (!(mayV u.c z ch.call))] jx) (fun (LL : Nat → Bool) (xx : Unit) ww => Hp [] wa ww [rB b9 38 (xL ch.call), rB b4 61 (rbL zeroF false 0 (.slice none 0 0) (.slice none 0 0) ([0, 0, 0, 0])), rB b3 40 (chL ch), rB b2 61 (rbL u.c u.is u.index (.slice (some yz) u.live.length lc) (.slice da u.done.length dc) u.modes), rS da dc 8 (u.done.map callRow), rS (some yz) lc 8 (u.live.map callRow)]) () H.out.drew ?_ (steps_al ?_) ?_ ?_
  · exact fun _ _ _ _ _ h => h
  · refine al_cons ?_ (al_cons ?_ (al_cons ?_ (al_cons ?_ (al_cons ?_ (al_cons ?_ (al_cons ?_ (al_cons ?_ (al_cons ?_ (al_cons ?_ (al_nil))))))))))
    · intro LL xx ac wc sg hst hwant QQ hgo
      have se2 : ac.eval (.tmp 2) = _ := ((sg.free 2 (by kernel_rfl)).trans so2)
      have sg2 := gt_of se2
      exact op_val hwant hgo hst _ (by simp only [execOp, nth]; go_simp <;> omega) rfl
    · intro LL xx ac wc sg hst hwant QQ hgo
      have H := Lib.hid hst
      refine hpA_load tyapi_Config H rfl (sg.slot 0 (sg.anc 0 rfl)) hwant (by (repeat (first | exact List.Mem.head _ | apply List.Mem.tail))) (by rfl) rfl ?_
      exact hgo _ () _ (fun _ _ => rfl) rfl hst
    · intro LL xx ac wc sg hst hwant QQ hgo
      have se2 : ac.eval (.tmp 2) = _ := ((sg.free 2 (by kernel_rfl)).trans so2)
      have sg2 := gt_of se2
      exact op_val hwant hgo hst _ (by simp only [execOp, nth]; go_simp <;> omega) rfl
    · intro LL xx ac wc sg hst hwant QQ hgo
      have H := Lib.hid hst
      refine hpA_load1 tyS_api_Call H rfl (sg.slot 2 (sg.anc 2 rfl)) hwant (by (repeat (first | exact List.Mem.head _ | apply List.Mem.tail))) (by rfl) ?_
      exact hgo _ () _ (fun _ _ => rfl) rfl hst
    · intro LL xx ac wc sg hst hwant QQ hgo
      exact op_val hwant hgo hst _ (exec_move rfl ((sg.free 10 (by kernel_rfl)).trans so10)) rfl
    · intro LL xx ac wc sg hst hwant QQ hgo
      have se80 : ac.eval (.tmp 80) = _ := (sg.slot 3 (sg.anc 3 rfl))
      have sg80 := gt_of se80
      have se81 : ac.eval (.tmp 81) = _ := (sg.slot 4 (sg.anc 4 rfl))
      have sg81 := gt_of se81
      (try simp only [nth] at se80 sg80 se81 sg81)
      exact op_val hwant hgo hst _ (by simp only [execOp, nth]; go_simp <;> omega) rfl
    · intro LL xx ac wc sg hst hwant QQ hgo
      have H := Lib.hid hst
      refine hpS_load tyapi_Call H (y := yz) rfl (sg.slot 5 (sg.anc 5 rfl)) hwant (by (repeat (first | exact List.Mem.head _ | apply List.Mem.tail))) HRz.out rfl ?_
      exact hgo _ () _ (fun _ _ => rfl) rfl hst
    · intro LL xx ac wc sg hst hwant QQ hgo
      have H := Lib.hid hst
      refine hpA_load tyapi_Call H rfl ((sg.free 9 (by kernel_rfl)).trans so9) hwant (by (repeat (first | exact List.Mem.head _ | apply List.Mem.tail))) (by rfl) rfl ?_
      exact hgo _ () _ (fun _ _ => rfl) rfl hst
    · intro LL xx ac wc sg hst hwant QQ hgo
      have se78 : ac.eval (.tmp 78) = _ := (sg.slot 1 (sg.anc 1 rfl))
      have sg78 := gt_of se78
      have se83 : ac.eval (.tmp 83) = _ := (sg.slot 6 (sg.anc 6 rfl))
      have sg83 := gt_of se83
      have se84 : ac.eval (.tmp 84) = _ := (sg.slot 7 (sg.anc 7 rfl))
      have sg84 := gt_of se84
      (try simp only [nth] at se78 sg78 se83 sg83 se84 sg84)
      refine op_call hwant hgo 59 #[.agg (cA u.c), .agg (xA z), .agg (xA ch.call)] (by simp only [execOp]; go_simp) (mayR u.c z ch.call wc) ?_
      rintro er wd ⟨rfl, hof⟩
      exact ⟨_, (), rfl, fun _ _ => rfl, rfl, Hp.quiet hst hof⟩
    · intro LL xx ac wc sg hst hwant QQ hgo
      have se85 : ac.eval (.tmp 85) = _ := (sg.slot 8 (sg.anc 8 rfl))
      have sg85 := gt_of se85
      (try simp only [nth] at se85 sg85)
      exact op_val hwant hgo hst _ (by simp only [execOp, nth]; go_simp <;> omega) rfl
  · exact skips [] (by kernel_rfl) (fun _ h => by cases h)
  · intro xx ac1 wz hfr hsl hst
    exact hfin ac1 wz (hfr.size.trans hz) hfr.defers (fr_keep hfr [77, 78, 79, 80, 81, 82, 83, 84, 85, 86] (by kernel_rfl)) (hsl 9 (by decide)) (Lib.hid hst)
set_option maxHeartbeats 16000000 in
set_option maxRecDepth 20000 in
theorem applyRC (u : RBook) (la : Option Addr) (lc : Nat) (da : Option Addr) (dc : Nat) (ch : ChgV) (w : World) (h1 : (rS la lc 8 (u.live.map callRow)).holds w) (h2 : (rS da dc 8 (u.done.map callRow)).holds w) (hu : Hid (OkR u)) : Calls Try.prog 28 #[.agg (rbA u.c u.is u.index (.slice la u.live.length lc) (.slice da u.done.length dc) u.modes), .agg (chA ch)] w fun e w' => ∃ la' lc' da' dc', e = .returned (.tuple #[.agg #[.int .i64 ((((applyR u ch).1).c).floors), .int .i64 ((((applyR u ch).1).c).cars), .int .i64 ((((applyR u ch).1).c).seats), .int .i64 ((((applyR u ch).1).c).calls), .int .i64 ((((applyR u ch).1).c).lines), .int .i64 ((((applyR u ch).1).c).keys), .int .i64 ((((applyR u ch).1).c).window), .int .i64 ((((applyR u ch).1).c).burst), .int .i64 ((((applyR u ch).1).c).rate), .int .i64 ((((applyR u ch).1).c).idle), .int .i64 ((((applyR u ch).1).c).inn), .int .i64 ((((applyR u ch).1).c).out), .int .i64 ((((applyR u ch).1).c).feed), .int .i64 ((((applyR u ch).1).c).retries), .int .i64 ((((applyR u ch).1).c).life), .int .i64 ((((applyR u ch).1).c).door), .int .i64 ((((applyR u ch).1).c).holds), .int .u32 ((((applyR u ch).1).c).secret), .bool (((applyR u ch).1).is), .int .i64 (((applyR u ch).1).index), .slice la' (((applyR u ch).1).live.length) lc', .slice da' (((applyR u ch).1).done.length) dc', .int .i64 (((applyR u ch).1).modes.getD 0 0), .int .i64 (((applyR u ch).1).modes.getD 1 0), .int .i64 (((applyR u ch).1).modes.getD 2 0), .int .i64 (((applyR u ch).1).modes.getD 3 0)], .int .i64 (applyR u ch).2]) ∧ GivesR w w' [rS la lc 8 (u.live.map callRow), rS da dc 8 (u.done.map callRow)] la' lc' da' dc' (applyR u ch).1 := by
 have H := Lib.hid (Hp.start [] w)
 have H := hp_old H h1 (by decide)
 have H := hp_old H h2 (by decide)
 clear h1 h2
 refine wStart (args := [.agg (rbA u.c u.is u.index (.slice la u.live.length lc) (.slice da u.done.length dc) u.modes), .agg (chA ch)]) Try.func28 rfl rfl rfl H ?_
 clear H
 show Wk 153 _ _ [(0, .agg (rbA u.c u.is u.index (.slice la u.live.length lc) (.slice da u.done.length dc) u.modes)), (1, .agg (chA ch))] _ _
 have hul : u.live.length ≤ 1000 := hu.out.live
 have hud : u.done.length ≤ 1000 := hu.out.done
 have hui : 0 ≤ u.index ∧ u.index ≤ 1073741824 := hu.out.index
 have huc : u.c.cars ≤ 4 := hu.out.cars
 refine wSeqK fun KK1 hK1 => ?_
 refine wReg ?_
 refine wBx rfl rfl rfl fun b2 => ?_
 refine wBx rfl rfl rfl fun b3 => ?_
 refine wAl rfl rfl tyhoistwayref09_Book fun b4 => ?_
 refine p_applyRC rfl ?_
 refine wN ?_
 refine tN (wKK hK1 ?_)
 refine wSeqK fun KK2 hK2 => ?_
 refine wSeqK fun KK3 hK3 => ?_
 refine wReg ?_
 refine p_applyRC rfl ?_
 refine wLd rfl tybool 2 rfl rfl ?_
 refine p_applyRC rfl ?_
 refine wN ?_
 refine tN (wKK hK3 ?_)
 refine wCond (E := !u.is) rfl (fun z1 => ?_) (fun z1 => ?_)
 · skip
   have z1n : u.is = false := Reg.bn z1
   refine wSeqK fun KK4 hK4 => ?_
   refine wReg ?_
   refine wE (.agg (rbA zeroF false 0 (.slice none 0 0) (.slice none 0 0) ([0, 0, 0, 0]))) rfl rfl rfl (fun aa ww hs _ => by simp only [execOp]; go_simp <;> first | rfl | omega) ?_
   refine wSr rfl tyhoistwayref09_Book 0 rfl rfl rfl rfl (rbL zeroF false 0 (.slice none 0 0) (.slice none 0 0) ([0, 0, 0, 0])) (by first | rfl | (simp only [spl]; rfl)) ?_
   refine p_applyRC rfl ?_
   refine wN ?_
   refine tN (wKK hK4 ?_)
   refine wRet ?_
   refine tR ?_
   exact wRct tyhoistwayref09_Book rfl rfl rfl 0 rfl rfl (fun ww H => (by simp only [applyR, z1, z1n, cond_true, cond_false, Bool.not_true, Bool.not_false, Bool.true_and, Bool.and_true, Bool.false_and, Bool.and_false, Bool.true_or, Bool.or_true, Bool.false_or, Bool.or_false]; exact ⟨none, 0, none, 0, rfl, (rS_nil _ _), (rS_nil _ _), (From.none _ _ _ _ _), (From.none _ _ _ _ _), H.out.off⟩))
 · skip
   have z1n : u.is = true := Reg.bt z1
   refine wSk ?_
   refine tN (wKK hK2 ?_)
   refine wSeqK fun KK5 hK5 => ?_
   refine wSeqK fun KK6 hK6 => ?_
   refine wReg ?_
   refine p_applyRC rfl ?_
   refine wLd rfl tyint 1 rfl rfl ?_
   iterate 2 refine p_applyRC rfl ?_
   refine wCut 7 [(32, .bool ((decide (ch.index < 1)) || ((IntKind.i64.wrap (ch.index - 1)) != u.index))), (0, .agg (rbA u.c u.is u.index (.slice la u.live.length lc) (.slice da u.done.length dc) u.modes)), (1, .agg (chA ch)), (2, .pointer (some ⟨b2, 0, none⟩)), (3, .pointer (some ⟨b3, 0, none⟩)), (4, .pointer (some ⟨b4, 0, none⟩)), (5, .int .i64 0), (20, .bool (!u.is))] ?_ ?_
   · intro KK hKK
     rcases Bool.eq_false_or_eq_true (decide (ch.index < 1)) with u2 | u2
     · skip
       refine wB (c := true) 25 rfl u2 ?_
       iterate 6 refine p_applyRC rfl ?_
       refine p_applyRC rfl ?_
       refine wB (c := (decide (ch.index < 1)) || ((IntKind.i64.wrap (ch.index - 1)) != u.index)) 32 rfl (by rw [u2]; rfl) ?_
       refine wN (tN ?_)
       exact fun aa ww nn dd hs H => hKK aa ww nn dd (sat_sub ⟨rfl, rfl, rfl, rfl, rfl, rfl, rfl, rfl, trivial⟩ hs) H
     · skip
       refine wB (c := false) 25 rfl u2 ?_
       refine p_applyRC rfl ?_
       refine wLd rfl tyint 1 rfl rfl ?_
       iterate 2 refine p_applyRC rfl ?_
       refine wLd rfl tyint 2 rfl rfl ?_
       refine p_applyRC rfl ?_
       refine p_applyRC rfl ?_
       refine wB (c := (decide (ch.index < 1)) || ((IntKind.i64.wrap (ch.index - 1)) != u.index)) 32 rfl (by rw [u2]; rfl) ?_
       refine wN (tN ?_)
       exact fun aa ww nn dd hs H => hKK aa ww nn dd (sat_sub ⟨rfl, rfl, rfl, rfl, rfl, rfl, rfl, rfl, trivial⟩ hs) H
   refine wN ?_
   refine tN (wKK hK6 ?_)
   refine wCond (E := (decide (ch.index < 1)) || ((IntKind.i64.wrap (ch.index - 1)) != u.index)) rfl (fun z3 => ?_) (fun z3 => ?_)
   · skip
     refine wSeqK fun KK7 hK7 => ?_
     refine wReg ?_
     refine wE (.agg (rbA zeroF false 0 (.slice none 0 0) (.slice none 0 0) ([0, 0, 0, 0]))) rfl rfl rfl (fun aa ww hs _ => by simp only [execOp]; go_simp <;> first | rfl | omega) ?_
     refine wSr rfl tyhoistwayref09_Book 0 rfl rfl rfl rfl (rbL zeroF false 0 (.slice none 0 0) (.slice none 0 0) ([0, 0, 0, 0])) (by first | rfl | (simp only [spl]; rfl)) ?_
     refine p_applyRC rfl ?_
     refine wN ?_
     refine tN (wKK hK7 ?_)
     refine wRet ?_
     refine tR ?_
     exact wRct tyhoistwayref09_Book rfl rfl rfl 0 rfl rfl (fun ww H => (by simp only [applyR, z1, z1n, z3, cond_true, cond_false, Bool.not_true, Bool.not_false, Bool.true_and, Bool.and_true, Bool.false_and, Bool.and_false, Bool.true_or, Bool.or_true, Bool.false_or, Bool.or_false]; exact ⟨none, 0, none, 0, rfl, (rS_nil _ _), (rS_nil _ _), (From.none _ _ _ _ _), (From.none _ _ _ _ _), H.out.off⟩))
   · skip
     have z3l : (decide (ch.index < 1)) = false := Reg.ol z3
     have z3ld : ¬ (ch.index < 1) := of_decide_eq_false z3l
     have z3r : ((IntKind.i64.wrap (ch.index - 1)) != u.index) = false := Reg.orr z3
     have z3ro : ((IntKind.i64.wrap (ch.index - 1)) == u.index) = true := neq_f z3r
     refine wSk ?_
     refine tN (wKK hK5 ?_)
     refine wSeqK fun KK8 hK8 => ?_
     refine wSeqK fun KK9 hK9 => ?_
     refine wReg ?_
     refine p_applyRC rfl ?_
     refine wLr rfl tyapi_Call 1 rfl (xL ch.call) rfl rfl ?_
     refine wE (.agg (xA zeroC)) rfl rfl rfl (fun aa ww hs _ => by simp only [execOp]; go_simp <;> first | rfl | omega) ?_
     refine wE (.bool ((decide (ch.call = (⟨0, 0, 0, 0, 0, 0, 0, 0⟩ : CallV))))) rfl rfl rfl (fun aa wc hs H => exec_eql rfl (hs _ _ rfl) (hs _ _ rfl) (by kernel_rfl) (run_eq_call ch.call (⟨0, 0, 0, 0, 0, 0, 0, 0⟩ : CallV) wc)) ?_
     refine wN ?_
     refine tN (wKK hK9 ?_)
     refine wCond (E := decide (ch.call = (⟨0, 0, 0, 0, 0, 0, 0, 0⟩ : CallV))) rfl (fun z4 => ?_) (fun z4 => ?_)
     · skip
       refine wSeqK fun KK10 hK10 => ?_
       refine wReg ?_
       refine wLr rfl tyhoistwayref09_Book 2 rfl (rbL u.c u.is u.index (.slice la u.live.length lc) (.slice da u.done.length dc) u.modes) rfl rfl ?_
       refine p_applyRC rfl ?_
       refine wLd rfl tyint 1 rfl rfl ?_
       refine p_applyRC rfl ?_
       refine wLd rfl tyint 1 rfl rfl ?_
       refine wC (l := [.agg (rbA u.c u.is u.index (.slice la u.live.length lc) (.slice da u.done.length dc) u.modes), .int .i64 ch.car, .int .i64 ch.mode]) Try.func27 rfl (by kernel_rfl) (fun wc H => setRC u la lc da dc ch.car ch.mode wc (hp_held H (by (repeat (first | exact List.Mem.head _ | apply List.Mem.tail)))) (hp_held H (by (repeat (first | exact List.Mem.head _ | apply List.Mem.tail)))) hu) rfl rfl rfl rfl ?_
       intro wc H
       rintro er wd ⟨la6_5, lc6_5, da6_5, dc6_5, rfl, hg⟩
       have H2 := hp_gotB H hg.2.2.2.2 hg.1 hg.2.1 (by decide) (by decide) hg.2.2.1 hg.2.2.2.1 (List.forall_mem_cons.2 ⟨(by (repeat (first | exact List.Mem.head _ | apply List.Mem.tail))), List.forall_mem_cons.2 ⟨(by (repeat (first | exact List.Mem.head _ | apply List.Mem.tail))), fun _ h => by cases h⟩⟩)
       replace H2 := hp_fact H2 (p := From w [rS la lc 8 (u.live.map callRow), rS da dc 8 (u.done.map callRow)] (rS la6_5 lc6_5 8 (((setR u ch.car ch.mode).1).live.map callRow)).foot) (from_trans hg.2.2.1 H.out.off (List.forall_mem_cons.2 ⟨(From.same rfl _ (by (repeat (first | exact List.Mem.head _ | apply List.Mem.tail)))), List.forall_mem_cons.2 ⟨(From.same rfl _ (by (repeat (first | exact List.Mem.head _ | apply List.Mem.tail)))), fun _ h => by cases h⟩⟩))
       replace H2 := hp_fact H2 (p := From w [rS la lc 8 (u.live.map callRow), rS da dc 8 (u.done.map callRow)] (rS da6_5 dc6_5 8 (((setR u ch.car ch.mode).1).done.map callRow)).foot) (from_trans hg.2.2.2.1 H.out.off (List.forall_mem_cons.2 ⟨(From.same rfl _ (by (repeat (first | exact List.Mem.head _ | apply List.Mem.tail)))), List.forall_mem_cons.2 ⟨(From.same rfl _ (by (repeat (first | exact List.Mem.head _ | apply List.Mem.tail)))), fun _ h => by cases h⟩⟩))
       refine ⟨_, rfl, wkAt H2 ?_⟩
       clear H H2
       iterate 4 refine p_applyRC rfl ?_
       refine wAl rfl rfl tyhoistwayref09_Book fun b6 => ?_
       refine wAl rfl rfl tyapi_Change fun b7 => ?_
       refine wSr rfl tyhoistwayref09_Book 1 rfl rfl rfl rfl (rbL (((setR u ch.car ch.mode).1).c) (((setR u ch.car ch.mode).1).is) (((setR u ch.car ch.mode).1).index) (.slice la6_5 (((setR u ch.car ch.mode).1).live.length) lc6_5) (.slice da6_5 (((setR u ch.car ch.mode).1).done.length) dc6_5) (((setR u ch.car ch.mode).1).modes)) (by first | rfl | (simp only [spl]; rfl)) ?_
       refine wSr rfl tyapi_Change 0 rfl rfl rfl rfl (chL ((setR u ch.car ch.mode).2.1)) (by first | rfl | (simp only [spl]; rfl)) ?_
       refine p_applyRC rfl ?_
       refine wN ?_
       refine tN (wKK hK10 ?_)
       refine wSeqK fun KK11 hK11 => ?_
       refine wReg ?_
       refine wLr rfl tyhoistwayref09_Book 1 rfl (rbL (((setR u ch.car ch.mode).1).c) (((setR u ch.car ch.mode).1).is) (((setR u ch.car ch.mode).1).index) (.slice la6_5 (((setR u ch.car ch.mode).1).live.length) lc6_5) (.slice da6_5 (((setR u ch.car ch.mode).1).done.length) dc6_5) (((setR u ch.car ch.mode).1).modes)) rfl rfl ?_
       refine p_applyRC rfl ?_
       refine wSr rfl tyhoistwayref09_Book 6 rfl rfl rfl rfl (rbL (((setR u ch.car ch.mode).1).c) (((setR u ch.car ch.mode).1).is) (((setR u ch.car ch.mode).1).index) (.slice la6_5 (((setR u ch.car ch.mode).1).live.length) lc6_5) (.slice da6_5 (((setR u ch.car ch.mode).1).done.length) dc6_5) (((setR u ch.car ch.mode).1).modes)) (by first | rfl | (simp only [spl]; rfl)) ?_
       refine p_applyRC rfl ?_
       refine wN ?_
       refine tN (wKK hK11 ?_)
       refine wRet ?_
       refine tR ?_
       exact wRct tyhoistwayref09_Book rfl rfl rfl 6 rfl rfl (fun ww H => (by simp only [applyR, z1, z1n, z3, z3l, z3r, z3ro, z4, cond_true, cond_false, Bool.not_true, Bool.not_false, Bool.true_and, Bool.and_true, Bool.false_and, Bool.and_false, Bool.true_or, Bool.or_true, Bool.false_or, Bool.or_false]; exact ⟨la6_5, lc6_5, da6_5, dc6_5, rfl, (hp_held H (by (repeat (first | exact List.Mem.head _ | apply List.Mem.tail)))), (hp_held H (by (repeat (first | exact List.Mem.head _ | apply List.Mem.tail)))), (hp_told H (by (repeat (first | exact List.Mem.head _ | apply List.Mem.tail)))), (hp_told H (by (repeat (first | exact List.Mem.head _ | apply List.Mem.tail)))), H.out.off⟩))
     · skip
       refine wSk ?_
       refine tN (wKK hK8 ?_)
       refine wSeqK fun KK12 hK12 => ?_
       refine wSeqK fun KK13 hK13 => ?_
       refine wReg ?_
       refine p_applyRC rfl ?_
       refine wLd rfl tyint 1 rfl rfl ?_
       iterate 2 refine p_applyRC rfl ?_
       refine wCut 4 [(57, .bool ((ch.car != 0) || (ch.mode != 0))), (0, .agg (rbA u.c u.is u.index (.slice la u.live.length lc) (.slice da u.done.length dc) u.modes)), (1, .agg (chA ch)), (2, .pointer (some ⟨b2, 0, none⟩)), (3, .pointer (some ⟨b3, 0, none⟩)), (4, .pointer (some ⟨b4, 0, none⟩)), (5, .int .i64 0), (20, .bool (!u.is)), (32, .bool ((decide (ch.index < 1)) || ((IntKind.i64.wrap (ch.index - 1)) != u.index))), (37, .bool (decide (ch.call = (⟨0, 0, 0, 0, 0, 0, 0, 0⟩ : CallV))))] ?_ ?_
       · intro KK hKK
         rcases Bool.eq_false_or_eq_true (ch.car != 0) with u5 | u5
         · skip
           refine wB (c := true) 53 rfl u5 ?_
           iterate 3 refine p_applyRC rfl ?_
           refine p_applyRC rfl ?_
           refine wB (c := (ch.car != 0) || (ch.mode != 0)) 57 rfl (by rw [u5]; rfl) ?_
           refine wN (tN ?_)
           exact fun aa ww nn dd hs H => hKK aa ww nn dd (sat_sub ⟨rfl, rfl, rfl, rfl, rfl, rfl, rfl, rfl, rfl, rfl, trivial⟩ hs) H
         · skip
           refine wB (c := false) 53 rfl u5 ?_
           refine p_applyRC rfl ?_
           refine wLd rfl tyint 1 rfl rfl ?_
           refine p_applyRC rfl ?_
           refine p_applyRC rfl ?_
           refine wB (c := (ch.car != 0) || (ch.mode != 0)) 57 rfl (by rw [u5]; rfl) ?_
           refine wN (tN ?_)
           exact fun aa ww nn dd hs H => hKK aa ww nn dd (sat_sub ⟨rfl, rfl, rfl, rfl, rfl, rfl, rfl, rfl, rfl, rfl, trivial⟩ hs) H
       refine wN ?_
       refine tN (wKK hK13 ?_)
       refine wCond (E := (ch.car != 0) || (ch.mode != 0)) rfl (fun z6 => ?_) (fun z6 => ?_)
       · skip
         refine wSeqK fun KK14 hK14 => ?_
         refine wReg ?_
         refine wE (.agg (rbA zeroF false 0 (.slice none 0 0) (.slice none 0 0) ([0, 0, 0, 0]))) rfl rfl rfl (fun aa ww hs _ => by simp only [execOp]; go_simp <;> first | rfl | omega) ?_
         refine wSr rfl tyhoistwayref09_Book 0 rfl rfl rfl rfl (rbL zeroF false 0 (.slice none 0 0) (.slice none 0 0) ([0, 0, 0, 0])) (by first | rfl | (simp only [spl]; rfl)) ?_
         refine p_applyRC rfl ?_
         refine wN ?_
         refine tN (wKK hK14 ?_)
         refine wRet ?_
         refine tR ?_
         exact wRct tyhoistwayref09_Book rfl rfl rfl 0 rfl rfl (fun ww H => (by simp only [applyR, z1, z1n, z3, z3l, z3r, z3ro, z4, z6, cond_true, cond_false, Bool.not_true, Bool.not_false, Bool.true_and, Bool.and_true, Bool.false_and, Bool.and_false, Bool.true_or, Bool.or_true, Bool.false_or, Bool.or_false]; exact ⟨none, 0, none, 0, rfl, (rS_nil _ _), (rS_nil _ _), (From.none _ _ _ _ _), (From.none _ _ _ _ _), H.out.off⟩))
       · skip
         have z6l : (ch.car != 0) = false := Reg.ol z6
         have z6lo : (ch.car == 0) = true := neq_f z6l
         have z6r : (ch.mode != 0) = false := Reg.orr z6
         have z6ro : (ch.mode == 0) = true := neq_f z6r
         refine wSk ?_
         refine tN (wKK hK12 ?_)
         refine wSeqK fun KK15 hK15 => ?_
         refine wReg ?_
         refine p_applyRC rfl ?_
         refine wLr rfl tyapi_Call 1 rfl (xL ch.call) rfl rfl ?_
         refine wAl rfl rfl tyapi_Call fun b9 => ?_
         refine wSr rfl tyapi_Call 0 rfl rfl rfl rfl (xL ch.call) (by first | rfl | (simp only [spl]; rfl)) ?_
         refine wN ?_
         refine tN (wKK hK15 ?_)
         refine wSeqK fun KK16 hK16 => ?_
         refine wSeqK fun KK17 hK17 => ?_
         refine wReg ?_
         refine p_applyRC rfl ?_
         refine wN ?_
         refine tN (wKK hK17 ?_)
         refine wBlk ?_
         refine wLoop (fun ab wv => ∃ i : Nat, (i ≤ u.live.length) ∧ (Hid (∀ k, k < i → ∀ y, u.live[k]? = some y → (y.id == ch.call.id) = false)) ∧ ab.tmps.size = 153 ∧ ab.defers = [] ∧ Sat [(0, .agg (rbA u.c u.is u.index (.slice la u.live.length lc) (.slice da u.done.length dc) u.modes)), (1, .agg (chA ch)), (2, .pointer (some ⟨b2, 0, none⟩)), (3, .pointer (some ⟨b3, 0, none⟩)), (4, .pointer (some ⟨b4, 0, none⟩)), (9, .pointer (some ⟨b9, 0, none⟩)), (10, .int .i64 i), (20, .bool (!u.is)), (32, .bool ((decide (ch.index < 1)) || ((IntKind.i64.wrap (ch.index - 1)) != u.index))), (37, .bool (decide (ch.call = (⟨0, 0, 0, 0, 0, 0, 0, 0⟩ : CallV)))), (57, .bool ((ch.car != 0) || (ch.mode != 0)))] ab ∧ Hid (Hp [] w wv [rB b9 38 (xL ch.call), rB b4 61 (rbL zeroF false 0 (.slice none 0 0) (.slice none 0 0) ([0, 0, 0, 0])), rB b3 40 (chL ch), rB b2 61 (rbL u.c u.is u.index (.slice la u.live.length lc) (.slice da u.done.length dc) u.modes), rS da dc 8 (u.done.map callRow), rS la lc 8 (u.live.map callRow)])) (fun ab _ => u.live.length - (intOf (ab.eval (.tmp 10))).toNat) (fun aa ww nn dd hs H => ⟨0, (Nat.zero_le _), (Lib.hid (fun k hk => absurd hk (by omega))), nn, dd, (sat_sub ⟨rfl, rfl, rfl, rfl, rfl, rfl, rfl, rfl, rfl, rfl, rfl, trivial⟩ hs), H⟩) ?_
         rintro a1 wv ⟨i, hi, hn, nn, dd, hs, H⟩
         have mu1_10 := hs 10 _ rfl
         refine wIn nn dd hs H ?_
         clear nn dd hs H
         refine wSeqK fun KK18 hK18 => ?_
         refine wSeqK fun KK19 hK19 => ?_
         refine wReg ?_
         iterate 2 refine p_applyRC rfl ?_
         refine wLd rfl tyS_api_Call 3 rfl rfl ?_
         refine wE (.int .i64 u.live.length) rfl rfl rfl (fun aa ww hs _ => by have e63 := hs 63 _ rfl; have g63 := gt_of e63; simp only [execOp]; go_simp <;> first | rfl | omega) ?_
         refine p_applyRC rfl ?_
         refine wB (c := decide (i < u.live.length)) 65 rfl (by simp) ?_
         refine wN ?_
         refine tN (wKK hK19 ?_)
         refine wCond (E := decide (i < u.live.length)) rfl (fun z7 => ?_) (fun z7 => ?_)
         · skip
           have z7d : i < u.live.length := of_decide_eq_true z7
           intro aa ww nn dd hs H
           obtain ⟨yz, rfl⟩ := some_of_row (hp_held H (show rS la lc 8 (u.live.map callRow) ∈ _ by simp)) (i := i) (by simp; omega)
           obtain ⟨z, hz⟩ : ∃ z, u.live[i]? = some z := ⟨u.live[i], List.getElem?_eq_getElem (by omega)⟩
           have HRz := Lib.hid (show (u.live.map callRow)[i]? = some [.int .i64 z.id, .int .i64 z.kind, .int .i64 z.src, .int .i64 z.dst, .int .i64 z.car, .int .i64 z.state, .int .i64 z.owner, .int .i64 z.born] by rw [List.getElem?_map, hz]; rfl)
           have HXz := Lib.hid hz
           clear hz
           refine wIn nn dd hs H ?_
           refine wSk ?_
           refine tN (wKK hK18 ?_)
           refine wSeqK fun KK20 hK20 => ?_
           refine wBlk ?_
           refine wSeqK fun KK21 hK21 => ?_
           intro aa ww nn dd hs H
           refine applyRC_r14 u lc da dc ch hul hud hui huc b2 b3 b4 z3ld b9 i hi z7d yz z HRz H aa nn (hs 2 _ rfl) (hs 9 _ rfl) (hs 10 _ rfl) ?_
           intro ab wv nn2 dd2 kp o76 H2
           refine wIn nn2 (dd2.trans dd) (Sat.cons (Sat.cons (Sat.cons (Sat.cons (Sat.cons (Sat.cons (Sat.cons (Sat.cons (Sat.cons (Sat.cons (Sat.cons (Sat.cons (Sat.cons (sat_nil ab) ((kp 65 rfl).trans (hs 65 _ rfl))) ((kp 57 rfl).trans (hs 57 _ rfl))) ((kp 37 rfl).trans (hs 37 _ rfl))) ((kp 32 rfl).trans (hs 32 _ rfl))) ((kp 20 rfl).trans (hs 20 _ rfl))) ((kp 10 rfl).trans (hs 10 _ rfl))) ((kp 9 rfl).trans (hs 9 _ rfl))) ((kp 4 rfl).trans (hs 4 _ rfl))) ((kp 3 rfl).trans (hs 3 _ rfl))) ((kp 2 rfl).trans (hs 2 _ rfl))) ((kp 1 rfl).trans (hs 1 _ rfl))) ((kp 0 rfl).trans (hs 0 _ rfl))) o76) H2 ?_
           clear hs H kp H2 dd dd2 nn nn2 o76
           refine tN (wKK hK21 ?_)
           refine wCond (E := z.id == ch.call.id) rfl (fun z8 => ?_) (fun z8 => ?_)
           · skip
             have z8o : (z.id != ch.call.id) = false := eqq_t z8
             refine wSeqK fun KK22 hK22 => ?_
             refine wSeqK fun KK23 hK23 => ?_
             intro aa ww nn dd hs H
             refine applyRC_r15 u lc da dc ch hul hud hui huc b2 b3 b4 z3ld b9 i hi z7d yz z HRz H aa nn (hs 2 _ rfl) (hs 9 _ rfl) (hs 10 _ rfl) ?_
             intro ab wv nn2 dd2 kp o86 H2
             refine wIn nn2 (dd2.trans dd) (Sat.cons (Sat.cons (Sat.cons (Sat.cons (Sat.cons (Sat.cons (Sat.cons (Sat.cons (Sat.cons (Sat.cons (Sat.cons (Sat.cons (Sat.cons (Sat.cons (sat_nil ab) ((kp 76 rfl).trans (hs 76 _ rfl))) ((kp 65 rfl).trans (hs 65 _ rfl))) ((kp 57 rfl).trans (hs 57 _ rfl))) ((kp 37 rfl).trans (hs 37 _ rfl))) ((kp 32 rfl).trans (hs 32 _ rfl))) ((kp 20 rfl).trans (hs 20 _ rfl))) ((kp 10 rfl).trans (hs 10 _ rfl))) ((kp 9 rfl).trans (hs 9 _ rfl))) ((kp 4 rfl).trans (hs 4 _ rfl))) ((kp 3 rfl).trans (hs 3 _ rfl))) ((kp 2 rfl).trans (hs 2 _ rfl))) ((kp 1 rfl).trans (hs 1 _ rfl))) ((kp 0 rfl).trans (hs 0 _ rfl))) o86) H2 ?_
             clear hs H kp H2 dd dd2 nn nn2 o86
             refine tN (wKK hK23 ?_)
             refine wCond (E := !(mayV u.c z ch.call)) rfl (fun z9 => ?_) (fun z9 => ?_)
             · skip
               have z9n : (mayV u.c z ch.call) = false := Reg.bn z9
               refine wSeqK fun KK24 hK24 => ?_
               refine wReg ?_
               refine wE (.agg (rbA zeroF false 0 (.slice none 0 0) (.slice none 0 0) ([0, 0, 0, 0]))) rfl rfl rfl (fun aa ww hs _ => by simp only [execOp]; go_simp <;> first | rfl | omega) ?_
               refine wSr rfl tyhoistwayref09_Book 1 rfl rfl rfl rfl (rbL zeroF false 0 (.slice none 0 0) (.slice none 0 0) ([0, 0, 0, 0])) (by first | rfl | (simp only [spl]; rfl)) ?_
               refine p_applyRC rfl ?_
               refine wN ?_
               refine tN (wKK hK24 ?_)
               refine wRet ?_
               refine tR (bR (tR (tR (bR (tR ?_)))))
               exact wRct tyhoistwayref09_Book rfl rfl rfl 1 rfl rfl (fun ww H => (by simp only [applyR, z1, z1n, z3, z3l, z3r, z3ro, z4, z6, z6l, z6lo, z6r, z6ro, z7, z8, z8o, z9, z9n, cond_true, cond_false, Bool.not_true, Bool.not_false, Bool.true_and, Bool.and_true, Bool.false_and, Bool.and_false, Bool.true_or, Bool.or_true, Bool.false_or, Bool.or_false, fd_stop hn.out HXz.out z8]; exact ⟨none, 0, none, 0, rfl, (rS_nil _ _), (rS_nil _ _), (From.none _ _ _ _ _), (From.none _ _ _ _ _), H.out.off⟩))
             · skip
               have z9n : (mayV u.c z ch.call) = true := Reg.bt z9
               refine wSk ?_
               refine tN (wKK hK22 ?_)
               refine wSeqK fun KK25 hK25 => ?_
               refine wReg ?_
               refine wLr rfl tyhoistwayref09_Book 3 rfl (rbL u.c u.is u.index (.slice (some yz) u.live.length lc) (.slice da u.done.length dc) u.modes) rfl rfl ?_
               refine wLr rfl tyapi_Call 0 rfl (xL ch.call) rfl rfl ?_
               refine wC (l := [.agg (rbA u.c u.is u.index (.slice (some yz) u.live.length lc) (.slice da u.done.length dc) u.modes), .agg (xA ch.call)]) Try.func58 rfl (by kernel_rfl) (fun wc H => nextRC u (some yz) lc da dc ch.call wc (hp_held H (by (repeat (first | exact List.Mem.head _ | apply List.Mem.tail)))) (hp_held H (by (repeat (first | exact List.Mem.head _ | apply List.Mem.tail)))) hu) rfl rfl rfl rfl ?_
               intro wc H
               rintro er wd ⟨la17_2, lc17_2, da17_2, dc17_2, rfl, hg⟩
               have H2 := hp_gotB H hg.2.2.2.2 hg.1 hg.2.1 (by decide) (by decide) hg.2.2.1 hg.2.2.2.1 (List.forall_mem_cons.2 ⟨(by (repeat (first | exact List.Mem.head _ | apply List.Mem.tail))), List.forall_mem_cons.2 ⟨(by (repeat (first | exact List.Mem.head _ | apply List.Mem.tail))), fun _ h => by cases h⟩⟩)
               replace H2 := hp_fact H2 (p := From w [rS (some yz) lc 8 (u.live.map callRow), rS da dc 8 (u.done.map callRow)] (rS la17_2 lc17_2 8 (((nextR u ch.call).1).live.map callRow)).foot) (from_trans hg.2.2.1 H.out.off (List.forall_mem_cons.2 ⟨(From.same rfl _ (by (repeat (first | exact List.Mem.head _ | apply List.Mem.tail)))), List.forall_mem_cons.2 ⟨(From.same rfl _ (by (repeat (first | exact List.Mem.head _ | apply List.Mem.tail)))), fun _ h => by cases h⟩⟩))
               replace H2 := hp_fact H2 (p := From w [rS (some yz) lc 8 (u.live.map callRow), rS da dc 8 (u.done.map callRow)] (rS da17_2 dc17_2 8 (((nextR u ch.call).1).done.map callRow)).foot) (from_trans hg.2.2.2.1 H.out.off (List.forall_mem_cons.2 ⟨(From.same rfl _ (by (repeat (first | exact List.Mem.head _ | apply List.Mem.tail)))), List.forall_mem_cons.2 ⟨(From.same rfl _ (by (repeat (first | exact List.Mem.head _ | apply List.Mem.tail)))), fun _ h => by cases h⟩⟩))
               refine ⟨_, rfl, wkAt H2 ?_⟩
               clear H H2
               iterate 4 refine p_applyRC rfl ?_
               refine wAl rfl rfl tyhoistwayref09_Book fun b11 => ?_
               refine wAl rfl rfl tyapi_Change fun b12 => ?_
               refine wSr rfl tyhoistwayref09_Book 1 rfl rfl rfl rfl (rbL (((nextR u ch.call).1).c) (((nextR u ch.call).1).is) (((nextR u ch.call).1).index) (.slice la17_2 (((nextR u ch.call).1).live.length) lc17_2) (.slice da17_2 (((nextR u ch.call).1).done.length) dc17_2) (((nextR u ch.call).1).modes)) (by first | rfl | (simp only [spl]; rfl)) ?_
               refine wSr rfl tyapi_Change 0 rfl rfl rfl rfl (chL ((nextR u ch.call).2.1)) (by first | rfl | (simp only [spl]; rfl)) ?_
               refine p_applyRC rfl ?_
               refine wN ?_
               refine tN (wKK hK25 ?_)
               refine wSeqK fun KK26 hK26 => ?_
               refine wReg ?_
               refine wLr rfl tyhoistwayref09_Book 1 rfl (rbL (((nextR u ch.call).1).c) (((nextR u ch.call).1).is) (((nextR u ch.call).1).index) (.slice la17_2 (((nextR u ch.call).1).live.length) lc17_2) (.slice da17_2 (((nextR u ch.call).1).done.length) dc17_2) (((nextR u ch.call).1).modes)) rfl rfl ?_
               refine p_applyRC rfl ?_
               refine wSr rfl tyhoistwayref09_Book 7 rfl rfl rfl rfl (rbL (((nextR u ch.call).1).c) (((nextR u ch.call).1).is) (((nextR u ch.call).1).index) (.slice la17_2 (((nextR u ch.call).1).live.length) lc17_2) (.slice da17_2 (((nextR u ch.call).1).done.length) dc17_2) (((nextR u ch.call).1).modes)) (by first | rfl | (simp only [spl]; rfl)) ?_
               refine p_applyRC rfl ?_
               refine wN ?_
               refine tN (wKK hK26 ?_)
               refine wRet ?_
               refine bR (tR (tR (bR (tR ?_))))
               exact wRct tyhoistwayref09_Book rfl rfl rfl 7 rfl rfl (fun ww H => (by simp only [applyR, z1, z1n, z3, z3l, z3r, z3ro, z4, z6, z6l, z6lo, z6r, z6ro, z7, z8, z8o, z9, z9n, cond_true, cond_false, Bool.not_true, Bool.not_false, Bool.true_and, Bool.and_true, Bool.false_and, Bool.and_false, Bool.true_or, Bool.or_true, Bool.false_or, Bool.or_false, fd_stop hn.out HXz.out z8]; exact ⟨la17_2, lc17_2, da17_2, dc17_2, rfl, (hp_held H (by (repeat (first | exact List.Mem.head _ | apply List.Mem.tail)))), (hp_held H (by (repeat (first | exact List.Mem.head _ | apply List.Mem.tail)))), (hp_told H (by (repeat (first | exact List.Mem.head _ | apply List.Mem.tail)))), (hp_told H (by (repeat (first | exact List.Mem.head _ | apply List.Mem.tail)))), H.out.off⟩))
           · skip
             have z8o : (z.id != ch.call.id) = true := eqq_f z8
             refine wSk ?_
             refine bN (tN (wKK hK20 ?_))
             refine wReg ?_
             iterate 2 refine p_applyRC rfl ?_
             refine wI 67 rfl (IntWalk.i64_in _ (by omega)) ?_
             refine p_applyRC rfl ?_
             refine wN ?_
             refine tN ?_
             intro aa ww nn dd hs H
             refine ⟨⟨i + 1, (by omega), (Lib.hid (idx_next hn.out HXz.out z8)), nn, dd, (sat_sub ⟨rfl, rfl, rfl, rfl, rfl, rfl, rfl, rfl, rfl, rfl, rfl, trivial⟩ hs), (Lib.hid (H.out.sub (by repeat (first | exact List.Sublist.refl _ | apply List.Sublist.cons₂ | apply List.Sublist.cons))))⟩, ?_⟩
             have m10 := hs 10 _ rfl
             simp only [mu1_10, m10, intOf]
             omega
         · skip
           have z7d : ¬ (i < u.live.length) := of_decide_eq_false z7
           refine wEx ?_
           refine tX (tX (bX (tN (wKK hK16 ?_))))
           refine wSeqK fun KK27 hK27 => ?_
           refine wReg ?_
           refine p_applyRC rfl ?_
           refine wLd rfl tyint 0 rfl rfl ?_
           refine p_applyRC rfl ?_
           refine wLd rfl tyint 0 rfl rfl ?_
           refine p_applyRC rfl ?_
           refine wLd rfl tyint 0 rfl rfl ?_
           refine p_applyRC rfl ?_
           refine wLd rfl tyint 0 rfl rfl ?_
           refine wE (.agg #[.int .i64 0, .int .i64 ch.call.kind, .int .i64 ch.call.src, .int .i64 ch.call.dst, .int .i64 ch.call.car, .int .i64 0, .int .i64 0, .int .i64 0]) rfl rfl rfl (fun aa ww hs _ => by have e98 := hs 98 _ rfl; have g98 := gt_of e98; have e100 := hs 100 _ rfl; have g100 := gt_of e100; have e102 := hs 102 _ rfl; have g102 := gt_of e102; have e104 := hs 104 _ rfl; have g104 := gt_of e104; simp only [execOp]; go_simp <;> first | rfl | omega) ?_
           refine wAl rfl rfl tyapi_Call fun b14 => ?_
           refine wSr rfl tyapi_Call 0 rfl rfl rfl rfl [.int .i64 0, .int .i64 ch.call.kind, .int .i64 ch.call.src, .int .i64 ch.call.dst, .int .i64 ch.call.car, .int .i64 0, .int .i64 0, .int .i64 0] (by first | rfl | (simp only [spl]; rfl)) ?_
           refine wN ?_
           refine tN (wKK hK27 ?_)
           refine wSeqK fun KK28 hK28 => ?_
           refine wSeqK fun KK29 hK29 => ?_
           refine wReg ?_
           refine p_applyRC rfl ?_
           refine wLd rfl tyint 1 rfl rfl ?_
           refine p_applyRC rfl ?_
           refine wLd rfl tyint 3 rfl rfl ?_
           iterate 2 refine p_applyRC rfl ?_
           refine wCut 4 [(115, .bool ((ch.call.id != ch.index) || (ch.call.state != 1))), (0, .agg (rbA u.c u.is u.index (.slice la u.live.length lc) (.slice da u.done.length dc) u.modes)), (1, .agg (chA ch)), (2, .pointer (some ⟨b2, 0, none⟩)), (3, .pointer (some ⟨b3, 0, none⟩)), (4, .pointer (some ⟨b4, 0, none⟩)), (9, .pointer (some ⟨b9, 0, none⟩)), (10, .int .i64 i), (14, .pointer (some ⟨b14, 0, none⟩)), (20, .bool (!u.is)), (32, .bool ((decide (ch.index < 1)) || ((IntKind.i64.wrap (ch.index - 1)) != u.index))), (37, .bool (decide (ch.call = (⟨0, 0, 0, 0, 0, 0, 0, 0⟩ : CallV)))), (57, .bool ((ch.car != 0) || (ch.mode != 0))), (65, .bool (decide (i < u.live.length)))] ?_ ?_
           · intro KK hKK
             rcases Bool.eq_false_or_eq_true (ch.call.id != ch.index) with u10 | u10
             · skip
               refine wB (c := true) 111 rfl u10 ?_
               iterate 3 refine p_applyRC rfl ?_
               refine p_applyRC rfl ?_
               refine wB (c := (ch.call.id != ch.index) || (ch.call.state != 1)) 115 rfl (by rw [u10]; rfl) ?_
               refine wN (tN ?_)
               exact fun aa ww nn dd hs H => hKK aa ww nn dd (sat_sub ⟨rfl, rfl, rfl, rfl, rfl, rfl, rfl, rfl, rfl, rfl, rfl, rfl, rfl, rfl, trivial⟩ hs) H
             · skip
               refine wB (c := false) 111 rfl u10 ?_
               refine p_applyRC rfl ?_
               refine wLd rfl tyint 1 rfl rfl ?_
               refine p_applyRC rfl ?_
               refine p_applyRC rfl ?_
               refine wB (c := (ch.call.id != ch.index) || (ch.call.state != 1)) 115 rfl (by rw [u10]; rfl) ?_
               refine wN (tN ?_)
               exact fun aa ww nn dd hs H => hKK aa ww nn dd (sat_sub ⟨rfl, rfl, rfl, rfl, rfl, rfl, rfl, rfl, rfl, rfl, rfl, rfl, rfl, rfl, trivial⟩ hs) H
           refine p_applyRC rfl ?_
           refine wCut 6 [(122, .bool (((ch.call.id != ch.index) || (ch.call.state != 1)) || ((checkCallV u.c (⟨0, ch.call.kind, ch.call.src, ch.call.dst, ch.call.car, 0, 0, 0⟩ : CallV)) != 0))), (0, .agg (rbA u.c u.is u.index (.slice la u.live.length lc) (.slice da u.done.length dc) u.modes)), (1, .agg (chA ch)), (2, .pointer (some ⟨b2, 0, none⟩)), (3, .pointer (some ⟨b3, 0, none⟩)), (4, .pointer (some ⟨b4, 0, none⟩)), (9, .pointer (some ⟨b9, 0, none⟩)), (10, .int .i64 i), (14, .pointer (some ⟨b14, 0, none⟩)), (20, .bool (!u.is)), (32, .bool ((decide (ch.index < 1)) || ((IntKind.i64.wrap (ch.index - 1)) != u.index))), (37, .bool (decide (ch.call = (⟨0, 0, 0, 0, 0, 0, 0, 0⟩ : CallV)))), (57, .bool ((ch.car != 0) || (ch.mode != 0))), (65, .bool (decide (i < u.live.length)))] ?_ ?_
           · intro KK hKK
             rcases Bool.eq_false_or_eq_true ((ch.call.id != ch.index) || (ch.call.state != 1)) with u11 | u11
             · skip
               refine wB (c := true) 116 rfl u11 ?_
               iterate 5 refine p_applyRC rfl ?_
               refine p_applyRC rfl ?_
               refine wB (c := ((ch.call.id != ch.index) || (ch.call.state != 1)) || ((checkCallV u.c (⟨0, ch.call.kind, ch.call.src, ch.call.dst, ch.call.car, 0, 0, 0⟩ : CallV)) != 0)) 122 rfl (by rw [u11]; rfl) ?_
               refine wN (tN ?_)
               exact fun aa ww nn dd hs H => hKK aa ww nn dd (sat_sub ⟨rfl, rfl, rfl, rfl, rfl, rfl, rfl, rfl, rfl, rfl, rfl, rfl, rfl, rfl, trivial⟩ hs) H
             · skip
               refine wB (c := false) 116 rfl u11 ?_
               refine p_applyRC rfl ?_
               refine wLr rfl tyapi_Config 4 rfl (cL u.c) rfl rfl ?_
               refine wLr rfl tyapi_Call 0 rfl [.int .i64 0, .int .i64 ch.call.kind, .int .i64 ch.call.src, .int .i64 ch.call.dst, .int .i64 ch.call.car, .int .i64 0, .int .i64 0, .int .i64 0] rfl rfl ?_
               refine wQ (l := [.agg (cA u.c), .agg #[.int .i64 0, .int .i64 ch.call.kind, .int .i64 ch.call.src, .int .i64 ch.call.dst, .int .i64 ch.call.car, .int .i64 0, .int .i64 0, .int .i64 0]]) Try.func57 rfl (by kernel_rfl) (.int .i64 (checkCallV u.c (⟨0, ch.call.kind, ch.call.src, ch.call.dst, ch.call.car, 0, 0, 0⟩ : CallV))) (fun wc H => checkR u.c (⟨0, ch.call.kind, ch.call.src, ch.call.dst, ch.call.car, 0, 0, 0⟩ : CallV) wc) rfl rfl rfl rfl ?_
               refine p_applyRC rfl ?_
               refine p_applyRC rfl ?_
               refine wB (c := ((ch.call.id != ch.index) || (ch.call.state != 1)) || ((checkCallV u.c (⟨0, ch.call.kind, ch.call.src, ch.call.dst, ch.call.car, 0, 0, 0⟩ : CallV)) != 0)) 122 rfl (by rw [u11]; rfl) ?_
               refine wN (tN ?_)
               exact fun aa ww nn dd hs H => hKK aa ww nn dd (sat_sub ⟨rfl, rfl, rfl, rfl, rfl, rfl, rfl, rfl, rfl, rfl, rfl, rfl, rfl, rfl, trivial⟩ hs) H
           refine p_applyRC rfl ?_
           refine wCut 4 [(127, .bool ((((ch.call.id != ch.index) || (ch.call.state != 1)) || ((checkCallV u.c (⟨0, ch.call.kind, ch.call.src, ch.call.dst, ch.call.car, 0, 0, 0⟩ : CallV)) != 0)) || (decide (ch.call.owner < 1)))), (0, .agg (rbA u.c u.is u.index (.slice la u.live.length lc) (.slice da u.done.length dc) u.modes)), (1, .agg (chA ch)), (2, .pointer (some ⟨b2, 0, none⟩)), (3, .pointer (some ⟨b3, 0, none⟩)), (4, .pointer (some ⟨b4, 0, none⟩)), (9, .pointer (some ⟨b9, 0, none⟩)), (10, .int .i64 i), (14, .pointer (some ⟨b14, 0, none⟩)), (20, .bool (!u.is)), (32, .bool ((decide (ch.index < 1)) || ((IntKind.i64.wrap (ch.index - 1)) != u.index))), (37, .bool (decide (ch.call = (⟨0, 0, 0, 0, 0, 0, 0, 0⟩ : CallV)))), (57, .bool ((ch.car != 0) || (ch.mode != 0))), (65, .bool (decide (i < u.live.length)))] ?_ ?_
           · intro KK hKK
             rcases Bool.eq_false_or_eq_true (((ch.call.id != ch.index) || (ch.call.state != 1)) || ((checkCallV u.c (⟨0, ch.call.kind, ch.call.src, ch.call.dst, ch.call.car, 0, 0, 0⟩ : CallV)) != 0)) with u12 | u12
             · skip
               refine wB (c := true) 123 rfl u12 ?_
               iterate 3 refine p_applyRC rfl ?_
               refine p_applyRC rfl ?_
               refine wB (c := (((ch.call.id != ch.index) || (ch.call.state != 1)) || ((checkCallV u.c (⟨0, ch.call.kind, ch.call.src, ch.call.dst, ch.call.car, 0, 0, 0⟩ : CallV)) != 0)) || (decide (ch.call.owner < 1))) 127 rfl (by rw [u12]; rfl) ?_
               refine wN (tN ?_)
               exact fun aa ww nn dd hs H => hKK aa ww nn dd (sat_sub ⟨rfl, rfl, rfl, rfl, rfl, rfl, rfl, rfl, rfl, rfl, rfl, rfl, rfl, rfl, trivial⟩ hs) H
             · skip
               refine wB (c := false) 123 rfl u12 ?_
               refine p_applyRC rfl ?_
               refine wLd rfl tyint 1 rfl rfl ?_
               refine p_applyRC rfl ?_
               refine p_applyRC rfl ?_
               refine wB (c := (((ch.call.id != ch.index) || (ch.call.state != 1)) || ((checkCallV u.c (⟨0, ch.call.kind, ch.call.src, ch.call.dst, ch.call.car, 0, 0, 0⟩ : CallV)) != 0)) || (decide (ch.call.owner < 1))) 127 rfl (by rw [u12]; rfl) ?_
               refine wN (tN ?_)
               exact fun aa ww nn dd hs H => hKK aa ww nn dd (sat_sub ⟨rfl, rfl, rfl, rfl, rfl, rfl, rfl, rfl, rfl, rfl, rfl, rfl, rfl, rfl, trivial⟩ hs) H
           refine p_applyRC rfl ?_
           refine wCut 4 [(132, .bool (((((ch.call.id != ch.index) || (ch.call.state != 1)) || ((checkCallV u.c (⟨0, ch.call.kind, ch.call.src, ch.call.dst, ch.call.car, 0, 0, 0⟩ : CallV)) != 0)) || (decide (ch.call.owner < 1))) || (decide (1073741824 < ch.call.owner)))), (0, .agg (rbA u.c u.is u.index (.slice la u.live.length lc) (.slice da u.done.length dc) u.modes)), (1, .agg (chA ch)), (2, .pointer (some ⟨b2, 0, none⟩)), (3, .pointer (some ⟨b3, 0, none⟩)), (4, .pointer (some ⟨b4, 0, none⟩)), (9, .pointer (some ⟨b9, 0, none⟩)), (10, .int .i64 i), (14, .pointer (some ⟨b14, 0, none⟩)), (20, .bool (!u.is)), (32, .bool ((decide (ch.index < 1)) || ((IntKind.i64.wrap (ch.index - 1)) != u.index))), (37, .bool (decide (ch.call = (⟨0, 0, 0, 0, 0, 0, 0, 0⟩ : CallV)))), (57, .bool ((ch.car != 0) || (ch.mode != 0))), (65, .bool (decide (i < u.live.length)))] ?_ ?_
           · intro KK hKK
             rcases Bool.eq_false_or_eq_true ((((ch.call.id != ch.index) || (ch.call.state != 1)) || ((checkCallV u.c (⟨0, ch.call.kind, ch.call.src, ch.call.dst, ch.call.car, 0, 0, 0⟩ : CallV)) != 0)) || (decide (ch.call.owner < 1))) with u13 | u13
             · skip
               refine wB (c := true) 128 rfl u13 ?_
               iterate 3 refine p_applyRC rfl ?_
               refine p_applyRC rfl ?_
               refine wB (c := ((((ch.call.id != ch.index) || (ch.call.state != 1)) || ((checkCallV u.c (⟨0, ch.call.kind, ch.call.src, ch.call.dst, ch.call.car, 0, 0, 0⟩ : CallV)) != 0)) || (decide (ch.call.owner < 1))) || (decide (1073741824 < ch.call.owner))) 132 rfl (by rw [u13]; rfl) ?_
               refine wN (tN ?_)
               exact fun aa ww nn dd hs H => hKK aa ww nn dd (sat_sub ⟨rfl, rfl, rfl, rfl, rfl, rfl, rfl, rfl, rfl, rfl, rfl, rfl, rfl, rfl, trivial⟩ hs) H
             · skip
               refine wB (c := false) 128 rfl u13 ?_
               refine p_applyRC rfl ?_
               refine wLd rfl tyint 1 rfl rfl ?_
               refine p_applyRC rfl ?_
               refine p_applyRC rfl ?_
               refine wB (c := ((((ch.call.id != ch.index) || (ch.call.state != 1)) || ((checkCallV u.c (⟨0, ch.call.kind, ch.call.src, ch.call.dst, ch.call.car, 0, 0, 0⟩ : CallV)) != 0)) || (decide (ch.call.owner < 1))) || (decide (1073741824 < ch.call.owner))) 132 rfl (by rw [u13]; rfl) ?_
               refine wN (tN ?_)
               exact fun aa ww nn dd hs H => hKK aa ww nn dd (sat_sub ⟨rfl, rfl, rfl, rfl, rfl, rfl, rfl, rfl, rfl, rfl, rfl, rfl, rfl, rfl, trivial⟩ hs) H
           refine p_applyRC rfl ?_
           refine wCut 4 [(137, .bool ((((((ch.call.id != ch.index) || (ch.call.state != 1)) || ((checkCallV u.c (⟨0, ch.call.kind, ch.call.src, ch.call.dst, ch.call.car, 0, 0, 0⟩ : CallV)) != 0)) || (decide (ch.call.owner < 1))) || (decide (1073741824 < ch.call.owner))) || (decide (ch.call.born < 0)))), (0, .agg (rbA u.c u.is u.index (.slice la u.live.length lc) (.slice da u.done.length dc) u.modes)), (1, .agg (chA ch)), (2, .pointer (some ⟨b2, 0, none⟩)), (3, .pointer (some ⟨b3, 0, none⟩)), (4, .pointer (some ⟨b4, 0, none⟩)), (9, .pointer (some ⟨b9, 0, none⟩)), (10, .int .i64 i), (14, .pointer (some ⟨b14, 0, none⟩)), (20, .bool (!u.is)), (32, .bool ((decide (ch.index < 1)) || ((IntKind.i64.wrap (ch.index - 1)) != u.index))), (37, .bool (decide (ch.call = (⟨0, 0, 0, 0, 0, 0, 0, 0⟩ : CallV)))), (57, .bool ((ch.car != 0) || (ch.mode != 0))), (65, .bool (decide (i < u.live.length)))] ?_ ?_
           · intro KK hKK
             rcases Bool.eq_false_or_eq_true (((((ch.call.id != ch.index) || (ch.call.state != 1)) || ((checkCallV u.c (⟨0, ch.call.kind, ch.call.src, ch.call.dst, ch.call.car, 0, 0, 0⟩ : CallV)) != 0)) || (decide (ch.call.owner < 1))) || (decide (1073741824 < ch.call.owner))) with u14 | u14
             · skip
               refine wB (c := true) 133 rfl u14 ?_
               iterate 3 refine p_applyRC rfl ?_
               refine p_applyRC rfl ?_
               refine wB (c := (((((ch.call.id != ch.index) || (ch.call.state != 1)) || ((checkCallV u.c (⟨0, ch.call.kind, ch.call.src, ch.call.dst, ch.call.car, 0, 0, 0⟩ : CallV)) != 0)) || (decide (ch.call.owner < 1))) || (decide (1073741824 < ch.call.owner))) || (decide (ch.call.born < 0))) 137 rfl (by rw [u14]; rfl) ?_
               refine wN (tN ?_)
               exact fun aa ww nn dd hs H => hKK aa ww nn dd (sat_sub ⟨rfl, rfl, rfl, rfl, rfl, rfl, rfl, rfl, rfl, rfl, rfl, rfl, rfl, rfl, trivial⟩ hs) H
             · skip
               refine wB (c := false) 133 rfl u14 ?_
               refine p_applyRC rfl ?_
               refine wLd rfl tyint 1 rfl rfl ?_
               refine p_applyRC rfl ?_
               refine p_applyRC rfl ?_
               refine wB (c := (((((ch.call.id != ch.index) || (ch.call.state != 1)) || ((checkCallV u.c (⟨0, ch.call.kind, ch.call.src, ch.call.dst, ch.call.car, 0, 0, 0⟩ : CallV)) != 0)) || (decide (ch.call.owner < 1))) || (decide (1073741824 < ch.call.owner))) || (decide (ch.call.born < 0))) 137 rfl (by rw [u14]; rfl) ?_
               refine wN (tN ?_)
               exact fun aa ww nn dd hs H => hKK aa ww nn dd (sat_sub ⟨rfl, rfl, rfl, rfl, rfl, rfl, rfl, rfl, rfl, rfl, rfl, rfl, rfl, rfl, trivial⟩ hs) H
           refine p_applyRC rfl ?_
           refine wCut 4 [(142, .bool (((((((ch.call.id != ch.index) || (ch.call.state != 1)) || ((checkCallV u.c (⟨0, ch.call.kind, ch.call.src, ch.call.dst, ch.call.car, 0, 0, 0⟩ : CallV)) != 0)) || (decide (ch.call.owner < 1))) || (decide (1073741824 < ch.call.owner))) || (decide (ch.call.born < 0))) || (decide (1073741824 < ch.call.born)))), (0, .agg (rbA u.c u.is u.index (.slice la u.live.length lc) (.slice da u.done.length dc) u.modes)), (1, .agg (chA ch)), (2, .pointer (some ⟨b2, 0, none⟩)), (3, .pointer (some ⟨b3, 0, none⟩)), (4, .pointer (some ⟨b4, 0, none⟩)), (9, .pointer (some ⟨b9, 0, none⟩)), (10, .int .i64 i), (14, .pointer (some ⟨b14, 0, none⟩)), (20, .bool (!u.is)), (32, .bool ((decide (ch.index < 1)) || ((IntKind.i64.wrap (ch.index - 1)) != u.index))), (37, .bool (decide (ch.call = (⟨0, 0, 0, 0, 0, 0, 0, 0⟩ : CallV)))), (57, .bool ((ch.car != 0) || (ch.mode != 0))), (65, .bool (decide (i < u.live.length)))] ?_ ?_
           · intro KK hKK
             rcases Bool.eq_false_or_eq_true ((((((ch.call.id != ch.index) || (ch.call.state != 1)) || ((checkCallV u.c (⟨0, ch.call.kind, ch.call.src, ch.call.dst, ch.call.car, 0, 0, 0⟩ : CallV)) != 0)) || (decide (ch.call.owner < 1))) || (decide (1073741824 < ch.call.owner))) || (decide (ch.call.born < 0))) with u15 | u15
             · skip
               refine wB (c := true) 138 rfl u15 ?_
               iterate 3 refine p_applyRC rfl ?_
               refine p_applyRC rfl ?_
               refine wB (c := ((((((ch.call.id != ch.index) || (ch.call.state != 1)) || ((checkCallV u.c (⟨0, ch.call.kind, ch.call.src, ch.call.dst, ch.call.car, 0, 0, 0⟩ : CallV)) != 0)) || (decide (ch.call.owner < 1))) || (decide (1073741824 < ch.call.owner))) || (decide (ch.call.born < 0))) || (decide (1073741824 < ch.call.born))) 142 rfl (by rw [u15]; rfl) ?_
               refine wN (tN ?_)
               exact fun aa ww nn dd hs H => hKK aa ww nn dd (sat_sub ⟨rfl, rfl, rfl, rfl, rfl, rfl, rfl, rfl, rfl, rfl, rfl, rfl, rfl, rfl, trivial⟩ hs) H
             · skip
               refine wB (c := false) 138 rfl u15 ?_
               refine p_applyRC rfl ?_
               refine wLd rfl tyint 1 rfl rfl ?_
               refine p_applyRC rfl ?_
               refine p_applyRC rfl ?_
               refine wB (c := ((((((ch.call.id != ch.index) || (ch.call.state != 1)) || ((checkCallV u.c (⟨0, ch.call.kind, ch.call.src, ch.call.dst, ch.call.car, 0, 0, 0⟩ : CallV)) != 0)) || (decide (ch.call.owner < 1))) || (decide (1073741824 < ch.call.owner))) || (decide (ch.call.born < 0))) || (decide (1073741824 < ch.call.born))) 142 rfl (by rw [u15]; rfl) ?_
               refine wN (tN ?_)
               exact fun aa ww nn dd hs H => hKK aa ww nn dd (sat_sub ⟨rfl, rfl, rfl, rfl, rfl, rfl, rfl, rfl, rfl, rfl, rfl, rfl, rfl, rfl, trivial⟩ hs) H
           refine wN ?_
           refine tN (wKK hK29 ?_)
           refine wCond (E := ((((((ch.call.id != ch.index) || (ch.call.state != 1)) || ((checkCallV u.c (⟨0, ch.call.kind, ch.call.src, ch.call.dst, ch.call.car, 0, 0, 0⟩ : CallV)) != 0)) || (decide (ch.call.owner < 1))) || (decide (1073741824 < ch.call.owner))) || (decide (ch.call.born < 0))) || (decide (1073741824 < ch.call.born))) rfl (fun z16 => ?_) (fun z16 => ?_)
           · skip
             refine wSeqK fun KK30 hK30 => ?_
             refine wReg ?_
             refine wE (.agg (rbA zeroF false 0 (.slice none 0 0) (.slice none 0 0) ([0, 0, 0, 0]))) rfl rfl rfl (fun aa ww hs _ => by simp only [execOp]; go_simp <;> first | rfl | omega) ?_
             refine wSr rfl tyhoistwayref09_Book 2 rfl rfl rfl rfl (rbL zeroF false 0 (.slice none 0 0) (.slice none 0 0) ([0, 0, 0, 0])) (by first | rfl | (simp only [spl]; rfl)) ?_
             refine p_applyRC rfl ?_
             refine wN ?_
             refine tN (wKK hK30 ?_)
             refine wRet ?_
             refine tR ?_
             exact wRct tyhoistwayref09_Book rfl rfl rfl 2 rfl rfl (fun ww H => (by simp only [applyR, z1, z1n, z3, z3l, z3r, z3ro, z4, z6, z6l, z6lo, z6r, z6ro, z7, z16, cond_true, cond_false, Bool.not_true, Bool.not_false, Bool.true_and, Bool.and_true, Bool.false_and, Bool.and_false, Bool.true_or, Bool.or_true, Bool.false_or, Bool.or_false, fd_end (fun k hk => hn.out k (by omega))]; exact ⟨none, 0, none, 0, rfl, (rS_nil _ _), (rS_nil _ _), (From.none _ _ _ _ _), (From.none _ _ _ _ _), H.out.off⟩))
           · skip
             have z16l : ((((((ch.call.id != ch.index) || (ch.call.state != 1)) || ((checkCallV u.c (⟨0, ch.call.kind, ch.call.src, ch.call.dst, ch.call.car, 0, 0, 0⟩ : CallV)) != 0)) || (decide (ch.call.owner < 1))) || (decide (1073741824 < ch.call.owner))) || (decide (ch.call.born < 0))) = false := Reg.ol z16
             have z16ll : (((((ch.call.id != ch.index) || (ch.call.state != 1)) || ((checkCallV u.c (⟨0, ch.call.kind, ch.call.src, ch.call.dst, ch.call.car, 0, 0, 0⟩ : CallV)) != 0)) || (decide (ch.call.owner < 1))) || (decide (1073741824 < ch.call.owner))) = false := Reg.ol z16l
             have z16lll : ((((ch.call.id != ch.index) || (ch.call.state != 1)) || ((checkCallV u.c (⟨0, ch.call.kind, ch.call.src, ch.call.dst, ch.call.car, 0, 0, 0⟩ : CallV)) != 0)) || (decide (ch.call.owner < 1))) = false := Reg.ol z16ll
             have z16llll : (((ch.call.id != ch.index) || (ch.call.state != 1)) || ((checkCallV u.c (⟨0, ch.call.kind, ch.call.src, ch.call.dst, ch.call.car, 0, 0, 0⟩ : CallV)) != 0)) = false := Reg.ol z16lll
             have z16lllll : ((ch.call.id != ch.index) || (ch.call.state != 1)) = false := Reg.ol z16llll
             have z16llllll : (ch.call.id != ch.index) = false := Reg.ol z16lllll
             have z16llllllo : (ch.call.id == ch.index) = true := neq_f z16llllll
             have z16lllllr : (ch.call.state != 1) = false := Reg.orr z16lllll
             have z16lllllro : (ch.call.state == 1) = true := neq_f z16lllllr
             have z16llllr : ((checkCallV u.c (⟨0, ch.call.kind, ch.call.src, ch.call.dst, ch.call.car, 0, 0, 0⟩ : CallV)) != 0) = false := Reg.orr z16llll
             have z16llllro : ((checkCallV u.c (⟨0, ch.call.kind, ch.call.src, ch.call.dst, ch.call.car, 0, 0, 0⟩ : CallV)) == 0) = true := neq_f z16llllr
             have z16lllr : (decide (ch.call.owner < 1)) = false := Reg.orr z16lll
             have z16lllrd : ¬ (ch.call.owner < 1) := of_decide_eq_false z16lllr
             have z16llr : (decide (1073741824 < ch.call.owner)) = false := Reg.orr z16ll
             have z16llrd : ¬ (1073741824 < ch.call.owner) := of_decide_eq_false z16llr
             have z16lr : (decide (ch.call.born < 0)) = false := Reg.orr z16l
             have z16lrd : ¬ (ch.call.born < 0) := of_decide_eq_false z16lr
             have z16r : (decide (1073741824 < ch.call.born)) = false := Reg.orr z16
             have z16rd : ¬ (1073741824 < ch.call.born) := of_decide_eq_false z16r
             refine wSk ?_
             refine tN (wKK hK28 ?_)
             refine wSeqK fun KK31 hK31 => ?_
             refine wReg ?_
             refine wLr rfl tyhoistwayref09_Book 4 rfl (rbL u.c u.is u.index (.slice la u.live.length lc) (.slice da u.done.length dc) u.modes) rfl rfl ?_
             refine wLr rfl tyapi_Call 1 rfl (xL ch.call) rfl rfl ?_
             refine wC (l := [.agg (rbA u.c u.is u.index (.slice la u.live.length lc) (.slice da u.done.length dc) u.modes), .agg (xA ch.call)]) Try.func58 rfl (by kernel_rfl) (fun wc H => nextRC u la lc da dc ch.call wc (hp_held H (by (repeat (first | exact List.Mem.head _ | apply List.Mem.tail)))) (hp_held H (by (repeat (first | exact List.Mem.head _ | apply List.Mem.tail)))) hu) rfl rfl rfl rfl ?_
             intro wc H
             rintro er wd ⟨la22_2, lc22_2, da22_2, dc22_2, rfl, hg⟩
             have H2 := hp_gotB H hg.2.2.2.2 hg.1 hg.2.1 (by decide) (by decide) hg.2.2.1 hg.2.2.2.1 (List.forall_mem_cons.2 ⟨(by (repeat (first | exact List.Mem.head _ | apply List.Mem.tail))), List.forall_mem_cons.2 ⟨(by (repeat (first | exact List.Mem.head _ | apply List.Mem.tail))), fun _ h => by cases h⟩⟩)
             replace H2 := hp_fact H2 (p := From w [rS la lc 8 (u.live.map callRow), rS da dc 8 (u.done.map callRow)] (rS la22_2 lc22_2 8 (((nextR u ch.call).1).live.map callRow)).foot) (from_trans hg.2.2.1 H.out.off (List.forall_mem_cons.2 ⟨(From.same rfl _ (by (repeat (first | exact List.Mem.head _ | apply List.Mem.tail)))), List.forall_mem_cons.2 ⟨(From.same rfl _ (by (repeat (first | exact List.Mem.head _ | apply List.Mem.tail)))), fun _ h => by cases h⟩⟩))
             replace H2 := hp_fact H2 (p := From w [rS la lc 8 (u.live.map callRow), rS da dc 8 (u.done.map callRow)] (rS da22_2 dc22_2 8 (((nextR u ch.call).1).done.map callRow)).foot) (from_trans hg.2.2.2.1 H.out.off (List.forall_mem_cons.2 ⟨(From.same rfl _ (by (repeat (first | exact List.Mem.head _ | apply List.Mem.tail)))), List.forall_mem_cons.2 ⟨(From.same rfl _ (by (repeat (first | exact List.Mem.head _ | apply List.Mem.tail)))), fun _ h => by cases h⟩⟩))
             refine ⟨_, rfl, wkAt H2 ?_⟩
             clear H H2
             iterate 4 refine p_applyRC rfl ?_
             refine wAl rfl rfl tyhoistwayref09_Book fun b15 => ?_
             refine wAl rfl rfl tyapi_Change fun b16 => ?_
             refine wSr rfl tyhoistwayref09_Book 1 rfl rfl rfl rfl (rbL (((nextR u ch.call).1).c) (((nextR u ch.call).1).is) (((nextR u ch.call).1).index) (.slice la22_2 (((nextR u ch.call).1).live.length) lc22_2) (.slice da22_2 (((nextR u ch.call).1).done.length) dc22_2) (((nextR u ch.call).1).modes)) (by first | rfl | (simp only [spl]; rfl)) ?_
             refine wSr rfl tyapi_Change 0 rfl rfl rfl rfl (chL ((nextR u ch.call).2.1)) (by first | rfl | (simp only [spl]; rfl)) ?_
             refine p_applyRC rfl ?_
             refine wN ?_
             refine tN (wKK hK31 ?_)
             refine wSeqK fun KK32 hK32 => ?_
             refine wReg ?_
             refine wLr rfl tyhoistwayref09_Book 1 rfl (rbL (((nextR u ch.call).1).c) (((nextR u ch.call).1).is) (((nextR u ch.call).1).index) (.slice la22_2 (((nextR u ch.call).1).live.length) lc22_2) (.slice da22_2 (((nextR u ch.call).1).done.length) dc22_2) (((nextR u ch.call).1).modes)) rfl rfl ?_
             refine p_applyRC rfl ?_
             refine wSr rfl tyhoistwayref09_Book 8 rfl rfl rfl rfl (rbL (((nextR u ch.call).1).c) (((nextR u ch.call).1).is) (((nextR u ch.call).1).index) (.slice la22_2 (((nextR u ch.call).1).live.length) lc22_2) (.slice da22_2 (((nextR u ch.call).1).done.length) dc22_2) (((nextR u ch.call).1).modes)) (by first | rfl | (simp only [spl]; rfl)) ?_
             refine p_applyRC rfl ?_
             refine wN ?_
             refine tN (wKK hK32 ?_)
             refine wRet ?_
             exact wRct tyhoistwayref09_Book rfl rfl rfl 8 rfl rfl (fun ww H => (by simp only [applyR, z1, z1n, z3, z3l, z3r, z3ro, z4, z6, z6l, z6lo, z6r, z6ro, z7, z16, z16l, z16ll, z16lll, z16llll, z16lllll, z16llllll, z16llllllo, z16lllllr, z16lllllro, z16llllr, z16llllro, z16lllr, z16llr, z16lr, z16r, cond_true, cond_false, Bool.not_true, Bool.not_false, Bool.true_and, Bool.and_true, Bool.false_and, Bool.and_false, Bool.true_or, Bool.or_true, Bool.false_or, Bool.or_false, fd_end (fun k hk => hn.out k (by omega))]; exact ⟨la22_2, lc22_2, da22_2, dc22_2, rfl, (hp_held H (by (repeat (first | exact List.Mem.head _ | apply List.Mem.tail)))), (hp_held H (by (repeat (first | exact List.Mem.head _ | apply List.Mem.tail)))), (hp_told H (by (repeat (first | exact List.Mem.head _ | apply List.Mem.tail)))), (hp_told H (by (repeat (first | exact List.Mem.head _ | apply List.Mem.tail)))), H.out.off⟩))
end Go.Proofs.Ytnanihffljpdbaa.Bk
