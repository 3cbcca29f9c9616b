/- Of all who read at one index one at most changes it: the walk. -/
import Derived.Test.YtnanihffljpdbaaProg
import Derived.Below
import Derived.WalkKit
import Derived.KernelRfl
import Derived.RowKit3
import Derived.Deep.LoopGhost
import Derived.Deep.QuietTactic
import Derived.BigQuiet
import Derived.WideLaws
import Derived.Deep.DeepCutAuto
import Derived.Deep.CutBlock
import Derived.Lib.Hide
import Derived.Laws.BitsLemmas
import Derived.Laws.Bits64
import Derived.Laws.BitsAllLaws
import Derived.IntWalk
import Derived.Outline
import Derived.WalkSpells
import Derived.Test.YtnanihffljpdbaaGA
import Derived.Test.YtnanihffljpdbaaVo1
namespace Go.Proofs.Ytnanihffljpdbaa.Bk
open Go.RowKit Go.Proofs.Ytnanihffljpdbaa.Mem Go.Proofs.Ytnanihffljpdbaa.Reg Go.Proofs.Ytnanihffljpdbaa.Wk Go.Proofs.Ytnanihffljpdbaa.Si Go.Proofs.Ytnanihffljpdbaa.Ca Go.Proofs.Ytnanihffljpdbaa.Sc6 Go.Proofs.Ytnanihffljpdbaa.Vt
set_option linter.unusedVariables false
set_option linter.unusedSimpArgs false

structure VActV where
  kind : Int
  who : Int
  x : CallV
  n : Int
def vactRow (z : VActV) : List Value := [.int .i64 z.kind, .int .i64 z.who, .int .i64 z.x.id, .int .i64 z.x.kind, .int .i64 z.x.src, .int .i64 z.x.dst, .int .i64 z.x.car, .int .i64 z.x.state, .int .i64 z.x.owner, .int .i64 z.x.born, .int .i64 z.n]
def tab_one_w : Wk.Tab := [(84, 0, 0), (84, 1, 26), (87, 0, 0), (87, 1, 1), (87, 2, 2), (87, 3, 10)]
theorem p_one_w {ops : Array Oper} {rest : List Oper} {o : Oper} {w0 : World} {Q : Exit → Act → World → Prop} {S : List Nat} {R : List Res} {K K' : Wk.Env} {N : Nat} (h : Wk.stp tab_one_w N ops K o = some K') (n : Wk.Wk N S w0 K' R (wpList Try.prog ops Q rest)) : Wk.Wk N S w0 K R (wpList Try.prog ops Q (o :: rest)) := Wk.wP (T := tab_one_w) (by kernel_rfl) h n
set_option maxHeartbeats 4000000 in
set_option maxRecDepth 20000 in
theorem one_w_r40 (c : Cfg) (pa : Option Addr) (pc : Nat) (ds : List VActV) (b2 : Nat) (v3_1 : Nat) (k : Nat) (b8 : Nat) (i : Nat) (b : BookV) (la : Option Addr) (lc : Nat) (da : Option Addr) (dc : Nat) (ga : Option Addr) (gc : Nat) (ys : List ChgV) (tr : Int) (stl : Int) (xa : Option Addr) (xc : Nat) (sn : List SnV) (ra : Option Addr) (rc : Nat) (sa : Option Addr) (sc : Nat) (a34_1 : Option Addr) (c34_1 : Nat) (q : Nat) (hk : k ≤ 8) (z2d : ¬ ((k : Int) < 8)) (hi : i ≤ ds.length) (hi2 : i ≤ 80) (hyl : ys.length ≤ i) (hbx : b.index ≤ (ys.length : Int) ∧ (ys.length : Int) ≤ b.index) (htr : (0 ≤ tr ∧ tr ≤ i) ∧ 0 ≤ stl ∧ stl ≤ i) (hsl : sn.length = 8) (hI : Hid (InvB b)) (hbi : 0 ≤ b.index ∧ b.index ≤ 1073741824) (hq : q ≤ ys.length) (z9d : ¬ (q < ys.length)) (hlb : (((ys.length : Nat) : Int) == b.index) = true) {wa wb : World} (H : Hid (Hp [] wa wb [rS a34_1 c34_1 11 (ys.map chgRow), rB v3_1 115 (vtL b.conf b.index b.room (.slice la b.live.length lc) (.slice da b.done.length dc) b.modes c c.keys 0 (.slice ga ys.length gc) tr stl), rA ga gc 40 11 (ys.map chgRow), rA xa xc 84 47 (sn.map (snapRow c)), rSnaps sn, rB b8 33 (bkL b.conf b.index b.room (.slice ra b.live.length rc) (.slice sa b.done.length sc) b.modes), rS la lc 9 (b.live.map rowOf), rS da dc 8 (b.done.map callRow), rS ra rc 9 (b.live.map rowOf), rS sa sc 8 (b.done.map callRow), rB b2 24 (cL c), rS pa pc 11 (ds.map vactRow)])) (ac0 : Act) (hz : ac0.tmps.size = 184) (so5 : ac0.eval (.tmp 5) = .pointer (some ⟨v3_1, 0, none⟩)) (so8 : ac0.eval (.tmp 8) = .pointer (some ⟨b8, 0, none⟩)) (so21 : ac0.eval (.tmp 21) = .slice a34_1 ys.length c34_1) {QR : Exit → Act → World → Prop} (hfin : ∀ (ac1 : Act) (wz : World), ac1.tmps.size = 184 → ac1.defers = ac0.defers → (∀ t, ([4, 172, 173, 174, 175, 176, 177, 178, 179, 180, 181, 182, 183] : List Nat).contains t = false → ac1.eval (.tmp t) = ac0.eval (.tmp t)) → ac1.eval (.tmp 4) = .bool true →  Hid (Hp [] wa wz [rS a34_1 c34_1 11 (ys.map chgRow), rB v3_1 115 (vtL b.conf b.index b.room (.slice la b.live.length lc) (.slice da b.done.length dc) b.modes c c.keys 0 (.slice ga ys.length gc) tr stl), rA ga gc 40 11 (ys.map chgRow), rA xa xc 84 47 (sn.map (snapRow c)), rSnaps sn, rB b8 33 (bkL b.conf b.index b.room (.slice ra b.live.length rc) (.slice sa b.done.length sc) b.modes), rS la lc 9 (b.live.map rowOf), rS da dc 8 (b.done.map callRow), rS ra rc 9 (b.live.map rowOf), rS sa sc 8 (b.done.map callRow), rB b2 24 (cL c), rS pa pc 11 (ds.map vactRow)]) → QR .normal ac1 wz) : (regAt Try.f7 40).wp Try.prog QR ac0 wb := by
  refine wp_region_st mixedP ⟨[0, 0, 1, 2, 3, 4, 5, 6, 5, 6, 7, 8, 9], by kernel_rfl⟩ [[], [], [1], [1, 2], [0, 1, 2, 3], [0, 1, 2, 3, 4], [0, 1, 2, 3, 4, 5], [0, 1, 2, 3, 4, 5, 6], [0, 1, 2, 3, 4, 5], [0, 1, 2, 3, 4, 5, 8], [0, 1, 2, 3, 4, 5, 6, 7, 8, 9], [0, 1, 2, 3, 4, 5, 6, 7, 8, 9, 10], [0, 1, 2, 3, 4, 5, 6, 7, 8, 9, 10, 11]] (by kernel_rfl) (by kernel_rfl) 184 hz (by kernel_rfl) (fun (xx : Unit) jx => nth [.agg (bkA b.conf b.index b.room (.slice ra b.live.length rc) (.slice sa b.done.length sc) b.modes), .pointer (some ⟨v3_1, 0, none⟩), .agg (snA b.conf b.index b.room (.slice la b.live.length lc) (.slice da b.done.length dc) b.modes c c.keys 0), .agg (bkA b.conf b.index b.room (.slice la b.live.length lc) (.slice da b.done.length dc) b.modes), .bool true, .bool true, .slice a34_1 ys.length c34_1, .int .i64 ys.length, .agg (bkA b.conf b.index b.room (.slice ra b.live.length rc) (.slice sa b.done.length sc) b.modes), .int .i64 b.index, .bool true, .bool true, .bool true] jx) (fun (LL : Nat → Bool) (xx : Unit) ww => Hp [] wa ww [rS a34_1 c34_1 11 (ys.map chgRow), rB v3_1 115 (vtL b.conf b.index b.room (.slice la b.live.length lc) (.slice da b.done.length dc) b.modes c c.keys 0 (.slice ga ys.length gc) tr stl), rA ga gc 40 11 (ys.map chgRow), rA xa xc 84 47 (sn.map (snapRow c)), rSnaps sn, rB b8 33 (bkL b.conf b.index b.room (.slice ra b.live.length rc) (.slice sa b.done.length sc) b.modes), rS la lc 9 (b.live.map rowOf), rS da dc 8 (b.done.map callRow), rS ra rc 9 (b.live.map rowOf), rS sa sc 8 (b.done.map callRow), rB b2 24 (cL c), rS pa pc 11 (ds.map vactRow)]) () H.out.drew ?_ (steps_al ?_) ?_ ?_
  · exact fun _ _ _ _ _ h => h
  · refine al_cons ?_ (al_cons ?_ (al_cons ?_ (al_cons ?_ (al_cons ?_ (al_cons ?_ (al_cons ?_ (al_cons ?_ (al_cons ?_ (al_cons ?_ (al_cons ?_ (al_cons ?_ (al_cons ?_ (al_nil)))))))))))))
    · intro LL xx ac wc sg hst hwant QQ hgo
      have H := Lib.hid hst
      refine hpA_load tybook_Book H rfl ((sg.free 8 (by kernel_rfl)).trans so8) hwant (by (repeat (first | exact List.Mem.head _ | apply List.Mem.tail))) (by rfl) rfl ?_
      exact hgo _ () _ (fun _ _ => rfl) rfl hst
    · intro LL xx ac wc sg hst hwant QQ hgo
      exact op_val hwant hgo hst _ (exec_move rfl ((sg.free 5 (by kernel_rfl)).trans so5)) rfl
    · intro LL xx ac wc sg hst hwant QQ hgo
      have se173 : ac.eval (.tmp 173) = _ := (sg.slot 1 (sg.anc 1 rfl))
      have sg173 := gt_of se173
      (try simp only [nth] at se173 sg173)
      have H := Lib.hid hst
      refine op_call hwant hgo 34 #[.pointer (some ⟨v3_1, 0, none⟩)] (by simp only [execOp]; go_simp) (readC v3_1 b la lc da dc c c.keys 0 ga gc ys tr stl wc (H.out.blk 1 rfl)) ?_
      rintro er wd ⟨rfl, hof⟩
      exact ⟨_, (), rfl, fun _ _ => rfl, rfl, Hp.quiet hst hof⟩
    · intro LL xx ac wc sg hst hwant QQ hgo
      exact op_val hwant hgo hst (.agg (bkA b.conf b.index b.room (.slice la b.live.length lc) (.slice da b.done.length dc) b.modes)) (exec_fld rfl (sg.slot 2 (sg.anc 2 rfl)) (by kernel_rfl)) rfl
    · intro LL xx ac wc sg hst hwant QQ hgo
      have se172 : ac.eval (.tmp 172) = _ := (sg.slot 0 (sg.anc 0 rfl))
      have sg172 := gt_of se172
      have se175 : ac.eval (.tmp 175) = _ := (sg.slot 3 (sg.anc 3 rfl))
      have sg175 := gt_of se175
      (try simp only [nth] at se172 sg172 se175 sg175)
      have H := Lib.hid hst
      refine op_call hwant hgo 19 #[.agg (bkA b.conf b.index b.room (.slice ra b.live.length rc) (.slice sa b.done.length sc) b.modes), .agg (bkA b.conf b.index b.room (.slice la b.live.length lc) (.slice da b.done.length dc) b.modes)] (by simp only [execOp]; go_simp) (sameT b ra rc sa sc la lc da dc wc (hp_held H (by (repeat (first | exact List.Mem.head _ | apply List.Mem.tail)))) (hp_held H (by (repeat (first | exact List.Mem.head _ | apply List.Mem.tail)))) (hp_held H (by (repeat (first | exact List.Mem.head _ | apply List.Mem.tail)))) (hp_held H (by (repeat (first | exact List.Mem.head _ | apply List.Mem.tail)))) hI) ?_
      rintro er wd ⟨rfl, hof⟩
      exact ⟨_, (), rfl, fun _ _ => rfl, rfl, Hp.quiet hst hof⟩
    · intro LL xx ac wc sg hst hwant QQ hgo
      exact op_val hwant hgo hst _ (exec_move rfl (sg.slot 4 (sg.anc 4 rfl))) rfl
    · intro LL xx ac wc sg hst hwant QQ hgo
      exact op_val hwant hgo hst _ (exec_move rfl ((sg.free 21 (by kernel_rfl)).trans so21)) rfl
    · intro LL xx ac wc sg hst hwant QQ hgo
      have se178 : ac.eval (.tmp 178) = _ := (sg.slot 6 (sg.anc 6 rfl))
      have sg178 := gt_of se178
      (try simp only [nth] at se178 sg178)
      exact op_val hwant hgo hst _ (by simp only [execOp, nth]; go_simp <;> omega) rfl
    · intro LL xx ac wc sg hst hwant QQ hgo
      have H := Lib.hid hst
      refine hpA_load tybook_Book H rfl ((sg.free 8 (by kernel_rfl)).trans so8) hwant (by (repeat (first | exact List.Mem.head _ | apply List.Mem.tail))) (by rfl) rfl ?_
      exact hgo _ () _ (fun _ _ => rfl) rfl hst
    · intro LL xx ac wc sg hst hwant QQ hgo
      have se180 : ac.eval (.tmp 180) = _ := (sg.slot 8 (sg.anc 8 rfl))
      have sg180 := gt_of se180
      (try simp only [nth] at se180 sg180)
      refine op_call hwant hgo 11 #[.agg (bkA b.conf b.index b.room (.slice ra b.live.length rc) (.slice sa b.done.length sc) b.modes)] (by simp only [execOp]; go_simp) (indexN b ra rc sa sc wc) ?_
      rintro er wd ⟨rfl, hof⟩
      exact ⟨_, (), rfl, fun _ _ => rfl, rfl, Hp.quiet hst hof⟩
    · intro LL xx ac wc sg hst hwant QQ hgo
      have se179 : ac.eval (.tmp 179) = _ := (sg.slot 7 (sg.anc 7 rfl))
      have sg179 := gt_of se179
      have se181 : ac.eval (.tmp 181) = _ := (sg.slot 9 (sg.anc 9 rfl))
      have sg181 := gt_of se181
      (try simp only [nth] at se179 sg179 se181 sg181)
      exact op_val hwant hgo hst _ (by simp only [execOp, nth]; go_simp <;> omega) rfl
    · intro LL xx ac wc sg hst hwant QQ hgo
      exact op_val hwant hgo hst (.bool true) (exec_pick (B := true) (U := .bool true) (V := undef) rfl (sg.slot 5 (sg.anc 5 rfl)) (fun _ => (sg.slot 10 (sg.anc 10 rfl))) (fun h => by cases h)) rfl
    · intro LL xx ac wc sg hst hwant QQ hgo
      exact op_val hwant hgo hst _ (exec_assign rfl (sg.slot 11 (sg.anc 11 rfl))) rfl
  · refine skips [6, 7, 8, 9, 10] (by kernel_rfl) ?_
    refine List.forall_mem_cons.2 ⟨?_, List.forall_mem_cons.2 ⟨?_, List.forall_mem_cons.2 ⟨?_, List.forall_mem_cons.2 ⟨?_, List.forall_mem_cons.2 ⟨?_, fun _ h => by cases h⟩⟩⟩⟩⟩
    · intro oo hop LL xx ac sg hwant
      cases Option.some.inj hop
      exact absurd ((want_t rfl rfl (sg.slot 5 (sg.anc 5 rfl))).symm.trans hwant) (by decide)
    · intro oo hop LL xx ac sg hwant
      cases Option.some.inj hop
      exact absurd ((want_t rfl rfl (sg.slot 5 (sg.anc 5 rfl))).symm.trans hwant) (by decide)
    · intro oo hop LL xx ac sg hwant
      cases Option.some.inj hop
      exact absurd ((want_t rfl rfl (sg.slot 5 (sg.anc 5 rfl))).symm.trans hwant) (by decide)
    · intro oo hop LL xx ac sg hwant
      cases Option.some.inj hop
      exact absurd ((want_t rfl rfl (sg.slot 5 (sg.anc 5 rfl))).symm.trans hwant) (by decide)
    · intro oo hop LL xx ac sg hwant
      cases Option.some.inj hop
      exact absurd ((want_t rfl rfl (sg.slot 5 (sg.anc 5 rfl))).symm.trans hwant) (by decide)
  · intro xx ac1 wz hfr hsl hst
    exact hfin ac1 wz (hfr.size.trans hz) hfr.defers (fr_keep hfr [4, 172, 173, 174, 175, 176, 177, 178, 179, 180, 181, 182, 183] (by kernel_rfl)) (hsl 12 (by decide)) (Lib.hid hst)
set_option maxHeartbeats 16000000 in
set_option maxRecDepth 20000 in
theorem one_w (c : Cfg) (pa : Option Addr) (pc : Nat) (ds : List VActV) (w : World) (h1 : (rS pa pc 11 (ds.map vactRow)).holds w) : Calls Try.prog 7 #[.agg (cA c), .slice pa ds.length pc] w fun e w' => e = .returned (.bool true) ∧ Off [] w w' := by
 have H := Lib.hid (Hp.start [] w)
 have H := hp_old H h1 (by decide)
 clear h1
 have hI0 : Hid (InvB (newB c)) := Lib.hid (inv_new c)
 refine wStart (args := [.agg (cA c), .slice pa ds.length pc]) Try.func7 rfl rfl rfl H ?_
 clear H
 show Wk 184 _ _ [(0, .agg (cA c)), (1, .slice pa ds.length pc)] _ _
 refine wSeqK fun KK1 hK1 => ?_
 refine wReg ?_
 refine wBx rfl rfl rfl fun b2 => ?_
 refine p_one_w rfl ?_
 refine wN ?_
 refine tN (wKK hK1 ?_)
 refine wSeqK fun KK2 hK2 => ?_
 refine wSeqK fun KK3 hK3 => ?_
 refine wReg ?_
 refine wQ (l := []) Try.func32 rfl (by kernel_rfl) (.bool true) (fun wc H => awake11 wc) rfl rfl rfl rfl ?_
 refine p_one_w rfl ?_
 refine wN ?_
 refine tN (wKK hK3 ?_)
 refine wCf rfl ?_
 refine wSk ?_
 refine tN (wKK hK2 ?_)
 refine wSeqK fun KK4 hK4 => ?_
 rcases Bool.eq_false_or_eq_true (checkV c != 0) with y1 | y1
 · skip
   have y1o : (checkV c == 0) = false := neq_t y1
   refine wReg ?_
   refine wLr rfl tyapi_Config 0 rfl (cL c) rfl rfl ?_
   refine wQ (l := [.agg (cA c)]) Try.func33 rfl (by kernel_rfl) (.pointer none) (fun wc H => newVno c wc y1) rfl rfl rfl rfl ?_
   refine p_one_w rfl ?_
   refine wN ?_
   refine tN (wKK hK4 ?_)
   refine wSeqK fun KK5 hK5 => ?_
   refine wSeqK fun KK6 hK6 => ?_
   refine wReg ?_
   refine p_one_w rfl ?_
   refine wE (.bool true) rfl rfl rfl (fun aa ww hs _ => by exact exec_pnilnil rfl (hs _ _ rfl) rfl Try.underlying75) ?_
   refine wN ?_
   refine tN (wKK hK6 ?_)
   refine wCt rfl ?_
   refine wSeqK fun KK7 hK7 => ?_
   refine wReg ?_
   refine p_one_w rfl ?_
   refine wN ?_
   refine tN (wKK hK7 ?_)
   refine wRet ?_
   refine tR ?_
   exact wR1 rfl rfl (fun ww H => ⟨rfl, H.out.off⟩)
 · skip
   have y1o : (checkV c == 0) = true := neq_f y1
   refine wReg ?_
   refine wLr rfl tyapi_Config 0 rfl (cL c) rfl rfl ?_
   refine wC (l := [.agg (cA c)]) Try.func33 rfl (by kernel_rfl) (fun wc H => newVyes c wc (keys_in y1) y1) rfl rfl rfl rfl ?_
   intro wc H
   rintro er wd ⟨v3_1, la3_1, lc3_1, da3_1, dc3_1, rfl, HH, hf1, hf2⟩
   have H3 := hp_fresh H HH (fresh3 hf1 hf2)
   have H2 : Hid (Hp [] w wd [rA none 0 40 11 (([] : List ChgV).map chgRow), rB v3_1 115 (vtL ((newB c).conf) ((newB c).index) ((newB c).room) (.slice la3_1 ((newB c).live.length) lc3_1) (.slice da3_1 ((newB c).done.length) dc3_1) ((newB c).modes) c c.keys 0 (.slice none 0 0) 0 0), rS la3_1 lc3_1 9 ((newB c).live.map rowOf), rS da3_1 dc3_1 8 ((newB c).done.map callRow), rB b2 24 (cL c), rS pa pc 11 (ds.map vactRow)]) := hp_nil H3 40 11
   clear H3
   refine ⟨_, rfl, wkAt H2 ?_⟩
   clear H H2
   refine p_one_w rfl ?_
   refine wN ?_
   refine tN (wKK hK4 ?_)
   refine wSeqK fun KK8 hK8 => ?_
   refine wSeqK fun KK9 hK9 => ?_
   refine wReg ?_
   refine p_one_w rfl ?_
   refine wE (.bool false) rfl rfl rfl (fun aa ww hs _ => by exact exec_pnil_eql rfl (hs _ _ rfl) rfl Try.underlying75) ?_
   refine wN ?_
   refine tN (wKK hK9 ?_)
   refine wCf rfl ?_
   refine wSk ?_
   refine tN (wKK hK8 ?_)
   refine wSeqK fun KK10 hK10 => ?_
   refine wReg ?_
   intro aa ww nn dd hs H
   refine hp_bslice0 elSnap H rfl (wnt_ok hs rfl) ?_
   intro wd b29 H2
   replace H2 : Hid (Hp [] w wd (rA (some ⟨b29, 0, none⟩) 0 84 47 (([] : List SnV).map (snapRow c)) :: _)) := H2
   refine wGo (v := .slice (some ⟨b29, 0, none⟩) 0 0) nn dd hs rfl H2 ?_
   clear nn dd hs H H2
   refine p_one_w rfl ?_
   refine wN ?_
   refine tN (wKK hK10 ?_)
   refine wSeqK fun KK11 hK11 => ?_
   refine wSeqK fun KK12 hK12 => ?_
   intro aa ww nn dd hs H
   have H := hp_snaps0 H
   refine wIn nn dd hs H ?_
   refine wReg ?_
   refine p_one_w rfl ?_
   refine wN ?_
   refine tN (wKK hK12 ?_)
   refine wBlk ?_
   refine wH (R' := [rA (some ⟨b29, 0, none⟩) 0 84 47 (([] : List SnV).map (snapRow c)), rSnaps [], rA none 0 40 11 (([] : List ChgV).map chgRow), rB v3_1 115 (vtL ((newB c).conf) ((newB c).index) ((newB c).room) (.slice la3_1 ((newB c).live.length) lc3_1) (.slice da3_1 ((newB c).done.length) dc3_1) ((newB c).modes) c c.keys 0 (.slice none 0 0) 0 0), rS la3_1 lc3_1 9 ((newB c).live.map rowOf), rS da3_1 dc3_1 8 ((newB c).done.map callRow), rB b2 24 (cL c), rS pa pc 11 (ds.map vactRow)]) (fun ww H => hp_sel [1, 0, 2, 3, 4, 5, 6, 7] H (by decide) rfl) ?_
   refine wLoop (fun ab wv => ∃ k : Nat, ∃ xa : Option Addr, ∃ xc : Nat, ∃ sn : List SnV, (k ≤ 8) ∧ (sn.length = k) ∧ (Hid (SnOk sn (newB c))) ∧ ab.tmps.size = 184 ∧ ab.defers = [] ∧ Sat [(0, .agg (cA c)), (1, .slice pa ds.length pc), (2, .pointer (some ⟨b2, 0, none⟩)), (4, .bool false), (5, .pointer (some ⟨v3_1, 0, none⟩)), (6, .slice xa sn.length xc), (7, .int .i64 k), (24, .bool false), (28, .bool false)] ab ∧ Hid (Hp [] w wv [rA xa xc 84 47 (sn.map (snapRow c)), rSnaps sn, rA none 0 40 11 (([] : List ChgV).map chgRow), rB v3_1 115 (vtL ((newB c).conf) ((newB c).index) ((newB c).room) (.slice la3_1 ((newB c).live.length) lc3_1) (.slice da3_1 ((newB c).done.length) dc3_1) ((newB c).modes) c c.keys 0 (.slice none 0 0) 0 0), rS la3_1 lc3_1 9 ((newB c).live.map rowOf), rS da3_1 dc3_1 8 ((newB c).done.map callRow), rB b2 24 (cL c), rS pa pc 11 (ds.map vactRow)])) (fun ab _ => 8 - (intOf (ab.eval (.tmp 7))).toNat) (fun aa ww nn dd hs H => ⟨0, (some ⟨b29, 0, none⟩), 0, [], (Nat.zero_le _), rfl, (Lib.hid (fun s hs => by cases hs)), nn, dd, (sat_sub ⟨rfl, rfl, rfl, rfl, rfl, rfl, rfl, rfl, rfl, trivial⟩ hs), H⟩) ?_
   rintro a1 wv ⟨k, xa, xc, sn, hk, hsl, hso, nn, dd, hs, H⟩
   have mu1_7 := hs 7 _ rfl
   refine wIn nn dd hs H ?_
   clear nn dd hs H
   refine wSeqK fun KK13 hK13 => ?_
   refine wSeqK fun KK14 hK14 => ?_
   refine wReg ?_
   iterate 2 refine p_one_w rfl ?_
   refine wN ?_
   refine tN (wKK hK14 ?_)
   refine wCond (E := decide ((k : Int) < 8)) rfl (fun z2 => ?_) (fun z2 => ?_)
   · skip
     have z2d : (k : Int) < 8 := of_decide_eq_true z2
     refine wSk ?_
     refine tN (wKK hK13 ?_)
     refine wSeqK fun KK15 hK15 => ?_
     refine wBlk ?_
     refine wReg ?_
     iterate 2 refine p_one_w rfl ?_
     refine wQ (l := [.pointer (some ⟨v3_1, 0, none⟩)]) Try.func34 rfl (by kernel_rfl) (.agg (snA ((newB c).conf) ((newB c).index) ((newB c).room) (.slice la3_1 ((newB c).live.length) lc3_1) (.slice da3_1 ((newB c).done.length) dc3_1) ((newB c).modes) c c.keys 0)) (fun wc H => readC v3_1 (newB c) la3_1 lc3_1 da3_1 dc3_1 c c.keys 0 none 0 ([] : List ChgV) 0 0 wc (H.out.blk 3 rfl)) rfl rfl rfl rfl ?_
     refine wBs (cs := (snL ((newB c).conf) ((newB c).index) ((newB c).room) (.slice la3_1 ((newB c).live.length) lc3_1) (.slice da3_1 ((newB c).done.length) dc3_1) ((newB c).modes) c c.keys 0)) rfl rfl rfl rfl Try.underlying77 tyvault_Snap rfl (by decide) (by decide) (by kernel_rfl) fun b37 => ?_
     intro aa ww nn dd hs H
     refine hp_append (news := ([(⟨newB c, la3_1, lc3_1, da3_1, dc3_1⟩ : SnV)]).map (snapRow c)) elSnap H rfl rfl 1 rfl (hs _ _ rfl) (by simp) (hs _ _ rfl) (by simp <;> omega) (hp_single (cs := snapRow c (⟨newB c, la3_1, lc3_1, da3_1, dc3_1⟩ : SnV)) (e := 84) H (List.mem_of_getElem? (i := 0) rfl) rfl (by simp [snapRow, snL, Value.oneCell'])) (by simp <;> omega) (by decide) ?_
     intro wd a38 c38 H2
     rw [show sn.map (snapRow c) ++ ([(⟨newB c, la3_1, lc3_1, da3_1, dc3_1⟩ : SnV)]).map (snapRow c) = (sn ++ ([(⟨newB c, la3_1, lc3_1, da3_1, dc3_1⟩ : SnV)])).map (snapRow c) from List.map_append.symm] at H2 ⊢
     rw [List.length_map]
     refine wGo (v := .slice a38 ((sn ++ ([(⟨newB c, la3_1, lc3_1, da3_1, dc3_1⟩ : SnV)])).length) c38) nn dd hs rfl H2 ?_
     clear nn dd hs H H2
     refine p_one_w rfl ?_
     refine wN ?_
     refine bN (tN (wKK hK15 ?_))
     refine wReg ?_
     iterate 2 refine p_one_w rfl ?_
     refine wI 33 rfl (IntWalk.i64_in _ (by omega)) ?_
     refine p_one_w rfl ?_
     refine wN ?_
     refine tN ?_
     intro aa ww nn dd hs H
     have H := hp_snapsAdd (s := (⟨newB c, la3_1, lc3_1, da3_1, dc3_1⟩ : SnV)) (l' := (sn ++ [(⟨newB c, la3_1, lc3_1, da3_1, dc3_1⟩ : SnV)])) H (show rS la3_1 lc3_1 9 ((newB c).live.map rowOf) ∈ _ by (repeat (first | exact List.Mem.head _ | apply List.Mem.tail))) (show rS da3_1 dc3_1 8 ((newB c).done.map callRow) ∈ _ by (repeat (first | exact List.Mem.head _ | apply List.Mem.tail))) (show rSnaps sn ∈ _ by (repeat (first | exact List.Mem.head _ | apply List.Mem.tail))) snoc_in
     refine ⟨⟨k + 1, a38, c38, (sn ++ ([(⟨newB c, la3_1, lc3_1, da3_1, dc3_1⟩ : SnV)])), (by omega), (by rw [List.length_append, hsl]; rfl), (Lib.hid (snOk_set hso.out (inv_new c) rfl snoc_in)), nn, dd, (sat_sub ⟨rfl, rfl, rfl, rfl, rfl, rfl, rfl, rfl, rfl, trivial⟩ hs), (hp_sel [2, 0, 4, 5, 6, 7, 8, 9] H (by decide) rfl)⟩, ?_⟩
     have m7 := hs 7 _ rfl
     simp only [mu1_7, m7, intOf]
     omega
   · skip
     have z2d : ¬ ((k : Int) < 8) := of_decide_eq_false z2
     refine wEx ?_
     refine tX (tX (bX (tN (wKK hK11 ?_))))
     refine wSeqK fun KK16 hK16 => ?_
     refine wReg ?_
     refine wLr rfl tyapi_Config 6 rfl (cL c) rfl rfl ?_
     refine wC (l := [.agg (cA c)]) Try.func10 rfl (by kernel_rfl) (fun wc H => newBC c wc) rfl rfl rfl rfl ?_
     intro wc H
     rintro er wd ⟨la11_1, lc11_1, da11_1, dc11_1, rfl, hg⟩
     have H2 := hp_gotB H hg.2.2.2.2 hg.1 hg.2.1 (by decide) (by decide) hg.2.2.1 hg.2.2.2.1 (fun r hr => by cases hr)
     refine ⟨_, rfl, wkAt H2 ?_⟩
     clear H H2
     refine wAl rfl rfl tybook_Book fun b8 => ?_
     refine wSr rfl tybook_Book 0 rfl rfl rfl rfl (bkL ((newB c).conf) ((newB c).index) ((newB c).room) (.slice la11_1 ((newB c).live.length) lc11_1) (.slice da11_1 ((newB c).done.length) dc11_1) ((newB c).modes)) (by first | rfl | (simp only [spl]; rfl)) ?_
     refine wN ?_
     refine tN (wKK hK16 ?_)
     refine wSeqK fun KK17 hK17 => ?_
     refine wSeqK fun KK18 hK18 => ?_
     refine wReg ?_
     refine p_one_w rfl ?_
     refine wN ?_
     refine tN (wKK hK18 ?_)
     refine wBlk ?_
     refine wH (R' := [rB v3_1 115 (vtL ((newB c).conf) ((newB c).index) ((newB c).room) (.slice la3_1 ((newB c).live.length) lc3_1) (.slice da3_1 ((newB c).done.length) dc3_1) ((newB c).modes) c c.keys 0 (.slice none 0 0) 0 0), rA none 0 40 11 (([] : List ChgV).map chgRow), rA xa xc 84 47 (sn.map (snapRow c)), rSnaps sn, rB b8 33 (bkL ((newB c).conf) ((newB c).index) ((newB c).room) (.slice la11_1 ((newB c).live.length) lc11_1) (.slice da11_1 ((newB c).done.length) dc11_1) ((newB c).modes)), rS la3_1 lc3_1 9 ((newB c).live.map rowOf), rS da3_1 dc3_1 8 ((newB c).done.map callRow), rS la11_1 lc11_1 9 ((newB c).live.map rowOf), rS da11_1 dc11_1 8 ((newB c).done.map callRow), rB b2 24 (cL c), rS pa pc 11 (ds.map vactRow)]) (fun ww H => hp_sel [6, 5, 3, 4, 0, 7, 8, 1, 2, 9, 10] H (by decide) rfl) ?_
     refine wLoop (fun ab wv => ∃ i : Nat, ∃ b : BookV, ∃ la : Option Addr, ∃ lc : Nat, ∃ da : Option Addr, ∃ dc : Nat, ∃ ga : Option Addr, ∃ gc : Nat, ∃ ys : List ChgV, ∃ tr : Int, ∃ stl : Int, ∃ xa : Option Addr, ∃ xc : Nat, ∃ sn : List SnV, ∃ ra : Option Addr, ∃ rc : Nat, ∃ sa : Option Addr, ∃ sc : Nat, (i ≤ ds.length) ∧ (i ≤ 80) ∧ (ys.length ≤ i) ∧ (b.index ≤ (ys.length : Int) ∧ (ys.length : Int) ≤ b.index) ∧ ((0 ≤ tr ∧ tr ≤ i) ∧ 0 ≤ stl ∧ stl ≤ i) ∧ (sn.length = 8) ∧ (Hid (InvB b)) ∧ (Hid (SnOk sn b)) ∧ (Hid (LogOk ys)) ∧ ab.tmps.size = 184 ∧ ab.defers = [] ∧ Sat [(0, .agg (cA c)), (1, .slice pa ds.length pc), (2, .pointer (some ⟨b2, 0, none⟩)), (5, .pointer (some ⟨v3_1, 0, none⟩)), (6, .slice xa sn.length xc), (7, .int .i64 k), (8, .pointer (some ⟨b8, 0, none⟩)), (9, .int .i64 i), (24, .bool false), (28, .bool false), (31, .bool (decide ((k : Int) < 8)))] ab ∧ Hid (Hp [] w wv [rB v3_1 115 (vtL b.conf b.index b.room (.slice la b.live.length lc) (.slice da b.done.length dc) b.modes c c.keys 0 (.slice ga ys.length gc) tr stl), rA ga gc 40 11 (ys.map chgRow), rA xa xc 84 47 (sn.map (snapRow c)), rSnaps sn, rB b8 33 (bkL b.conf b.index b.room (.slice ra b.live.length rc) (.slice sa b.done.length sc) b.modes), rS la lc 9 (b.live.map rowOf), rS da dc 8 (b.done.map callRow), rS ra rc 9 (b.live.map rowOf), rS sa sc 8 (b.done.map callRow), rB b2 24 (cL c), rS pa pc 11 (ds.map vactRow)])) (fun ab _ => 80 - (intOf (ab.eval (.tmp 9))).toNat) (fun aa ww nn dd hs H => ⟨0, (newB c), la3_1, lc3_1, da3_1, dc3_1, none, 0, ([] : List ChgV), 0, 0, xa, xc, sn, la11_1, lc11_1, da11_1, dc11_1, (Nat.zero_le _), (by omega), (Nat.zero_le _), (by rw [new_ix]; exact ⟨Int.le_refl _, Int.le_refl _⟩), (by decide), (by omega), hI0, hso, (Lib.hid (fun i z h => by simp at h)), nn, dd, (sat_sub ⟨rfl, rfl, rfl, rfl, rfl, rfl, rfl, rfl, rfl, rfl, rfl, trivial⟩ hs), H⟩) ?_
     rintro a2 wv ⟨i, b, la, lc, da, dc, ga, gc, ys, tr, stl, xa, xc, sn, ra, rc, sa, sc, hi, hi2, hyl, hbx, htr, hsl, hI, hso, hlg, nn, dd, hs, H⟩
     have mu2_9 := hs 9 _ rfl
     refine wIn nn dd hs H ?_
     clear nn dd hs H
     refine wSeqK fun KK19 hK19 => ?_
     refine wSeqK fun KK20 hK20 => ?_
     refine wReg ?_
     iterate 2 refine p_one_w rfl ?_
     refine wE (.int .i64 ds.length) rfl rfl rfl (fun aa ww hs _ => by have e42 := hs 42 _ rfl; have g42 := gt_of e42; simp only [execOp]; go_simp <;> first | rfl | omega) ?_
     refine p_one_w rfl ?_
     refine wB (c := decide (i < ds.length)) 44 rfl (by simp) ?_
     refine p_one_w rfl ?_
     refine wCut 3 [(48, .bool ((decide (i < ds.length)) && (decide ((i : Int) < 80)))), (0, .agg (cA c)), (1, .slice pa ds.length pc), (2, .pointer (some ⟨b2, 0, none⟩)), (5, .pointer (some ⟨v3_1, 0, none⟩)), (6, .slice xa sn.length xc), (7, .int .i64 k), (8, .pointer (some ⟨b8, 0, none⟩)), (9, .int .i64 i), (24, .bool false), (28, .bool false), (31, .bool (decide ((k : Int) < 8)))] ?_ ?_
     · intro KK hKK
       rcases Bool.eq_false_or_eq_true (decide (i < ds.length)) with u3 | u3
       · skip
         refine wB (c := true) 45 rfl u3 ?_
         iterate 2 refine p_one_w rfl ?_
         refine p_one_w rfl ?_
         refine wB (c := (decide (i < ds.length)) && (decide ((i : Int) < 80))) 48 rfl (by rw [u3]; rfl) ?_
         refine wN (tN ?_)
         exact fun aa ww nn dd hs H => hKK aa ww nn dd (sat_sub ⟨rfl, rfl, rfl, rfl, rfl, rfl, rfl, rfl, rfl, rfl, rfl, rfl, trivial⟩ hs) H
       · skip
         refine wB (c := false) 45 rfl u3 ?_
         iterate 2 refine p_one_w rfl ?_
         refine p_one_w rfl ?_
         refine wB (c := (decide (i < ds.length)) && (decide ((i : Int) < 80))) 48 rfl (by rw [u3]; rfl) ?_
         refine wN (tN ?_)
         exact fun aa ww nn dd hs H => hKK aa ww nn dd (sat_sub ⟨rfl, rfl, rfl, rfl, rfl, rfl, rfl, rfl, rfl, rfl, rfl, rfl, trivial⟩ hs) H
     refine wN ?_
     refine tN (wKK hK20 ?_)
     refine wCond (E := (decide (i < ds.length)) && (decide ((i : Int) < 80))) rfl (fun z4 => ?_) (fun z4 => ?_)
     · skip
       have z4l : (decide (i < ds.length)) = true := Reg.bl z4
       have z4ld : i < ds.length := of_decide_eq_true z4l
       have z4r : (decide ((i : Int) < 80)) = true := Reg.br z4
       have z4rd : (i : Int) < 80 := of_decide_eq_true z4r
       intro aa ww nn dd hs H
       obtain ⟨yx, rfl⟩ := some_of_row (i := i) (hp_held H (show rS pa _ 11 (ds.map vactRow) ∈ _ by (repeat (first | exact List.Mem.head _ | apply List.Mem.tail)))) (by simp; omega)
       obtain ⟨x, hx⟩ : ∃ x, ds[i]? = some x := ⟨ds[i], List.getElem?_eq_getElem (by omega)⟩
       have HRx := Lib.hid (show (ds.map vactRow)[i]? = some [.int .i64 x.kind, .int .i64 x.who, .int .i64 x.x.id, .int .i64 x.x.kind, .int .i64 x.x.src, .int .i64 x.x.dst, .int .i64 x.x.car, .int .i64 x.x.state, .int .i64 x.x.owner, .int .i64 x.x.born, .int .i64 x.n] by rw [List.getElem?_map, hx]; rfl)
       have HXx := Lib.hid hx
       clear hx
       have hbi := hI.out.ok.index
       obtain ⟨m, hm, hm8⟩ := eight_is x.who
       refine wIn nn dd hs H ?_
       refine wSk ?_
       refine tN (wKK hK19 ?_)
       refine wSeqK fun KK21 hK21 => ?_
       refine wBlk ?_
       refine wSeqK fun KK22 hK22 => ?_
       refine wReg ?_
       iterate 2 refine p_one_w rfl ?_
       refine wE (.pointer (some (yx.add (i * 11)))) rfl rfl rfl (fun aa ww hs _ => by have e51 := hs 51 _ rfl; have g51 := gt_of e51; have e52 := hs 52 _ rfl; have g52 := gt_of e52; simp only [execOp]; go_simp <;> first | rfl | omega) ?_
       refine wX 54 (.agg #[.int .i64 x.kind, .int .i64 x.who, .int .i64 x.x.id, .int .i64 x.x.kind, .int .i64 x.x.src, .int .i64 x.x.dst, .int .i64 x.x.car, .int .i64 x.x.state, .int .i64 x.x.owner, .int .i64 x.x.born, .int .i64 x.n]) rfl (fun aa ww KK hs H _ hk => hpS_load tyhoistwaylaw11_Act H (y := yx) rfl (hs _ _ rfl) (wnt_ok hs rfl) (by (repeat (first | exact List.Mem.head _ | apply List.Mem.tail))) HRx.out rfl hk) ?_
       refine wAl rfl rfl tyhoistwaylaw11_Act fun b10 => ?_
       refine wSr rfl tyhoistwaylaw11_Act 0 rfl rfl rfl rfl [.int .i64 x.kind, .int .i64 x.who, .int .i64 x.x.id, .int .i64 x.x.kind, .int .i64 x.x.src, .int .i64 x.x.dst, .int .i64 x.x.car, .int .i64 x.x.state, .int .i64 x.x.owner, .int .i64 x.x.born, .int .i64 x.n] (by first | rfl | (simp only [spl]; rfl)) ?_
       refine wN ?_
       refine tN (wKK hK22 ?_)
       refine wSeqK fun KK23 hK23 => ?_
       refine wReg ?_
       refine p_one_w rfl ?_
       refine wLd rfl tyint 0 rfl rfl ?_
       refine wE (.int .u64 (IntKind.u64.wrap x.who)) rfl rfl rfl (fun aa ww hs _ => by have e56 := hs 56 _ rfl; have g56 := gt_of e56; simp only [execOp]; go_simp <;> first | rfl | omega) ?_
       refine wE (.int .u64 ((IntKind.u64.wrap x.who).tmod 8)) rfl rfl rfl (fun aa ww hs _ => exec_rem rfl (hs _ _ rfl) (rfl) (by omega)) ?_
       refine wE (.int .i64 m) rfl rfl rfl (fun aa ww hs _ => by have e58 := hs 58 _ rfl; have g58 := gt_of e58; simp only [execOp]; go_simp <;> first | rfl | omega) ?_
       refine p_one_w rfl ?_
       refine wN ?_
       refine tN (wKK hK23 ?_)
       refine wSeqK fun KK24 hK24 => ?_
       refine wSeqK fun KK25 hK25 => ?_
       refine wReg ?_
       refine p_one_w rfl ?_
       refine wLd rfl tyint 0 rfl rfl ?_
       refine p_one_w rfl ?_
       refine wN ?_
       refine tN (wKK hK25 ?_)
       refine wCond (E := x.kind == 1) rfl (fun z5 => ?_) (fun z5 => ?_)
       · skip
         have z5o : (x.kind != 1) = false := eqq_t z5
         refine wSeqK fun KK26 hK26 => ?_
         intro aa ww nn dd hs H
         obtain ⟨ysn, rfl⟩ := some_of_row (i := m) (hp_held (hp_read H 3 rfl) (show rS xa _ 47 (sn.map (snapRow c)) ∈ _ by (repeat (first | exact List.Mem.head _ | apply List.Mem.tail)))) (by simp; omega)
         refine wIn nn dd hs H ?_
         refine wReg ?_
         iterate 3 refine p_one_w rfl ?_
         refine wQ (l := [.pointer (some ⟨v3_1, 0, none⟩)]) Try.func34 rfl (by kernel_rfl) (.agg (snA b.conf b.index b.room (.slice la b.live.length lc) (.slice da b.done.length dc) b.modes c c.keys 0)) (fun wc H => readC v3_1 b la lc da dc c c.keys 0 ga gc ys tr stl wc (H.out.blk 1 rfl)) rfl rfl rfl rfl ?_
         refine wE (.pointer (some (ysn.add (m * 47)))) rfl rfl rfl (fun aa ww hs _ => by have e63 := hs 63 _ rfl; have g63 := gt_of e63; have e64 := hs 64 _ rfl; have g64 := gt_of e64; simp only [execOp]; go_simp <;> first | rfl | omega) ?_
         intro aa ww nn dd hs H
         refine hp_elstore tyvault_Snap H rfl rfl (hs _ _ rfl) (i := m) (j := 3) (by simp [Addr.add]) (r := [.int .i64 b.conf.floors, .int .i64 b.conf.cars, .int .i64 b.conf.seats, .int .i64 b.conf.calls, .int .i64 b.conf.lines, .int .i64 b.conf.keys, .int .i64 b.conf.window, .int .i64 b.conf.burst, .int .i64 b.conf.rate, .int .i64 b.conf.idle, .int .i64 b.conf.inn, .int .i64 b.conf.out, .int .i64 b.conf.feed, .int .i64 b.conf.retries, .int .i64 b.conf.life, .int .i64 b.conf.door, .int .i64 b.conf.holds, .int .u32 b.conf.secret, .int .i64 b.index, .int .i64 b.room, .slice la b.live.length lc, .slice da b.done.length dc, .int .i64 (b.modes.getD 0 0), .int .i64 (b.modes.getD 1 0), .int .i64 (b.modes.getD 2 0), .int .i64 (b.modes.getD 3 0), .int .i64 c.floors, .int .i64 c.cars, .int .i64 c.seats, .int .i64 c.calls, .int .i64 c.lines, .int .i64 c.keys, .int .i64 c.window, .int .i64 c.burst, .int .i64 c.rate, .int .i64 c.idle, .int .i64 c.inn, .int .i64 c.out, .int .i64 c.feed, .int .i64 c.retries, .int .i64 c.life, .int .i64 c.door, .int .i64 c.holds, .int .u32 c.secret, .int .i64 c.keys, .slice none 0 0, .int .i64 0]) (hs _ _ rfl) rfl (by simp [Value.oneCell']) rfl (by simp; omega) ?_
         intro wd H2
         refine wGoN nn dd hs H2 ?_
         clear nn dd hs H H2
         refine wN ?_
         intro aa ww nn dd hs H
         have eS : (sn.map (snapRow c)).set m [.int .i64 b.conf.floors, .int .i64 b.conf.cars, .int .i64 b.conf.seats, .int .i64 b.conf.calls, .int .i64 b.conf.lines, .int .i64 b.conf.keys, .int .i64 b.conf.window, .int .i64 b.conf.burst, .int .i64 b.conf.rate, .int .i64 b.conf.idle, .int .i64 b.conf.inn, .int .i64 b.conf.out, .int .i64 b.conf.feed, .int .i64 b.conf.retries, .int .i64 b.conf.life, .int .i64 b.conf.door, .int .i64 b.conf.holds, .int .u32 b.conf.secret, .int .i64 b.index, .int .i64 b.room, .slice la b.live.length lc, .slice da b.done.length dc, .int .i64 (b.modes.getD 0 0), .int .i64 (b.modes.getD 1 0), .int .i64 (b.modes.getD 2 0), .int .i64 (b.modes.getD 3 0), .int .i64 c.floors, .int .i64 c.cars, .int .i64 c.seats, .int .i64 c.calls, .int .i64 c.lines, .int .i64 c.keys, .int .i64 c.window, .int .i64 c.burst, .int .i64 c.rate, .int .i64 c.idle, .int .i64 c.inn, .int .i64 c.out, .int .i64 c.feed, .int .i64 c.retries, .int .i64 c.life, .int .i64 c.door, .int .i64 c.holds, .int .u32 c.secret, .int .i64 c.keys, .slice none 0 0, .int .i64 0] = (sn.set m (⟨b, la, lc, da, dc⟩ : SnV)).map (snapRow c) := row_set (c := c) (l := sn) (i := m) (s := (⟨b, la, lc, da, dc⟩ : SnV))
         rw [eS] at H
         rw [show sn.length = (sn.set m (⟨b, la, lc, da, dc⟩ : SnV)).length from List.length_set.symm] at hs
         have H := hp_snapsAdd (s := (⟨b, la, lc, da, dc⟩ : SnV)) (l' := (sn.set m (⟨b, la, lc, da, dc⟩ : SnV))) H (show rS la lc 9 (b.live.map rowOf) ∈ _ by (repeat (first | exact List.Mem.head _ | apply List.Mem.tail))) (show rS da dc 8 (b.done.map callRow) ∈ _ by (repeat (first | exact List.Mem.head _ | apply List.Mem.tail))) (show rSnaps sn ∈ _ by (repeat (first | exact List.Mem.head _ | apply List.Mem.tail))) set_in
         refine wIn nn dd hs H ?_
         refine tN (wKK hK26 ?_)
         refine wEx ?_
         refine tX (bX (tN (wKK hK21 ?_)))
         refine wReg ?_
         iterate 2 refine p_one_w rfl ?_
         refine wI 50 rfl (IntWalk.i64_in _ (by omega)) ?_
         refine p_one_w rfl ?_
         refine wN ?_
         refine tN ?_
         intro aa ww nn dd hs H
         refine ⟨⟨i + 1, b, la, lc, da, dc, ga, gc, ys, tr, stl, (some ysn), xc, (sn.set m (⟨b, la, lc, da, dc⟩ : SnV)), ra, rc, sa, sc, (by omega), (by omega), (by omega), hbx, (by omega), (by rw [List.length_set]; exact hsl), hI, (Lib.hid (snOk_set hso.out hI.out rfl set_in)), hlg, nn, dd, (sat_sub ⟨rfl, rfl, rfl, rfl, rfl, rfl, rfl, rfl, rfl, rfl, rfl, trivial⟩ hs), (hp_sel [2, 3, 4, 0, 6, 7, 8, 9, 10, 11, 12] H (by decide) rfl)⟩, ?_⟩
         have m9 := hs 9 _ rfl
         simp only [mu2_9, m9, intOf]
         omega
       · skip
         have z5o : (x.kind != 1) = true := eqq_f z5
         refine wSk ?_
         refine tN (wKK hK24 ?_)
         refine wSeqK fun KK27 hK27 => ?_
         intro aa ww nn dd hs H
         obtain ⟨ysn, rfl⟩ := some_of_row (i := m) (hp_held (hp_read H 3 rfl) (show rS xa _ 47 (sn.map (snapRow c)) ∈ _ by (repeat (first | exact List.Mem.head _ | apply List.Mem.tail)))) (by simp; omega)
         obtain ⟨s0, hs0⟩ : ∃ s0, sn[m]? = some s0 := ⟨sn[m], List.getElem?_eq_getElem (by omega)⟩
         obtain ⟨sb, sla, slc, sda, sdc⟩ := s0
         have hsm := List.mem_of_getElem? hs0
         have hsk := Lib.hid (hso.out _ hsm)
         have hIs : Hid (InvB sb) := Lib.hid hsk.out.1
         have hsx : sb.index ≤ b.index := hsk.out.2.1
         have hsi := hIs.out.ok.index
         have HRs := Lib.hid (show (sn.map (snapRow c))[m]? = some [.int .i64 sb.conf.floors, .int .i64 sb.conf.cars, .int .i64 sb.conf.seats, .int .i64 sb.conf.calls, .int .i64 sb.conf.lines, .int .i64 sb.conf.keys, .int .i64 sb.conf.window, .int .i64 sb.conf.burst, .int .i64 sb.conf.rate, .int .i64 sb.conf.idle, .int .i64 sb.conf.inn, .int .i64 sb.conf.out, .int .i64 sb.conf.feed, .int .i64 sb.conf.retries, .int .i64 sb.conf.life, .int .i64 sb.conf.door, .int .i64 sb.conf.holds, .int .u32 sb.conf.secret, .int .i64 sb.index, .int .i64 sb.room, .slice sla sb.live.length slc, .slice sda sb.done.length sdc, .int .i64 (sb.modes.getD 0 0), .int .i64 (sb.modes.getD 1 0), .int .i64 (sb.modes.getD 2 0), .int .i64 (sb.modes.getD 3 0), .int .i64 c.floors, .int .i64 c.cars, .int .i64 c.seats, .int .i64 c.calls, .int .i64 c.lines, .int .i64 c.keys, .int .i64 c.window, .int .i64 c.burst, .int .i64 c.rate, .int .i64 c.idle, .int .i64 c.inn, .int .i64 c.out, .int .i64 c.feed, .int .i64 c.retries, .int .i64 c.life, .int .i64 c.door, .int .i64 c.holds, .int .u32 c.secret, .int .i64 c.keys, .slice none 0 0, .int .i64 0] by rw [List.getElem?_map, hs0]; rfl)
         have H := hp_snapsGet H (show rSnaps sn ∈ _ by (repeat (first | exact List.Mem.head _ | apply List.Mem.tail))) hsm
         clear hs0 hsm
         replace H : Hid (Hp [] w ww [rS sla slc 9 (sb.live.map rowOf), rS sda sdc 8 (sb.done.map callRow), rB b10 87 [.int .i64 x.kind, .int .i64 x.who, .int .i64 x.x.id, .int .i64 x.x.kind, .int .i64 x.x.src, .int .i64 x.x.dst, .int .i64 x.x.car, .int .i64 x.x.state, .int .i64 x.x.owner, .int .i64 x.x.born, .int .i64 x.n], rB v3_1 115 (vtL b.conf b.index b.room (.slice la b.live.length lc) (.slice da b.done.length dc) b.modes c c.keys 0 (.slice ga ys.length gc) tr stl), rA ga gc 40 11 (ys.map chgRow), rA (some ysn) xc 84 47 (sn.map (snapRow c)), rSnaps sn, rB b8 33 (bkL b.conf b.index b.room (.slice ra b.live.length rc) (.slice sa b.done.length sc) b.modes), rS la lc 9 (b.live.map rowOf), rS da dc 8 (b.done.map callRow), rS ra rc 9 (b.live.map rowOf), rS sa sc 8 (b.done.map callRow), rB b2 24 (cL c), rS (some yx) pc 11 (ds.map vactRow)]) := H
         refine wIn nn dd hs H ?_
         refine wReg ?_
         iterate 2 refine p_one_w rfl ?_
         refine wE (.pointer (some (ysn.add (m * 47)))) rfl rfl rfl (fun aa ww hs _ => by have e68 := hs 68 _ rfl; have g68 := gt_of e68; have e69 := hs 69 _ rfl; have g69 := gt_of e69; simp only [execOp]; go_simp <;> first | rfl | omega) ?_
         refine wX 71 (.agg (snA sb.conf sb.index sb.room (.slice sla sb.live.length slc) (.slice sda sb.done.length sdc) sb.modes c c.keys 0)) rfl (fun aa ww KK hs H _ hk => hpS_load tyvault_Snap (hp_read H 5 rfl) (y := ysn) rfl (hs _ _ rfl) (wnt_ok hs rfl) (by (repeat (first | exact List.Mem.head _ | apply List.Mem.tail))) HRs.out rfl hk) ?_
         refine wAl rfl rfl tyvault_Snap fun b12 => ?_
         refine wSr rfl tyvault_Snap 0 rfl rfl rfl rfl (snL sb.conf sb.index sb.room (.slice sla sb.live.length slc) (.slice sda sb.done.length sdc) sb.modes c c.keys 0) (by first | rfl | (simp only [spl]; rfl)) ?_
         refine wN ?_
         refine tN (wKK hK27 ?_)
         refine wSeqK fun KK28 hK28 => ?_
         refine wReg ?_
         refine p_one_w rfl ?_
         refine wLr rfl tybook_Book 0 rfl (bkL sb.conf sb.index sb.room (.slice sla sb.live.length slc) (.slice sda sb.done.length sdc) sb.modes) rfl rfl ?_
         refine p_one_w rfl ?_
         refine wLr rfl tyapi_Call 3 rfl (xL x.x) rfl rfl ?_
         iterate 2 refine p_one_w rfl ?_
         refine wI 78 rfl (IntWalk.i64_in _ (by omega)) ?_
         refine wC (l := [.agg (bkA sb.conf sb.index sb.room (.slice sla sb.live.length slc) (.slice sda sb.done.length sdc) sb.modes), .agg (xA x.x), .int .i64 (1 + m), .int .i64 0]) Try.func13 rfl (by kernel_rfl) (fun wc H => placeC sb sla slc sda sdc x.x (1 + m) 0 wc (hp_held H (by (repeat (first | exact List.Mem.head _ | apply List.Mem.tail)))) (hp_held H (by (repeat (first | exact List.Mem.head _ | apply List.Mem.tail)))) (Lib.hid hIs.out.ok) ) rfl rfl rfl rfl ?_
         intro wc H
         rintro er wd ⟨la20_6, lc20_6, da20_6, dc20_6, rfl, hg⟩
         have H2 := hp_gotB H hg.2.2.2.2 hg.1 hg.2.1 (by decide) (by decide) hg.2.2.1 hg.2.2.2.1 (List.forall_mem_cons.2 ⟨(by (repeat (first | exact List.Mem.head _ | apply List.Mem.tail))), List.forall_mem_cons.2 ⟨(by (repeat (first | exact List.Mem.head _ | apply List.Mem.tail))), fun _ h => by cases h⟩⟩)
         refine ⟨_, rfl, wkAt H2 ?_⟩
         clear H H2
         iterate 4 refine p_one_w rfl ?_
         refine wAl rfl rfl tybook_Book fun b13 => ?_
         refine wAl rfl rfl tyapi_Change fun b14 => ?_
         refine wSr rfl tybook_Book 1 rfl rfl rfl rfl (bkL (((placeV sb x.x (1 + m) 0).1).conf) (((placeV sb x.x (1 + m) 0).1).index) (((placeV sb x.x (1 + m) 0).1).room) (.slice la20_6 (((placeV sb x.x (1 + m) 0).1).live.length) lc20_6) (.slice da20_6 (((placeV sb x.x (1 + m) 0).1).done.length) dc20_6) (((placeV sb x.x (1 + m) 0).1).modes)) (by first | rfl | (simp only [spl]; rfl)) ?_
         refine wSr rfl tyapi_Change 0 rfl rfl rfl rfl (chL ((placeV sb x.x (1 + m) 0).2.1)) (by first | rfl | (simp only [spl]; rfl)) ?_
         refine p_one_w rfl ?_
         refine wN ?_
         refine tN (wKK hK28 ?_)
         refine wSeqK fun KK29 hK29 => ?_
         refine wSeqK fun KK30 hK30 => ?_
         refine wReg ?_
         refine p_one_w rfl ?_
         refine wLd rfl tyint 7 rfl rfl ?_
         refine p_one_w rfl ?_
         refine wN ?_
         refine tN (wKK hK30 ?_)
         have hjn1 : ∀ (bn : BookV) (lan : Option Addr) (lcn : Nat) (dan : Option Addr) (dcn : Nat) (ch : ChgV) (e : Int) , Hid (RepT sb bn ch e) → Wk 184 [] w [(0, .agg (cA c)), (1, .slice (some yx) ds.length pc), (2, .pointer (some ⟨b2, 0, none⟩)), (5, .pointer (some ⟨v3_1, 0, none⟩)), (6, .slice (some ysn) sn.length xc), (7, .int .i64 k), (8, .pointer (some ⟨b8, 0, none⟩)), (9, .int .i64 i), (10, .pointer (some ⟨b10, 0, none⟩)), (11, .int .i64 m), (12, .pointer (some ⟨b12, 0, none⟩)), (13, .pointer (some ⟨b13, 0, none⟩)), (14, .pointer (some ⟨b14, 0, none⟩)), (15, .int .i64 e), (24, .bool false), (28, .bool false), (31, .bool (decide ((k : Int) < 8))), (48, .bool ((decide (i < ds.length)) && (decide ((i : Int) < 80)))), (62, .bool (x.kind == 1)), (85, .bool (x.kind == 5))] [rB b13 33 (bkL bn.conf bn.index bn.room (.slice lan bn.live.length lcn) (.slice dan bn.done.length dcn) bn.modes), rB b14 40 (chL ch), rS lan lcn 9 (bn.live.map rowOf), rS dan dcn 8 (bn.done.map callRow), rB b12 84 (snL sb.conf sb.index sb.room (.slice sla sb.live.length slc) (.slice sda sb.done.length sdc) sb.modes c c.keys 0), rS sla slc 9 (sb.live.map rowOf), rS sda sdc 8 (sb.done.map callRow), rB b10 87 [.int .i64 x.kind, .int .i64 x.who, .int .i64 x.x.id, .int .i64 x.x.kind, .int .i64 x.x.src, .int .i64 x.x.dst, .int .i64 x.x.car, .int .i64 x.x.state, .int .i64 x.x.owner, .int .i64 x.x.born, .int .i64 x.n], rB v3_1 115 (vtL b.conf b.index b.room (.slice la b.live.length lc) (.slice da b.done.length dc) b.modes c c.keys 0 (.slice ga ys.length gc) tr stl), rA ga gc 40 11 (ys.map chgRow), rA (some ysn) xc 84 47 (sn.map (snapRow c)), rSnaps sn, rB b8 33 (bkL b.conf b.index b.room (.slice ra b.live.length rc) (.slice sa b.done.length sc) b.modes), rS la lc 9 (b.live.map rowOf), rS da dc 8 (b.done.map callRow), rS ra rc 9 (b.live.map rowOf), rS sa sc 8 (b.done.map callRow), rB b2 24 (cL c), rS (some yx) pc 11 (ds.map vactRow)] KK29 := by
          intro bn lan lcn dan dcn ch e hT
          refine wKK hK29 ?_
          refine wSeqK fun KK31 hK31 => ?_
          refine wSeqK fun KK32 hK32 => ?_
          refine wReg ?_
          iterate 2 refine p_one_w rfl ?_
          refine wN ?_
          refine tN (wKK hK32 ?_)
          refine wCond (E := e != 0) rfl (fun z6 => ?_) (fun z6 => ?_)
          · skip
            have z6o : (e == 0) = false := neq_t z6
            refine wEx ?_
            refine tX (bX (tN (wKK hK21 ?_)))
            refine wReg ?_
            iterate 2 refine p_one_w rfl ?_
            refine wI 50 rfl (IntWalk.i64_in _ (by omega)) ?_
            refine p_one_w rfl ?_
            refine wN ?_
            refine tN ?_
            intro aa ww nn dd hs H
            refine ⟨⟨i + 1, b, la, lc, da, dc, ga, gc, ys, tr, stl, (some ysn), xc, sn, ra, rc, sa, sc, (by omega), (by omega), (by omega), hbx, (by omega), hsl, hI, hso, hlg, nn, dd, (sat_sub ⟨rfl, rfl, rfl, rfl, rfl, rfl, rfl, rfl, rfl, rfl, rfl, trivial⟩ hs), (hp_sel [8, 9, 10, 11, 12, 13, 14, 15, 16, 17, 18] H (by decide) rfl)⟩, ?_⟩
            have m9 := hs 9 _ rfl
            simp only [mu2_9, m9, intOf]
            omega
          · skip
            have z6o : (e == 0) = true := neq_f z6
            intro aa ww nn dd hs H
            have hy := Lib.hid (hT.out.yes z6)
            have hIn : Hid (InvB bn) := Lib.hid hT.out.inv
            have hnx0 := (apply_told hIs.out (by omega) hy.out.2).2 (by rw [hy.out.1])
            have hnx1 : bn.index = sb.index + 1 := by have h := hnx0.1; rw [hy.out.1] at h; exact h
            have hcx : ch.index = sb.index + 1 := hnx0.2
            clear hnx0
            refine wIn nn dd hs H ?_
            refine wSk ?_
            refine tN (wKK hK31 ?_)
            refine wSeqK fun KK33 hK33 => ?_
            refine wReg ?_
            refine p_one_w rfl ?_
            refine wQ (l := [.pointer (some ⟨v3_1, 0, none⟩)]) Try.func34 rfl (by kernel_rfl) (.agg (snA b.conf b.index b.room (.slice la b.live.length lc) (.slice da b.done.length dc) b.modes c c.keys 0)) (fun wc H => readC v3_1 b la lc da dc c c.keys 0 ga gc ys tr stl wc (H.out.blk 8 rfl)) rfl rfl rfl rfl ?_
            refine wE (.agg (bkA b.conf b.index b.room (.slice la b.live.length lc) (.slice da b.done.length dc) b.modes)) rfl rfl rfl (fun aa ww hs _ => by exact exec_fld rfl (hs _ _ rfl) (by kernel_rfl)) ?_
            refine wQ (l := [.agg (bkA b.conf b.index b.room (.slice la b.live.length lc) (.slice da b.done.length dc) b.modes)]) Try.func11 rfl (by kernel_rfl) (.int .i64 b.index) (fun wc H => indexN b la lc da dc wc) rfl rfl rfl rfl ?_
            refine p_one_w rfl ?_
            refine wN ?_
            refine tN (wKK hK33 ?_)
            refine wSeqK fun KK34 hK34 => ?_
            rcases Bool.eq_false_or_eq_true ((sb.index) != (b.index)) with y7 | y7
            · skip
              intro aa ww nn dd hs H
              have hs1 : ((sb.index) == (b.index)) = false := by have h := y7; simpa [bne] using h
              refine wIn nn dd hs H ?_
              refine wReg ?_
              refine p_one_w rfl ?_
              refine wLr rfl tyvault_Snap 4 rfl (snL sb.conf sb.index sb.room (.slice sla sb.live.length slc) (.slice sda sb.done.length sdc) sb.modes c c.keys 0) rfl rfl ?_
              refine wLr rfl tybook_Book 0 rfl (bkL bn.conf bn.index bn.room (.slice lan bn.live.length lcn) (.slice dan bn.done.length dcn) bn.modes) rfl rfl ?_
              refine wLr rfl tyapi_Change 1 rfl (chL ch) rfl rfl ?_
              refine p_one_w rfl ?_
              refine wLr rfl tykeys_Keys 4 rfl (kyL c c.keys) rfl rfl ?_
              refine wC (l := [.pointer (some ⟨v3_1, 0, none⟩), .agg (snA sb.conf sb.index sb.room (.slice sla sb.live.length slc) (.slice sda sb.done.length sdc) sb.modes c c.keys 0), .agg (bkA bn.conf bn.index bn.room (.slice lan bn.live.length lcn) (.slice dan bn.done.length dcn) bn.modes), .agg (chA ch), .agg (kyA c c.keys)]) Try.func35 rfl (by kernel_rfl) (fun wc H => commitNo v3_1 b la lc da dc c c.keys 0 ga gc ys tr stl sb sla slc sda sdc c c.keys 0 bn lan lcn dan dcn ch c c.keys wc (H.out.blk 8 rfl) (by omega) (y7)) rfl rfl rfl rfl ?_
              intro wc H
              rintro er wd ⟨rfl, hb, ho⟩
              have H2 := hp_turn H (i := 8) (cs' := (vtL b.conf b.index b.room (.slice la b.live.length lc) (.slice da b.done.length dc) b.modes c c.keys 0 (.slice ga ys.length gc) (tr + 1) (stl + 1))) rfl hb ho
              refine ⟨_, rfl, wkAt H2 ?_⟩
              clear H H2
              refine p_one_w rfl ?_
              refine wN ?_
              refine tN (wKK hK34 ?_)
              refine wSeqK fun KK35 hK35 => ?_
              refine wReg ?_
              refine p_one_w rfl ?_
              refine wQ (l := [.pointer (some ⟨v3_1, 0, none⟩)]) Try.func34 rfl (by kernel_rfl) (.agg (snA b.conf b.index b.room (.slice la b.live.length lc) (.slice da b.done.length dc) b.modes c c.keys 0)) (fun wc H => readC v3_1 b la lc da dc c c.keys 0 ga gc ys (tr + 1) (stl + 1) wc (H.out.blk 8 rfl)) rfl rfl rfl rfl ?_
              refine wE (.agg (bkA b.conf b.index b.room (.slice la b.live.length lc) (.slice da b.done.length dc) b.modes)) rfl rfl rfl (fun aa ww hs _ => by exact exec_fld rfl (hs _ _ rfl) (by kernel_rfl)) ?_
              refine wQ (l := [.agg (bkA b.conf b.index b.room (.slice la b.live.length lc) (.slice da b.done.length dc) b.modes)]) Try.func11 rfl (by kernel_rfl) (.int .i64 b.index) (fun wc H => indexN b la lc da dc wc) rfl rfl rfl rfl ?_
              refine p_one_w rfl ?_
              refine wN ?_
              refine tN (wKK hK35 ?_)
              refine wSeqK fun KK36 hK36 => ?_
              refine wSeqK fun KK37 hK37 => ?_
              refine wReg ?_
              iterate 3 refine p_one_w rfl ?_
              refine wLr rfl tybook_Book 4 rfl (bkL sb.conf sb.index sb.room (.slice sla sb.live.length slc) (.slice sda sb.done.length sdc) sb.modes) rfl rfl ?_
              refine wQ (l := [.agg (bkA sb.conf sb.index sb.room (.slice sla sb.live.length slc) (.slice sda sb.done.length sdc) sb.modes)]) Try.func11 rfl (by kernel_rfl) (.int .i64 sb.index) (fun wc H => indexN sb sla slc sda sdc wc) rfl rfl rfl rfl ?_
              iterate 2 refine p_one_w rfl ?_
              refine wB 120 rfl hs1 ?_
              refine wE (.bool false) rfl rfl rfl (fun aa ww hs _ => by have e115 := hs 115 _ rfl; have g115 := gt_of e115; have e120 := hs 120 _ rfl; have g120 := gt_of e120; simp only [execOp]; go_simp <;> first | rfl | omega) ?_
              iterate 10 refine p_one_w rfl ?_
              refine wB (c := false) 131 rfl (by simp) ?_
              iterate 13 refine p_one_w rfl ?_
              refine wN ?_
              refine tN (wKK hK37 ?_)
              refine wCf rfl ?_
              refine wSk ?_
              refine tN (wKK hK36 ?_)
              refine wSeqK fun KK38 hK38 => ?_
              refine wReg ?_
              iterate 2 refine p_one_w rfl ?_
              refine wN ?_
              refine tN (wKK hK38 ?_)
              refine wCf rfl ?_
              refine wSk ?_
              refine bN (tN (wKK hK21 ?_))
              refine wReg ?_
              iterate 2 refine p_one_w rfl ?_
              refine wI 50 rfl (IntWalk.i64_in _ (by omega)) ?_
              refine p_one_w rfl ?_
              refine wN ?_
              refine tN ?_
              intro aa ww nn dd hs H
              refine ⟨⟨i + 1, b, la, lc, da, dc, ga, gc, ys, tr + 1, stl + 1, (some ysn), xc, sn, ra, rc, sa, sc, (by omega), (by omega), (by omega), hbx, (by omega), hsl, hI, hso, hlg, nn, dd, (sat_sub ⟨rfl, rfl, rfl, rfl, rfl, rfl, rfl, rfl, rfl, rfl, rfl, trivial⟩ hs), (hp_sel [8, 9, 10, 11, 12, 13, 14, 15, 16, 17, 18] H (by decide) rfl)⟩, ?_⟩
              have m9 := hs 9 _ rfl
              simp only [mu2_9, m9, intOf]
              omega
            · skip
              intro aa ww nn dd hs H
              have hex : sb.index = b.index := by have h := y7; simpa using h
              have hee : sb = b := hsk.out.2.2 hex
              have haa : applyV b ch = (bn, 0) := by rw [← hee]; exact hy.out.1
              have hnx : bn.index = b.index + 1 := by omega
              have hchx : -9223372036854775808 ≤ ch.index ∧ ch.index ≤ 9223372036854775807 := hy.out.2
              have hs1 : ((sb.index) == (b.index)) = true := by rw [hex]; simp
              have hs2 : ((bn.index) != (b.index + 1)) = false := by rw [hnx]; simp
              clear hee
              refine wIn nn dd hs H ?_
              refine wReg ?_
              refine p_one_w rfl ?_
              refine wLr rfl tyvault_Snap 4 rfl (snL sb.conf sb.index sb.room (.slice sla sb.live.length slc) (.slice sda sb.done.length sdc) sb.modes c c.keys 0) rfl rfl ?_
              refine wLr rfl tybook_Book 0 rfl (bkL bn.conf bn.index bn.room (.slice lan bn.live.length lcn) (.slice dan bn.done.length dcn) bn.modes) rfl rfl ?_
              refine wLr rfl tyapi_Change 1 rfl (chL ch) rfl rfl ?_
              refine p_one_w rfl ?_
              refine wLr rfl tykeys_Keys 4 rfl (kyL c c.keys) rfl rfl ?_
              refine wC (l := [.pointer (some ⟨v3_1, 0, none⟩), .agg (snA sb.conf sb.index sb.room (.slice sla sb.live.length slc) (.slice sda sb.done.length sdc) sb.modes c c.keys 0), .agg (bkA bn.conf bn.index bn.room (.slice lan bn.live.length lcn) (.slice dan bn.done.length dcn) bn.modes), .agg (chA ch), .agg (kyA c c.keys)]) Try.func35 rfl (by kernel_rfl) (fun wc H => commitYes v3_1 b la lc da dc c c.keys 0 ga gc ys tr stl sb sla slc sda sdc c c.keys 0 bn lan lcn dan dcn ch c c.keys wc (hp_rootV (hp_sel [8, 9, 13, 14, 2, 3] H (by decide) rfl) (ro_S (ro_S (ro_S (ro_S ro_nil))))) (by omega) (by first | omega | (simp; done) | (simp; omega)) (y7) haa hI hIn) rfl rfl rfl rfl ?_
              intro wc H
              rintro er wd ⟨ga25_6, gc25_6, rfl, HH⟩
              have H1 : Hid (Hp [] w wc ([rB v3_1 115 (vtL b.conf b.index b.room (.slice la b.live.length lc) (.slice da b.done.length dc) b.modes c c.keys 0 (.slice ga ys.length gc) tr stl), rA ga gc 40 11 (ys.map chgRow), rS la lc 9 (b.live.map rowOf), rS da dc 8 (b.done.map callRow), rS lan lcn 9 (bn.live.map rowOf), rS dan dcn 8 (bn.done.map callRow)] ++ [rB b13 33 (bkL bn.conf bn.index bn.room (.slice lan bn.live.length lcn) (.slice dan bn.done.length dcn) bn.modes), rB b14 40 (chL ch), rB b12 84 (snL sb.conf sb.index sb.room (.slice sla sb.live.length slc) (.slice sda sb.done.length sdc) sb.modes c c.keys 0), rS sla slc 9 (sb.live.map rowOf), rS sda sdc 8 (sb.done.map callRow), rB b10 87 [.int .i64 x.kind, .int .i64 x.who, .int .i64 x.x.id, .int .i64 x.x.kind, .int .i64 x.x.src, .int .i64 x.x.dst, .int .i64 x.x.car, .int .i64 x.x.state, .int .i64 x.x.owner, .int .i64 x.x.born, .int .i64 x.n], rA (some ysn) xc 84 47 (sn.map (snapRow c)), rSnaps sn, rB b8 33 (bkL b.conf b.index b.room (.slice ra b.live.length rc) (.slice sa b.done.length sc) b.modes), rS ra rc 9 (b.live.map rowOf), rS sa sc 8 (b.done.map callRow), rB b2 24 (cL c), rS (some yx) pc 11 (ds.map vactRow)])) := hp_sel [8, 9, 13, 14, 2, 3, 0, 1, 4, 5, 6, 7, 10, 11, 12, 15, 16, 17, 18] H (by decide) rfl
              have H2 : Hid (Hp [] w wd [rB v3_1 115 (vtL bn.conf bn.index bn.room (.slice lan bn.live.length lcn) (.slice dan bn.done.length dcn) bn.modes c c.keys 0 (.slice ga25_6 ((ys ++ [ch]).length) gc25_6) (tr + 1) stl), rA ga25_6 gc25_6 40 11 ((ys ++ [ch]).map chgRow), rS la lc 9 (b.live.map rowOf), rS da dc 8 (b.done.map callRow), rS lan lcn 9 (bn.live.map rowOf), rS dan dcn 8 (bn.done.map callRow), rB b13 33 (bkL bn.conf bn.index bn.room (.slice lan bn.live.length lcn) (.slice dan bn.done.length dcn) bn.modes), rB b14 40 (chL ch), rB b12 84 (snL sb.conf sb.index sb.room (.slice sla sb.live.length slc) (.slice sda sb.done.length sdc) sb.modes c c.keys 0), rS sla slc 9 (sb.live.map rowOf), rS sda sdc 8 (sb.done.map callRow), rB b10 87 [.int .i64 x.kind, .int .i64 x.who, .int .i64 x.x.id, .int .i64 x.x.kind, .int .i64 x.x.src, .int .i64 x.x.dst, .int .i64 x.x.car, .int .i64 x.x.state, .int .i64 x.x.owner, .int .i64 x.x.born, .int .i64 x.n], rA (some ysn) xc 84 47 (sn.map (snapRow c)), rSnaps sn, rB b8 33 (bkL b.conf b.index b.room (.slice ra b.live.length rc) (.slice sa b.done.length sc) b.modes), rS ra rc 9 (b.live.map rowOf), rS sa sc 8 (b.done.map callRow), rB b2 24 (cL c), rS (some yx) pc 11 (ds.map vactRow)]) := hp_backV H1 HH (fun r hr => .inl hr)
              clear H1
              refine ⟨_, rfl, wkAt H2 ?_⟩
              clear H H2
              refine p_one_w rfl ?_
              refine wN ?_
              refine tN (wKK hK34 ?_)
              refine wSeqK fun KK39 hK39 => ?_
              refine wReg ?_
              refine p_one_w rfl ?_
              refine wQ (l := [.pointer (some ⟨v3_1, 0, none⟩)]) Try.func34 rfl (by kernel_rfl) (.agg (snA bn.conf bn.index bn.room (.slice lan bn.live.length lcn) (.slice dan bn.done.length dcn) bn.modes c c.keys 0)) (fun wc H => readC v3_1 bn lan lcn dan dcn c c.keys 0 ga25_6 gc25_6 (ys ++ [ch]) (tr + 1) stl wc (H.out.blk 0 rfl)) rfl rfl rfl rfl ?_
              refine wE (.agg (bkA bn.conf bn.index bn.room (.slice lan bn.live.length lcn) (.slice dan bn.done.length dcn) bn.modes)) rfl rfl rfl (fun aa ww hs _ => by exact exec_fld rfl (hs _ _ rfl) (by kernel_rfl)) ?_
              refine wQ (l := [.agg (bkA bn.conf bn.index bn.room (.slice lan bn.live.length lcn) (.slice dan bn.done.length dcn) bn.modes)]) Try.func11 rfl (by kernel_rfl) (.int .i64 bn.index) (fun wc H => indexN bn lan lcn dan dcn wc) rfl rfl rfl rfl ?_
              refine p_one_w rfl ?_
              refine wN ?_
              refine tN (wKK hK39 ?_)
              refine wSeqK fun KK40 hK40 => ?_
              refine wSeqK fun KK41 hK41 => ?_
              refine wReg ?_
              iterate 3 refine p_one_w rfl ?_
              refine wLr rfl tybook_Book 8 rfl (bkL sb.conf sb.index sb.room (.slice sla sb.live.length slc) (.slice sda sb.done.length sdc) sb.modes) rfl rfl ?_
              refine wQ (l := [.agg (bkA sb.conf sb.index sb.room (.slice sla sb.live.length slc) (.slice sda sb.done.length sdc) sb.modes)]) Try.func11 rfl (by kernel_rfl) (.int .i64 sb.index) (fun wc H => indexN sb sla slc sda sdc wc) rfl rfl rfl rfl ?_
              iterate 2 refine p_one_w rfl ?_
              refine wB 120 rfl hs1 ?_
              refine wE (.bool false) rfl rfl rfl (fun aa ww hs _ => by have e115 := hs 115 _ rfl; have g115 := gt_of e115; have e120 := hs 120 _ rfl; have g120 := gt_of e120; simp only [execOp]; go_simp <;> first | rfl | omega) ?_
              iterate 20 refine p_one_w rfl ?_
              refine wI 141 rfl (IntWalk.i64_in _ (by omega)) ?_
              refine p_one_w rfl ?_
              refine wB 142 rfl hs2 ?_
              iterate 2 refine p_one_w rfl ?_
              refine wN ?_
              refine tN (wKK hK41 ?_)
              refine wCf rfl ?_
              refine wSk ?_
              refine tN (wKK hK40 ?_)
              refine wSeqK fun KK42 hK42 => ?_
              refine wReg ?_
              iterate 2 refine p_one_w rfl ?_
              refine wN ?_
              refine tN (wKK hK42 ?_)
              refine wCt rfl ?_
              refine wSeqK fun KK43 hK43 => ?_
              refine wReg ?_
              refine wLr rfl tybook_Book 14 rfl (bkL b.conf b.index b.room (.slice ra b.live.length rc) (.slice sa b.done.length sc) b.modes) rfl rfl ?_
              refine wLr rfl tyapi_Change 7 rfl (chL ch) rfl rfl ?_
              refine wC (l := [.agg (bkA b.conf b.index b.room (.slice ra b.live.length rc) (.slice sa b.done.length sc) b.modes), .agg (chA ch)]) Try.func16 rfl (by kernel_rfl) (fun wc H => by have h := applyC b ra rc sa sc ch wc (hp_held H (by (repeat (first | exact List.Mem.head _ | apply List.Mem.tail)))) (hp_held H (by (repeat (first | exact List.Mem.head _ | apply List.Mem.tail)))) (Lib.hid hI.out.ok) ; rw [haa] at h; exact h) rfl rfl rfl rfl ?_
              intro wc H
              rintro er wd ⟨la30_2, lc30_2, da30_2, dc30_2, rfl, hg⟩
              have H2 := hp_gotB H hg.2.2.2.2 hg.1 hg.2.1 (by decide) (by decide) hg.2.2.1 hg.2.2.2.1 (List.forall_mem_cons.2 ⟨(by (repeat (first | exact List.Mem.head _ | apply List.Mem.tail))), List.forall_mem_cons.2 ⟨(by (repeat (first | exact List.Mem.head _ | apply List.Mem.tail))), fun _ h => by cases h⟩⟩)
              refine ⟨_, rfl, wkAt H2 ?_⟩
              clear H H2
              iterate 3 refine p_one_w rfl ?_
              refine wAl rfl rfl tybook_Book fun b19 => ?_
              refine wSr rfl tybook_Book 0 rfl rfl rfl rfl (bkL ((bn).conf) ((bn).index) ((bn).room) (.slice la30_2 ((bn).live.length) lc30_2) (.slice da30_2 ((bn).done.length) dc30_2) ((bn).modes)) (by first | rfl | (simp only [spl]; rfl)) ?_
              refine p_one_w rfl ?_
              refine wN ?_
              refine tN (wKK hK43 ?_)
              refine wSeqK fun KK44 hK44 => ?_
              refine wSeqK fun KK45 hK45 => ?_
              refine wReg ?_
              iterate 2 refine p_one_w rfl ?_
              refine wN ?_
              refine tN (wKK hK45 ?_)
              refine wCf rfl ?_
              refine wSk ?_
              refine tN (wKK hK44 ?_)
              refine wReg ?_
              refine wLr rfl tybook_Book 0 rfl (bkL ((bn).conf) ((bn).index) ((bn).room) (.slice la30_2 ((bn).live.length) lc30_2) (.slice da30_2 ((bn).done.length) dc30_2) ((bn).modes)) rfl rfl ?_
              refine wSr rfl tybook_Book 17 rfl rfl rfl rfl (bkL ((bn).conf) ((bn).index) ((bn).room) (.slice la30_2 ((bn).live.length) lc30_2) (.slice da30_2 ((bn).done.length) dc30_2) ((bn).modes)) (by first | rfl | (simp only [spl]; rfl)) ?_
              refine wN ?_
              refine bN (tN (wKK hK21 ?_))
              refine wReg ?_
              iterate 2 refine p_one_w rfl ?_
              refine wI 50 rfl (IntWalk.i64_in _ (by omega)) ?_
              refine p_one_w rfl ?_
              refine wN ?_
              refine tN ?_
              intro aa ww nn dd hs H
              refine ⟨⟨i + 1, bn, lan, lcn, dan, dcn, ga25_6, gc25_6, (ys ++ [ch]), tr + 1, stl, (some ysn), xc, sn, la30_2, lc30_2, da30_2, dc30_2, (by omega), (by omega), (by simp; omega), (by rw [List.length_append]; simp; omega), (by omega), hsl, hIn, (Lib.hid (snOk_next hso.out hnx)), (Lib.hid (logOk_snoc hlg.out (by omega))), nn, dd, (sat_sub ⟨rfl, rfl, rfl, rfl, rfl, rfl, rfl, rfl, rfl, rfl, rfl, trivial⟩ hs), (hp_sel [3, 4, 15, 16, 17, 7, 8, 1, 2, 20, 21] H (by decide) rfl)⟩, ?_⟩
              have m9 := hs 9 _ rfl
              simp only [mu2_9, m9, intOf]
              omega
         refine wCond (E := x.kind == 5) rfl (fun z8 => ?_) (fun z8 => ?_)
         · skip
           have z8o : (x.kind != 5) = false := eqq_t z8
           refine wReg ?_
           refine p_one_w rfl ?_
           refine wLr rfl tybook_Book 4 rfl (bkL sb.conf sb.index sb.room (.slice sla sb.live.length slc) (.slice sda sb.done.length sdc) sb.modes) rfl rfl ?_
           refine p_one_w rfl ?_
           refine wLd rfl tyint 7 rfl rfl ?_
           iterate 2 refine p_one_w rfl ?_
           refine wI 92 rfl (IntWalk.i64_in _ (by omega)) ?_
           refine wC (l := [.agg (bkA sb.conf sb.index sb.room (.slice sla sb.live.length slc) (.slice sda sb.done.length sdc) sb.modes), .int .i64 x.n, .int .i64 (1 + m)]) Try.func14 rfl (by kernel_rfl) (fun wc H => cancelBC sb sla slc sda sdc x.n (1 + m) wc (hp_held H (by (repeat (first | exact List.Mem.head _ | apply List.Mem.tail)))) (hp_held H (by (repeat (first | exact List.Mem.head _ | apply List.Mem.tail)))) (Lib.hid hIs.out.ok) ) rfl rfl rfl rfl ?_
           intro wc H
           rintro er wd ⟨la22_6, lc22_6, da22_6, dc22_6, rfl, hg⟩
           have H2 := hp_gotB H hg.2.2.2.2 hg.1 hg.2.1 (by decide) (by decide) hg.2.2.1 hg.2.2.2.1 (List.forall_mem_cons.2 ⟨(by (repeat (first | exact List.Mem.head _ | apply List.Mem.tail))), List.forall_mem_cons.2 ⟨(by (repeat (first | exact List.Mem.head _ | apply List.Mem.tail))), fun _ h => by cases h⟩⟩)
           refine ⟨_, rfl, wkAt H2 ?_⟩
           clear H H2
           iterate 4 refine p_one_w rfl ?_
           refine wSr rfl tybook_Book 3 rfl rfl rfl rfl (bkL (((cancelBV sb x.n (1 + m)).1).conf) (((cancelBV sb x.n (1 + m)).1).index) (((cancelBV sb x.n (1 + m)).1).room) (.slice la22_6 (((cancelBV sb x.n (1 + m)).1).live.length) lc22_6) (.slice da22_6 (((cancelBV sb x.n (1 + m)).1).done.length) dc22_6) (((cancelBV sb x.n (1 + m)).1).modes)) (by first | rfl | (simp only [spl]; rfl)) ?_
           refine wSr rfl tyapi_Change 2 rfl rfl rfl rfl (chL ((cancelBV sb x.n (1 + m)).2.1)) (by first | rfl | (simp only [spl]; rfl)) ?_
           refine p_one_w rfl ?_
           refine wN ?_
           refine tN ?_
           intro aa ww nn dd hs H
           exact hjn1 ((cancelBV sb x.n (1 + m)).1) la22_6 lc22_6 da22_6 dc22_6 ((cancelBV sb x.n (1 + m)).2.1) ((cancelBV sb x.n (1 + m)).2.2) (Lib.hid (repT_cancel hIs.out _ _)) aa ww nn dd (sat_sub ⟨rfl, rfl, rfl, rfl, rfl, rfl, rfl, rfl, rfl, rfl, rfl, rfl, rfl, rfl, rfl, rfl, rfl, rfl, rfl, rfl, trivial⟩ hs) (hp_sel [3, 2, 0, 1, 6, 7, 8, 9, 10, 11, 12, 13, 14, 15, 16, 17, 18, 19, 20] H (by decide) rfl)
         · skip
           have z8o : (x.kind != 5) = true := eqq_f z8
           refine wSk ?_
           refine tN ?_
           intro aa ww nn dd hs H
           exact hjn1 ((placeV sb x.x (1 + m) 0).1) la20_6 lc20_6 da20_6 dc20_6 ((placeV sb x.x (1 + m) 0).2.1) ((placeV sb x.x (1 + m) 0).2.2) (Lib.hid (repT_place hIs.out (by omega) _ _ _)) aa ww nn dd (sat_sub ⟨rfl, rfl, rfl, rfl, rfl, rfl, rfl, rfl, rfl, rfl, rfl, rfl, rfl, rfl, rfl, rfl, rfl, rfl, rfl, rfl, trivial⟩ hs) (hp_sel [1, 0, 2, 3, 4, 5, 6, 7, 8, 9, 10, 11, 12, 13, 14, 15, 16, 17, 18] H (by decide) rfl)
     · skip
       intro aa ww nn dd hs H
       have hbi := hI.out.ok.index
       refine wIn nn dd hs H ?_
       refine wEx ?_
       refine tX (tX (bX (tN (wKK hK17 ?_))))
       refine wSeqK fun KK46 hK46 => ?_
       refine wReg ?_
       refine p_one_w rfl ?_
       refine wC (l := [.pointer (some ⟨v3_1, 0, none⟩), .int .i64 0]) Try.func36 rfl (by kernel_rfl) (fun wc H => sinceC v3_1 b la lc da dc c c.keys 0 ga gc ys tr stl 0 wc (H.out.blk 0 rfl) (hp_held (hp_read H 1 rfl) (by (repeat (first | exact List.Mem.head _ | apply List.Mem.tail)))) (by first | omega | (simp; done) | (simp; omega)) (by have h := rA_cap (H.out.at 1 rfl); rwa [List.length_map] at h)) rfl rfl rfl rfl ?_
       intro wc H
       rintro er wd ⟨a34_1, c34_1, rfl, hh, hf, ho⟩
       have H2 := hp_got H (Rs := []) ho hh (by decide) (From.new hf) (fun r hr => by cases hr)
       refine ⟨_, rfl, wkAt H2 ?_⟩
       clear H H2
       refine p_one_w rfl ?_
       refine wN ?_
       refine tN (wKK hK46 ?_)
       refine wSeqK fun KK47 hK47 => ?_
       refine wSeqK fun KK48 hK48 => ?_
       intro aa ww nn dd hs H
       have eR : (ys.drop (atN ys 0)) = ys := at_zero hlg.out
       rw [eR] at H hs
       refine wIn nn dd hs H ?_
       refine wReg ?_
       refine p_one_w rfl ?_
       refine wN ?_
       refine tN (wKK hK48 ?_)
       refine wBlk ?_
       refine wLoop (fun ab wv => ∃ q : Nat, (q ≤ ys.length) ∧ ab.tmps.size = 184 ∧ ab.defers = [] ∧ Sat [(0, .agg (cA c)), (1, .slice pa ds.length pc), (2, .pointer (some ⟨b2, 0, none⟩)), (5, .pointer (some ⟨v3_1, 0, none⟩)), (6, .slice xa sn.length xc), (7, .int .i64 k), (8, .pointer (some ⟨b8, 0, none⟩)), (9, .int .i64 i), (21, .slice a34_1 ys.length c34_1), (22, .int .i64 q), (24, .bool false), (28, .bool false), (31, .bool (decide ((k : Int) < 8))), (48, .bool ((decide (i < ds.length)) && (decide ((i : Int) < 80))))] ab ∧ Hid (Hp [] w wv [rS a34_1 c34_1 11 (ys.map chgRow), rB v3_1 115 (vtL b.conf b.index b.room (.slice la b.live.length lc) (.slice da b.done.length dc) b.modes c c.keys 0 (.slice ga ys.length gc) tr stl), rA ga gc 40 11 (ys.map chgRow), rA xa xc 84 47 (sn.map (snapRow c)), rSnaps sn, rB b8 33 (bkL b.conf b.index b.room (.slice ra b.live.length rc) (.slice sa b.done.length sc) b.modes), rS la lc 9 (b.live.map rowOf), rS da dc 8 (b.done.map callRow), rS ra rc 9 (b.live.map rowOf), rS sa sc 8 (b.done.map callRow), rB b2 24 (cL c), rS pa pc 11 (ds.map vactRow)])) (fun ab _ => ys.length - (intOf (ab.eval (.tmp 22))).toNat) (fun aa ww nn dd hs H => ⟨0, (by omega), nn, dd, (sat_sub ⟨rfl, rfl, rfl, rfl, rfl, rfl, rfl, rfl, rfl, rfl, rfl, rfl, rfl, rfl, trivial⟩ hs), H⟩) ?_
       rintro a3 wv ⟨q, hq, nn, dd, hs, H⟩
       have mu3_22 := hs 22 _ rfl
       refine wIn nn dd hs H ?_
       clear nn dd hs H
       refine wSeqK fun KK49 hK49 => ?_
       refine wSeqK fun KK50 hK50 => ?_
       refine wReg ?_
       iterate 2 refine p_one_w rfl ?_
       refine wE (.int .i64 ys.length) rfl rfl rfl (fun aa ww hs _ => by have e159 := hs 159 _ rfl; have g159 := gt_of e159; simp only [execOp]; go_simp <;> first | rfl | omega) ?_
       refine p_one_w rfl ?_
       refine wB (c := decide (q < ys.length)) 161 rfl (by simp) ?_
       refine wN ?_
       refine tN (wKK hK50 ?_)
       refine wCond (E := decide (q < ys.length)) rfl (fun z9 => ?_) (fun z9 => ?_)
       · skip
         have z9d : q < ys.length := of_decide_eq_true z9
         intro aa ww nn dd hs H
         obtain ⟨yk, rfl⟩ := some_of_row (i := q) (hp_held H (show rS a34_1 _ 11 (ys.map chgRow) ∈ _ by (repeat (first | exact List.Mem.head _ | apply List.Mem.tail)))) (by simp; omega)
         obtain ⟨z, hz⟩ : ∃ z, ys[q]? = some z := ⟨ys[q], List.getElem?_eq_getElem (by omega)⟩
         have HRz := Lib.hid (show (ys.map chgRow)[q]? = some [.int .i64 z.index, .int .i64 z.call.id, .int .i64 z.call.kind, .int .i64 z.call.src, .int .i64 z.call.dst, .int .i64 z.call.car, .int .i64 z.call.state, .int .i64 z.call.owner, .int .i64 z.call.born, .int .i64 z.car, .int .i64 z.mode] by rw [List.getElem?_map, hz]; rfl)
         have hzi := hlg.out q z hz
         clear hz
         have hzq : (z.index != ((q : Int) + 1)) = false := by rw [hzi]; simp
         clear hzi
         refine wIn nn dd hs H ?_
         refine wSk ?_
         refine tN (wKK hK49 ?_)
         refine wSeqK fun KK51 hK51 => ?_
         refine wBlk ?_
         refine wSeqK fun KK52 hK52 => ?_
         refine wReg ?_
         iterate 2 refine p_one_w rfl ?_
         refine wE (.pointer (some (yk.add (q * 11)))) rfl rfl rfl (fun aa ww hs _ => by have e164 := hs 164 _ rfl; have g164 := gt_of e164; have e165 := hs 165 _ rfl; have g165 := gt_of e165; simp only [execOp]; go_simp <;> first | rfl | omega) ?_
         refine wE (.pointer (some (yk.add (q * 11)))) rfl rfl rfl (fun aa ww hs _ => by have e166 := hs 166 _ rfl; have g166 := gt_of e166; simp only [execOp]; go_simp <;> first | rfl | omega) ?_
         refine wX 168 (.int .i64 z.index) rfl (fun aa ww KK hs H _ hk => hpS_load1 0 tyint H (y := yk) rfl (hs _ _ rfl) (wnt_ok hs rfl) (by (repeat (first | exact List.Mem.head _ | apply List.Mem.tail))) HRz.out (by rfl) (by simp [Addr.add]) hk) ?_
         iterate 2 refine p_one_w rfl ?_
         refine wI 170 rfl (IntWalk.i64_in _ (by omega)) ?_
         refine p_one_w rfl ?_
         refine wB 171 rfl hzq ?_
         refine wN ?_
         refine tN (wKK hK52 ?_)
         refine wCf rfl ?_
         refine wSk ?_
         refine bN (tN (wKK hK51 ?_))
         refine wReg ?_
         iterate 2 refine p_one_w rfl ?_
         refine wI 163 rfl (IntWalk.i64_in _ (by omega)) ?_
         refine p_one_w rfl ?_
         refine wN ?_
         refine tN ?_
         intro aa ww nn dd hs H
         refine ⟨⟨q + 1, (by omega), nn, dd, (sat_sub ⟨rfl, rfl, rfl, rfl, rfl, rfl, rfl, rfl, rfl, rfl, rfl, rfl, rfl, rfl, trivial⟩ hs), (Lib.hid (H.out.sub (by repeat (first | exact List.Sublist.refl _ | apply List.Sublist.cons₂ | apply List.Sublist.cons))))⟩, ?_⟩
         have m22 := hs 22 _ rfl
         simp only [mu3_22, m22, intOf]
         omega
       · skip
         have z9d : ¬ (q < ys.length) := of_decide_eq_false z9
         refine wEx ?_
         refine tX (tX (bX (tN (wKK hK47 ?_))))
         refine wSeqK fun KK53 hK53 => ?_
         intro aa ww nn dd hs H
         have hlb : (((ys.length : Nat) : Int) == b.index) = true := by simp; omega
         refine wIn nn dd hs H ?_
         intro aa ww nn dd hs H
         refine one_w_r40 c pa pc ds b2 v3_1 k b8 i b la lc da dc ga gc ys tr stl xa xc sn ra rc sa sc a34_1 c34_1 q hk z2d hi hi2 hyl hbx htr hsl hI hbi hq z9d hlb H aa nn (hs 5 _ rfl) (hs 8 _ rfl) (hs 21 _ rfl) ?_
         intro ab wv nn2 dd2 kp o4 H2
         refine wIn nn2 (dd2.trans dd) (Sat.cons (Sat.cons (Sat.cons (Sat.cons (Sat.cons (Sat.cons (Sat.cons (Sat.cons (Sat.cons (Sat.cons (Sat.cons (Sat.cons (Sat.cons (Sat.cons (Sat.cons (Sat.cons (sat_nil ab) ((kp 161 rfl).trans (hs 161 _ rfl))) ((kp 48 rfl).trans (hs 48 _ rfl))) ((kp 31 rfl).trans (hs 31 _ rfl))) ((kp 28 rfl).trans (hs 28 _ rfl))) ((kp 24 rfl).trans (hs 24 _ rfl))) ((kp 22 rfl).trans (hs 22 _ rfl))) ((kp 21 rfl).trans (hs 21 _ rfl))) ((kp 9 rfl).trans (hs 9 _ rfl))) ((kp 8 rfl).trans (hs 8 _ rfl))) ((kp 7 rfl).trans (hs 7 _ rfl))) ((kp 6 rfl).trans (hs 6 _ rfl))) ((kp 5 rfl).trans (hs 5 _ rfl))) ((kp 2 rfl).trans (hs 2 _ rfl))) ((kp 1 rfl).trans (hs 1 _ rfl))) ((kp 0 rfl).trans (hs 0 _ rfl))) o4) H2 ?_
         clear hs H kp H2 dd dd2 nn nn2 o4
         refine tN (wKK hK53 ?_)
         refine wRet ?_
         exact wR1 rfl rfl (fun ww H => ⟨rfl, H.out.off⟩)
end Go.Proofs.Ytnanihffljpdbaa.Bk
