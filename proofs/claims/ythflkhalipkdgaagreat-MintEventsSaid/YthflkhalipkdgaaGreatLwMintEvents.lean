/- Layer 35: MintEvents. -/
import Derived.Test.YthflkhalipkdgaaGreatProg
import Derived.Below
import Derived.WalkKit
import Derived.KernelRfl
import Derived.RowKit3
import Derived.Deep.LoopGhost
import Derived.Deep.QuietTactic
import Derived.BigQuiet
import Derived.WideLaws
import Derived.Deep.DeepCutAuto
import Derived.Deep.CutBlock
import Derived.Lib.Hide
import Derived.Laws.BitsLemmas
import Derived.Laws.Bits64
import Derived.Laws.BitsAllLaws
import Derived.IntWalk
import Derived.Outline
import Derived.WalkSpells
import Derived.Test.YthflkhalipkdgaaGreatGA
import Derived.Test.YthflkhalipkdgaaGreatMr3
namespace Go.Proofs.YthflkhalipkdgaaGreat.Mn
set_option maxRecDepth 20000
open Go.RowKit Go.Proofs.YthflkhalipkdgaaGreat.Mem Go.Proofs.YthflkhalipkdgaaGreat.Reg Go.Proofs.YthflkhalipkdgaaGreat.Wk Go.Proofs.YthflkhalipkdgaaGreat.Si Go.Proofs.YthflkhalipkdgaaGreat.Ca Go.Proofs.YthflkhalipkdgaaGreat.Ms Go.Proofs.YthflkhalipkdgaaGreat.Fr Go.Proofs.YthflkhalipkdgaaGreat.Bld
set_option linter.unusedVariables false
set_option linter.unusedSimpArgs false

theorem evAll_bad {s : Nat} {c : Cfg} {n : Int} (h : (((!(checkV c == 0)) || decide (n < 0)) || decide (16384 < n)) = true) : (((evAll s c n).length : Int) == 0) = true := by
  have h2 : (((checkV c != 0) || decide (n < 0)) || decide (16384 < n)) = true := h
  unfold evAll
  rw [h2]
  rfl
theorem evAll_ok {c : Cfg} {n : Int} (h : (((!(checkV c == 0)) || decide (n < 0)) || decide (16384 < n)) = false) : (checkV c != 0) = false ∧ 0 ≤ n ∧ n ≤ 16384 := by
  have h1 := Bool.or_eq_false_iff.1 h
  have h2 := Bool.or_eq_false_iff.1 h1.1
  have h3 := of_decide_eq_false h2.2
  have h4 := of_decide_eq_false h1.2
  exact ⟨h2.1, by omega, by omega⟩
def tab_eventsM : Wk.Tab := []
theorem p_eventsM {ops : Array Oper} {rest : List Oper} {o : Oper} {w0 : World} {Q : Exit → Act → World → Prop} {S : List Nat} {R : List Res} {K K' : Wk.Env} {N : Nat} (h : Wk.stp tab_eventsM N ops K o = some K') (n : Wk.Wk N S w0 K' R (wpList Tryz.prog ops Q rest)) : Wk.Wk N S w0 K R (wpList Tryz.prog ops Q (o :: rest)) := Wk.wP (T := tab_eventsM) (by kernel_rfl) h n
set_option maxRecDepth 20000 in
theorem eventsM_r3 (s : Nat) (c : Cfg) (n : Int) (b4 : Nat) (hsl : s < 18446744073709551616) (hsec : 0 ≤ c.secret ∧ c.secret ≤ 4294967295) {wa wb : World} (H : Hid (Hp [] wa wb [rB b4 25 (cL c)])) (ac0 : Act) (hz : ac0.tmps.size = 74) (so0 : ac0.eval (.tmp 0) = .int .u64 s) (so2 : ac0.eval (.tmp 2) = .int .i64 n) (so4 : ac0.eval (.tmp 4) = .pointer (some ⟨b4, 0, none⟩)) {QR : Exit → Act → World → Prop} (hfin : ∀ (b3_1 : Nat) (a3_4 : Option Addr) (c3_4 : Nat) (ac1 : Act) (wz : World), ac1.tmps.size = 74 → ac1.defers = ac0.defers → (∀ t, ([7, 12, 13, 14, 15, 16] : List Nat).contains t = false → ac1.eval (.tmp t) = ac0.eval (.tmp t)) → ac1.eval (.tmp 7) = .slice a3_4 ((evAll (seedV s) c n).length) c3_4 →  Hid (Hp [] wa wz [rS a3_4 c3_4 3 ((evAll (seedV s) c n).map evRow), rB b4 25 (cL c)]) → QR .normal ac1 wz) : (regAt Tryz.f4 3).wp Tryz.prog QR ac0 wb := by
  refine wp_region_st mixedP ⟨[0, 1, 0, 0, 2, 3], by kernel_rfl⟩ [[], [0], [], [], [0, 1, 2, 3], [0, 1, 2, 3, 4]] (by kernel_rfl) (by kernel_rfl) 74 hz (by kernel_rfl) (fun (xx : Nat × Option Addr × Nat) jx => match xx with | (b3_1, a3_4, c3_4) => nth [.int .u64 s, .pointer (some ⟨b3_1, 0, none⟩), .agg (cA c), .int .i64 n, .slice a3_4 ((evAll (seedV s) c n).length) c3_4, .slice a3_4 ((evAll (seedV s) c n).length) c3_4] jx) (fun (LL : Nat → Bool) (xx : Nat × Option Addr × Nat) ww => match xx with | (b3_1, a3_4, c3_4) => Hp [] wa ww (bif LL 1 then (bif LL 4 then [rS a3_4 c3_4 3 ((evAll (seedV s) c n).map evRow), rB b4 25 (cL c)] else [rB b3_1 61 [.int .u64 (seedV s)], rB b4 25 (cL c)]) else [rB b4 25 (cL c)])) (default, default, default) H.out.drew ?_ (steps_al ?_) ?_ ?_
  · intro L1 L2 xx ww hL sg
    have lh1 := hL 1 (by decide)
    have lh4 := hL 4 (by decide)
    simp only [lh1, lh4] at sg
    exact sg
  · refine al_cons ?_ (al_cons ?_ (al_cons ?_ (al_cons ?_ (al_cons ?_ (al_cons ?_ (al_nil))))))
    · intro LL xx ac wc sg hst hwant QQ hgo
      obtain ⟨b3_1, a3_4, c3_4⟩ := xx
      exact op_val hwant hgo hst _ (exec_move rfl ((sg.free 0 (by kernel_rfl)).trans so0)) rfl
    · intro LL xx ac wc sg hst hwant QQ hgo
      obtain ⟨_, a3_4, c3_4⟩ := xx
      have se12 : ac.eval (.tmp 12) = _ := (sg.slot 0 (sg.anc 0 rfl))
      have sg12 := gt_of se12
      (try simp only [nth] at se12 sg12)
      have H := Lib.hid hst
      simp only [sg.self, sg.des 4 rfl, cond_true, cond_false] at H
      refine op_call hwant hgo 6 #[.int .u64 s] (by simp only [execOp]; go_simp) (newC s wc) ?_
      rintro er wd ⟨b3_1, rfl, hb, hlt, ho⟩
      have H2 := hp_gotBk H ho hb hlt
      exact ⟨_, (b3_1, a3_4, c3_4), rfl, (sg.agree (x' := (b3_1, a3_4, c3_4)) (n := 6) rfl (by (iterate 6 (refine ix_cons (by first | exact fun _ => rfl | exact no sg.self | exact no (sg.des _ rfl)) ?_)); exact ix_nil)), rfl, (by simp only [(show upd LL 1 1 = true from rfl), (show upd LL 1 4 = LL 4 from rfl), sg.des 4 rfl, cond_true, cond_false]; exact H2.out)⟩
    · intro LL xx ac wc sg hst hwant QQ hgo
      obtain ⟨b3_1, a3_4, c3_4⟩ := xx
      rcases Bool.eq_false_or_eq_true (LL 1) with lh1 | lh1
      · skip
        have H := Lib.hid hst
        simp only [lh1, sg.des 4 rfl, cond_true, cond_false] at H
        refine hpA_load tyapi_Config H rfl ((sg.free 4 (by kernel_rfl)).trans so4) hwant (by (repeat (first | exact List.Mem.head _ | apply List.Mem.tail))) (by rfl) rfl ?_
        exact hgo _ (b3_1, a3_4, c3_4) _ (fun _ _ => rfl) rfl hst
      · skip
        have H := Lib.hid hst
        simp only [lh1, sg.des 4 rfl, cond_true, cond_false] at H
        refine hpA_load tyapi_Config H rfl ((sg.free 4 (by kernel_rfl)).trans so4) hwant (by (repeat (first | exact List.Mem.head _ | apply List.Mem.tail))) (by rfl) rfl ?_
        exact hgo _ (b3_1, a3_4, c3_4) _ (fun _ _ => rfl) rfl hst
    · intro LL xx ac wc sg hst hwant QQ hgo
      obtain ⟨b3_1, a3_4, c3_4⟩ := xx
      exact op_val hwant hgo hst _ (exec_move rfl ((sg.free 2 (by kernel_rfl)).trans so2)) rfl
    · intro LL xx ac wc sg hst hwant QQ hgo
      obtain ⟨b3_1, _, _⟩ := xx
      have se13 : ac.eval (.tmp 13) = _ := (sg.slot 1 (sg.anc 1 rfl))
      have sg13 := gt_of se13
      have se14 : ac.eval (.tmp 14) = _ := (sg.slot 2 (sg.anc 2 rfl))
      have sg14 := gt_of se14
      have se15 : ac.eval (.tmp 15) = _ := (sg.slot 3 (sg.anc 3 rfl))
      have sg15 := gt_of se15
      (try simp only [nth] at se13 sg13 se14 sg14 se15 sg15)
      have H := Lib.hid hst
      simp only [sg.anc 1 rfl, sg.self, cond_true, cond_false] at H
      refine op_call hwant hgo 15 #[.pointer (some ⟨b3_1, 0, none⟩), .agg (cA c), .int .i64 n] (by simp only [execOp]; go_simp) (eventsC b3_1 (seedV s) c n wc (H.out.blk 0 rfl) (seedV_lt hsl)) ?_
      rintro er wd ⟨a3_4, c3_4, rfl, hh, hf, ho⟩
      have H2 := hp_gone H 0 rfl ho hh (by decide) hf
      exact ⟨_, (b3_1, a3_4, c3_4), rfl, (sg.agree (x' := (b3_1, a3_4, c3_4)) (n := 6) rfl (by (iterate 6 (refine ix_cons (by first | exact fun _ => rfl | exact no sg.self | exact no (sg.des _ rfl)) ?_)); exact ix_nil)), rfl, (by simp only [(show upd LL 4 1 = LL 1 from rfl), sg.anc 1 rfl, (show upd LL 4 4 = true from rfl), cond_true, cond_false]; exact H2.out)⟩
    · intro LL xx ac wc sg hst hwant QQ hgo
      obtain ⟨b3_1, a3_4, c3_4⟩ := xx
      exact op_val hwant hgo hst _ (exec_assign rfl (sg.slot 4 (sg.anc 4 rfl))) rfl
  · exact skips [] (by kernel_rfl) (fun _ h => by cases h)
  · intro xx ac1 wz hfr hsl hst
    obtain ⟨b3_1, a3_4, c3_4⟩ := xx
    exact hfin b3_1 a3_4 c3_4 ac1 wz (hfr.size.trans hz) hfr.defers (fr_keep hfr [7, 12, 13, 14, 15, 16] (by kernel_rfl)) (hsl 5 (by decide)) (Lib.hid hst)
set_option maxRecDepth 20000 in
theorem eventsM_r8 (s : Nat) (c : Cfg) (n : Int) (b4 : Nat) (a3_4 : Option Addr) (c3_4 : Nat) (hsl : s < 18446744073709551616) (hsec : 0 ≤ c.secret ∧ c.secret ≤ 4294967295) (z3lrd : ¬ (n < 0)) (z3rd : ¬ (16384 < n)) (hck : (checkV c != 0) = false) (hnn : 0 ≤ n ∧ n ≤ 16384) (hln : (evAll (seedV s) c n).length = n.toNat) (z4d : ¬ (400 < n)) (hn4 : n ≤ 400) {wa wb : World} (H : Hid (Hp [] wa wb [rS a3_4 c3_4 3 ((evAll (seedV s) c n).map evRow), rB b4 25 (cL c)])) (ac0 : Act) (hz : ac0.tmps.size = 74) (so0 : ac0.eval (.tmp 0) = .int .u64 s) (so2 : ac0.eval (.tmp 2) = .int .i64 n) (so4 : ac0.eval (.tmp 4) = .pointer (some ⟨b4, 0, none⟩)) {QR : Exit → Act → World → Prop} (hfin : ∀ (b8_1 : Nat) (a8_4 : Option Addr) (c8_4 : Nat) (ac1 : Act) (wz : World), ac1.tmps.size = 74 → ac1.defers = ac0.defers → (∀ t, ([8, 37, 38, 39, 40, 41] : List Nat).contains t = false → ac1.eval (.tmp t) = ac0.eval (.tmp t)) → ac1.eval (.tmp 8) = .slice a8_4 ((evAll (seedV s) c n).length) c8_4 →  Hid (Hp [] wa wz [rS a8_4 c8_4 3 ((evAll (seedV s) c n).map evRow), rS a3_4 c3_4 3 ((evAll (seedV s) c n).map evRow), rB b4 25 (cL c)]) → QR .normal ac1 wz) : (regAt Tryz.f4 8).wp Tryz.prog QR ac0 wb := by
  refine wp_region_st mixedP ⟨[0, 1, 0, 0, 2, 3], by kernel_rfl⟩ [[], [0], [], [], [0, 1, 2, 3], [0, 1, 2, 3, 4]] (by kernel_rfl) (by kernel_rfl) 74 hz (by kernel_rfl) (fun (xx : Nat × Option Addr × Nat) jx => match xx with | (b8_1, a8_4, c8_4) => nth [.int .u64 s, .pointer (some ⟨b8_1, 0, none⟩), .agg (cA c), .int .i64 n, .slice a8_4 ((evAll (seedV s) c n).length) c8_4, .slice a8_4 ((evAll (seedV s) c n).length) c8_4] jx) (fun (LL : Nat → Bool) (xx : Nat × Option Addr × Nat) ww => match xx with | (b8_1, a8_4, c8_4) => Hp [] wa ww (bif LL 1 then (bif LL 4 then [rS a8_4 c8_4 3 ((evAll (seedV s) c n).map evRow), rS a3_4 c3_4 3 ((evAll (seedV s) c n).map evRow), rB b4 25 (cL c)] else [rB b8_1 63 [.int .u64 (seedV s)], rS a3_4 c3_4 3 ((evAll (seedV s) c n).map evRow), rB b4 25 (cL c)]) else [rS a3_4 c3_4 3 ((evAll (seedV s) c n).map evRow), rB b4 25 (cL c)])) (default, default, default) H.out.drew ?_ (steps_al ?_) ?_ ?_
  · intro L1 L2 xx ww hL sg
    have lh1 := hL 1 (by decide)
    have lh4 := hL 4 (by decide)
    simp only [lh1, lh4] at sg
    exact sg
  · refine al_cons ?_ (al_cons ?_ (al_cons ?_ (al_cons ?_ (al_cons ?_ (al_cons ?_ (al_nil))))))
    · intro LL xx ac wc sg hst hwant QQ hgo
      obtain ⟨b8_1, a8_4, c8_4⟩ := xx
      exact op_val hwant hgo hst _ (exec_move rfl ((sg.free 0 (by kernel_rfl)).trans so0)) rfl
    · intro LL xx ac wc sg hst hwant QQ hgo
      obtain ⟨_, a8_4, c8_4⟩ := xx
      have se37 : ac.eval (.tmp 37) = _ := (sg.slot 0 (sg.anc 0 rfl))
      have sg37 := gt_of se37
      (try simp only [nth] at se37 sg37)
      have H := Lib.hid hst
      simp only [sg.self, sg.des 4 rfl, cond_true, cond_false] at H
      refine op_call hwant hgo 7 #[.int .u64 s] (by simp only [execOp]; go_simp) (newRC s wc) ?_
      rintro er wd ⟨b8_1, rfl, hb, hlt, ho⟩
      have H2 := hp_gotBk H ho hb hlt
      exact ⟨_, (b8_1, a8_4, c8_4), rfl, (sg.agree (x' := (b8_1, a8_4, c8_4)) (n := 6) rfl (by (iterate 6 (refine ix_cons (by first | exact fun _ => rfl | exact no sg.self | exact no (sg.des _ rfl)) ?_)); exact ix_nil)), rfl, (by simp only [(show upd LL 1 1 = true from rfl), (show upd LL 1 4 = LL 4 from rfl), sg.des 4 rfl, cond_true, cond_false]; exact H2.out)⟩
    · intro LL xx ac wc sg hst hwant QQ hgo
      obtain ⟨b8_1, a8_4, c8_4⟩ := xx
      rcases Bool.eq_false_or_eq_true (LL 1) with lh1 | lh1
      · skip
        have H := Lib.hid hst
        simp only [lh1, sg.des 4 rfl, cond_true, cond_false] at H
        refine hpA_load tyapi_Config H rfl ((sg.free 4 (by kernel_rfl)).trans so4) hwant (by (repeat (first | exact List.Mem.head _ | apply List.Mem.tail))) (by rfl) rfl ?_
        exact hgo _ (b8_1, a8_4, c8_4) _ (fun _ _ => rfl) rfl hst
      · skip
        have H := Lib.hid hst
        simp only [lh1, sg.des 4 rfl, cond_true, cond_false] at H
        refine hpA_load tyapi_Config H rfl ((sg.free 4 (by kernel_rfl)).trans so4) hwant (by (repeat (first | exact List.Mem.head _ | apply List.Mem.tail))) (by rfl) rfl ?_
        exact hgo _ (b8_1, a8_4, c8_4) _ (fun _ _ => rfl) rfl hst
    · intro LL xx ac wc sg hst hwant QQ hgo
      obtain ⟨b8_1, a8_4, c8_4⟩ := xx
      exact op_val hwant hgo hst _ (exec_move rfl ((sg.free 2 (by kernel_rfl)).trans so2)) rfl
    · intro LL xx ac wc sg hst hwant QQ hgo
      obtain ⟨b8_1, _, _⟩ := xx
      have se38 : ac.eval (.tmp 38) = _ := (sg.slot 1 (sg.anc 1 rfl))
      have sg38 := gt_of se38
      have se39 : ac.eval (.tmp 39) = _ := (sg.slot 2 (sg.anc 2 rfl))
      have sg39 := gt_of se39
      have se40 : ac.eval (.tmp 40) = _ := (sg.slot 3 (sg.anc 3 rfl))
      have sg40 := gt_of se40
      (try simp only [nth] at se38 sg38 se39 sg39 se40 sg40)
      have H := Lib.hid hst
      simp only [sg.anc 1 rfl, sg.self, cond_true, cond_false] at H
      refine op_call hwant hgo 17 #[.pointer (some ⟨b8_1, 0, none⟩), .agg (cA c), .int .i64 n] (by simp only [execOp]; go_simp) (eventsRI b8_1 (seedV s) c n wc (H.out.blk 0 rfl) (seedV_lt hsl) hck (by omega) hsec) ?_
      rintro er wd ⟨a8_4, c8_4, rfl, hh, hf, ho⟩
      have H2 := hp_gone H 0 rfl ho hh (by decide) hf
      exact ⟨_, (b8_1, a8_4, c8_4), rfl, (sg.agree (x' := (b8_1, a8_4, c8_4)) (n := 6) rfl (by (iterate 6 (refine ix_cons (by first | exact fun _ => rfl | exact no sg.self | exact no (sg.des _ rfl)) ?_)); exact ix_nil)), rfl, (by simp only [(show upd LL 4 1 = LL 1 from rfl), sg.anc 1 rfl, (show upd LL 4 4 = true from rfl), cond_true, cond_false]; exact H2.out)⟩
    · intro LL xx ac wc sg hst hwant QQ hgo
      obtain ⟨b8_1, a8_4, c8_4⟩ := xx
      exact op_val hwant hgo hst _ (exec_assign rfl (sg.slot 4 (sg.anc 4 rfl))) rfl
  · exact skips [] (by kernel_rfl) (fun _ h => by cases h)
  · intro xx ac1 wz hfr hsl hst
    obtain ⟨b8_1, a8_4, c8_4⟩ := xx
    exact hfin b8_1 a8_4 c8_4 ac1 wz (hfr.size.trans hz) hfr.defers (fr_keep hfr [8, 37, 38, 39, 40, 41] (by kernel_rfl)) (hsl 5 (by decide)) (Lib.hid hst)
set_option maxRecDepth 20000 in
theorem eventsM_r14 (s : Nat) (c : Cfg) (n : Int) (b4 : Nat) (c3_4 : Nat) (c8_4 : Nat) (i : Nat) (y1 : Addr) (y2 : Addr) (x : EvV) (hsl : s < 18446744073709551616) (hsec : 0 ≤ c.secret ∧ c.secret ≤ 4294967295) (z3lrd : ¬ (n < 0)) (z3rd : ¬ (16384 < n)) (hck : (checkV c != 0) = false) (hnn : 0 ≤ n ∧ n ≤ 16384) (hln : (evAll (seedV s) c n).length = n.toNat) (z4d : ¬ (400 < n)) (hn4 : n ≤ 400) (hi : i ≤ (evAll (seedV s) c n).length) (z5d : i < ((evAll (seedV s) c n).length)) (HRx : Hid (((evAll (seedV s) c n).map evRow)[i]? = some [.int .i64 x.kind, .int .i64 x.n, .string x.data])) {wa wb : World} (H : Hid (Hp [] wa wb [rS (some y1) c8_4 3 ((evAll (seedV s) c n).map evRow), rS (some y2) c3_4 3 ((evAll (seedV s) c n).map evRow), rB b4 25 (cL c)])) (ac0 : Act) (hz : ac0.tmps.size = 74) (so7 : ac0.eval (.tmp 7) = .slice (some y2) ((evAll (seedV s) c n).length) c3_4) (so8 : ac0.eval (.tmp 8) = .slice (some y1) ((evAll (seedV s) c n).length) c8_4) (so9 : ac0.eval (.tmp 9) = .int .i64 i) {QR : Exit → Act → World → Prop} (hfin : ∀ (ac1 : Act) (wz : World), ac1.tmps.size = 74 → ac1.defers = ac0.defers → (∀ t, ([53, 54, 55, 56, 57, 58, 59, 60, 61, 62, 63, 64, 65, 66, 67, 68, 69, 70, 71, 72, 73] : List Nat).contains t = false → ac1.eval (.tmp t) = ac0.eval (.tmp t)) → ac1.eval (.tmp 73) = .bool false →  Hid (Hp [] wa wz [rS (some y1) c8_4 3 ((evAll (seedV s) c n).map evRow), rS (some y2) c3_4 3 ((evAll (seedV s) c n).map evRow), rB b4 25 (cL c)]) → QR .normal ac1 wz) : (regAt Tryz.f4 14).wp Tryz.prog QR ac0 wb := by
  refine wp_region_st mixedP ⟨[0, 0, 1, 2, 0, 0, 1, 2, 3, 0, 0, 1, 2, 3, 0, 0, 1, 2, 3, 4, 5], by kernel_rfl⟩ [[], [], [0, 1], [0, 1, 2], [], [], [4, 5], [4, 5, 6], [4, 5, 6, 7], [], [], [9, 10], [9, 10, 11], [9, 10, 11, 12], [], [], [14, 15], [14, 15, 16], [14, 15, 16, 17], [4, 5, 6, 7, 8, 9, 10, 11, 12, 13, 14, 15, 16, 17, 18], [0, 1, 2, 3, 4, 5, 6, 7, 8, 9, 10, 11, 12, 13, 14, 15, 16, 17, 18, 19]] (by kernel_rfl) (by kernel_rfl) 74 hz (by kernel_rfl) (fun (xx : Unit) jx => nth [.slice (some y2) ((evAll (seedV s) c n).length) c3_4, .int .i64 i, .pointer (some (y2.add (i * 3))), .agg #[.int .i64 x.kind, .int .i64 x.n, .string x.data], .slice (some y1) ((evAll (seedV s) c n).length) c8_4, .int .i64 i, .pointer (some (y1.add (i * 3))), .pointer (some (y1.add (i * 3))), .int .i64 x.kind, .slice (some y1) ((evAll (seedV s) c n).length) c8_4, .int .i64 i, .pointer (some (y1.add (i * 3))), .pointer (some ⟨(y1.add (i * 3)).block, (y1.add (i * 3)).off + 1, none⟩), .int .i64 x.n, .slice (some y1) ((evAll (seedV s) c n).length) c8_4, .int .i64 i, .pointer (some (y1.add (i * 3))), .pointer (some ⟨(y1.add (i * 3)).block, (y1.add (i * 3)).off + 2, none⟩), .string x.data, .agg #[.int .i64 x.kind, .int .i64 x.n, .string x.data], .bool false] jx) (fun (LL : Nat → Bool) (xx : Unit) ww => Hp [] wa ww [rS (some y1) c8_4 3 ((evAll (seedV s) c n).map evRow), rS (some y2) c3_4 3 ((evAll (seedV s) c n).map evRow), rB b4 25 (cL c)]) () H.out.drew ?_ (steps_al ?_) ?_ ?_
  · exact fun _ _ _ _ _ h => h
  · refine al_cons ?_ (al_cons ?_ (al_cons ?_ (al_cons ?_ (al_cons ?_ (al_cons ?_ (al_cons ?_ (al_cons ?_ (al_cons ?_ (al_cons ?_ (al_cons ?_ (al_cons ?_ (al_cons ?_ (al_cons ?_ (al_cons ?_ (al_cons ?_ (al_cons ?_ (al_cons ?_ (al_cons ?_ (al_cons ?_ (al_cons ?_ (al_nil)))))))))))))))))))))
    · intro LL xx ac wc sg hst hwant QQ hgo
      exact op_val hwant hgo hst _ (exec_move rfl ((sg.free 7 (by kernel_rfl)).trans so7)) rfl
    · intro LL xx ac wc sg hst hwant QQ hgo
      exact op_val hwant hgo hst _ (exec_move rfl ((sg.free 9 (by kernel_rfl)).trans so9)) rfl
    · intro LL xx ac wc sg hst hwant QQ hgo
      have se53 : ac.eval (.tmp 53) = _ := (sg.slot 0 (sg.anc 0 rfl))
      have sg53 := gt_of se53
      have se54 : ac.eval (.tmp 54) = _ := (sg.slot 1 (sg.anc 1 rfl))
      have sg54 := gt_of se54
      (try simp only [nth] at se53 sg53 se54 sg54)
      exact op_val hwant hgo hst _ (by simp only [execOp, nth]; go_simp <;> omega) rfl
    · intro LL xx ac wc sg hst hwant QQ hgo
      have H := Lib.hid hst
      refine hpS_load tyhouse_Event H (y := y2) rfl (sg.slot 2 (sg.anc 2 rfl)) hwant (by (repeat (first | exact List.Mem.head _ | apply List.Mem.tail))) HRx.out rfl ?_
      exact hgo _ () _ (fun _ _ => rfl) rfl hst
    · intro LL xx ac wc sg hst hwant QQ hgo
      exact op_val hwant hgo hst _ (exec_move rfl ((sg.free 8 (by kernel_rfl)).trans so8)) rfl
    · intro LL xx ac wc sg hst hwant QQ hgo
      exact op_val hwant hgo hst _ (exec_move rfl ((sg.free 9 (by kernel_rfl)).trans so9)) rfl
    · intro LL xx ac wc sg hst hwant QQ hgo
      have se57 : ac.eval (.tmp 57) = _ := (sg.slot 4 (sg.anc 4 rfl))
      have sg57 := gt_of se57
      have se58 : ac.eval (.tmp 58) = _ := (sg.slot 5 (sg.anc 5 rfl))
      have sg58 := gt_of se58
      (try simp only [nth] at se57 sg57 se58 sg58)
      exact op_val hwant hgo hst _ (by simp only [execOp, nth]; go_simp <;> omega) rfl
    · intro LL xx ac wc sg hst hwant QQ hgo
      have se59 : ac.eval (.tmp 59) = _ := (sg.slot 6 (sg.anc 6 rfl))
      have sg59 := gt_of se59
      (try simp only [nth] at se59 sg59)
      exact op_val hwant hgo hst _ (by simp only [execOp, nth]; go_simp <;> omega) rfl
    · intro LL xx ac wc sg hst hwant QQ hgo
      have H := Lib.hid hst
      refine hpS_load1 0 tyint H (y := y1) rfl (sg.slot 7 (sg.anc 7 rfl)) hwant (by (repeat (first | exact List.Mem.head _ | apply List.Mem.tail))) HRx.out (by rfl) (by simp [Addr.add]) ?_
      exact hgo _ () _ (fun _ _ => rfl) rfl hst
    · intro LL xx ac wc sg hst hwant QQ hgo
      exact op_val hwant hgo hst _ (exec_move rfl ((sg.free 8 (by kernel_rfl)).trans so8)) rfl
    · intro LL xx ac wc sg hst hwant QQ hgo
      exact op_val hwant hgo hst _ (exec_move rfl ((sg.free 9 (by kernel_rfl)).trans so9)) rfl
    · intro LL xx ac wc sg hst hwant QQ hgo
      have se62 : ac.eval (.tmp 62) = _ := (sg.slot 9 (sg.anc 9 rfl))
      have sg62 := gt_of se62
      have se63 : ac.eval (.tmp 63) = _ := (sg.slot 10 (sg.anc 10 rfl))
      have sg63 := gt_of se63
      (try simp only [nth] at se62 sg62 se63 sg63)
      exact op_val hwant hgo hst _ (by simp only [execOp, nth]; go_simp <;> omega) rfl
    · intro LL xx ac wc sg hst hwant QQ hgo
      have se64 : ac.eval (.tmp 64) = _ := (sg.slot 11 (sg.anc 11 rfl))
      have sg64 := gt_of se64
      (try simp only [nth] at se64 sg64)
      exact op_val hwant hgo hst _ (by simp only [execOp, nth]; go_simp <;> omega) rfl
    · intro LL xx ac wc sg hst hwant QQ hgo
      have H := Lib.hid hst
      refine hpS_load1 1 tyint H (y := y1) rfl (sg.slot 12 (sg.anc 12 rfl)) hwant (by (repeat (first | exact List.Mem.head _ | apply List.Mem.tail))) HRx.out (by rfl) (by simp [Addr.add]) ?_
      exact hgo _ () _ (fun _ _ => rfl) rfl hst
    · intro LL xx ac wc sg hst hwant QQ hgo
      exact op_val hwant hgo hst _ (exec_move rfl ((sg.free 8 (by kernel_rfl)).trans so8)) rfl
    · intro LL xx ac wc sg hst hwant QQ hgo
      exact op_val hwant hgo hst _ (exec_move rfl ((sg.free 9 (by kernel_rfl)).trans so9)) rfl
    · intro LL xx ac wc sg hst hwant QQ hgo
      have se67 : ac.eval (.tmp 67) = _ := (sg.slot 14 (sg.anc 14 rfl))
      have sg67 := gt_of se67
      have se68 : ac.eval (.tmp 68) = _ := (sg.slot 15 (sg.anc 15 rfl))
      have sg68 := gt_of se68
      (try simp only [nth] at se67 sg67 se68 sg68)
      exact op_val hwant hgo hst _ (by simp only [execOp, nth]; go_simp <;> omega) rfl
    · intro LL xx ac wc sg hst hwant QQ hgo
      have se69 : ac.eval (.tmp 69) = _ := (sg.slot 16 (sg.anc 16 rfl))
      have sg69 := gt_of se69
      (try simp only [nth] at se69 sg69)
      exact op_val hwant hgo hst _ (by simp only [execOp, nth]; go_simp <;> omega) rfl
    · intro LL xx ac wc sg hst hwant QQ hgo
      have H := Lib.hid hst
      refine hpS_load1 2 tystring H (y := y1) rfl (sg.slot 17 (sg.anc 17 rfl)) hwant (by (repeat (first | exact List.Mem.head _ | apply List.Mem.tail))) HRx.out (by rfl) (by simp [Addr.add]) ?_
      exact hgo _ () _ (fun _ _ => rfl) rfl hst
    · intro LL xx ac wc sg hst hwant QQ hgo
      have se61 : ac.eval (.tmp 61) = _ := (sg.slot 8 (sg.anc 8 rfl))
      have sg61 := gt_of se61
      have se66 : ac.eval (.tmp 66) = _ := (sg.slot 13 (sg.anc 13 rfl))
      have sg66 := gt_of se66
      have se71 : ac.eval (.tmp 71) = _ := (sg.slot 18 (sg.anc 18 rfl))
      have sg71 := gt_of se71
      (try simp only [nth] at se61 sg61 se66 sg66 se71 sg71)
      (try simp only [cA, cL] at se61 sg61 se66 sg66 se71 sg71)
      exact op_val hwant hgo hst _ (by simp only [execOp, nth, cA, cL]; go_simp <;> omega) rfl
    · intro LL xx ac wc sg hst hwant QQ hgo
      exact op_val hwant hgo hst (.bool (!true)) (exec_neq rfl (sg.slot 3 (sg.anc 3 rfl)) (sg.slot 19 (sg.anc 19 rfl)) (by kernel_rfl) (run_eq_event_same x wc)) (congrArg Value.bool (by simp))
  · exact skips [] (by kernel_rfl) (fun _ h => by cases h)
  · intro xx ac1 wz hfr hsl hst
    exact hfin ac1 wz (hfr.size.trans hz) hfr.defers (fr_keep hfr [53, 54, 55, 56, 57, 58, 59, 60, 61, 62, 63, 64, 65, 66, 67, 68, 69, 70, 71, 72, 73] (by kernel_rfl)) (hsl 20 (by decide)) (Lib.hid hst)
set_option maxHeartbeats 16000000 in
set_option maxRecDepth 20000 in
theorem eventsM (s : Nat) (c : Cfg) (n : Int) (w : World) (hsl : s < 18446744073709551616) (hsec : 0 ≤ c.secret ∧ c.secret ≤ 4294967295) : Calls Tryz.prog 4 #[.int .u64 s, .agg (cA c), .int .i64 n] w fun e w' => e = .returned (.bool true) ∧ Off [] w w' := by
 have H := Lib.hid (Hp.start [] w)
 refine wStart (args := [.int .u64 s, .agg (cA c), .int .i64 n]) Tryz.func4 rfl rfl rfl H ?_
 clear H
 show Wk 74 _ _ [(0, .int .u64 s), (1, .agg (cA c)), (2, .int .i64 n)] _ _
 refine wSeqK fun KK1 hK1 => ?_
 refine wReg ?_
 refine wBx rfl rfl rfl fun b4 => ?_
 refine p_eventsM rfl ?_
 refine wN ?_
 refine tN (wKK hK1 ?_)
 refine wSeqK fun KK2 hK2 => ?_
 refine wSeqK fun KK3 hK3 => ?_
 refine wReg ?_
 refine wQ (l := []) Tryz.func5 rfl (by kernel_rfl) (.bool true) (fun wc H => awake35 wc) rfl rfl rfl rfl ?_
 refine p_eventsM rfl ?_
 refine wN ?_
 refine tN (wKK hK3 ?_)
 refine wCf rfl ?_
 refine wSk ?_
 refine tN (wKK hK2 ?_)
 refine wSeqK fun KK4 hK4 => ?_
 intro aa ww nn dd hs H
 refine eventsM_r3 s c n b4 hsl hsec H aa nn (hs 0 _ rfl) (hs 2 _ rfl) (hs 4 _ rfl) ?_
 intro b3_1 a3_4 c3_4 ab wv nn2 dd2 kp o7 H2
 refine wIn nn2 (dd2.trans dd) (Sat.cons (Sat.cons (Sat.cons (Sat.cons (Sat.cons (Sat.cons (Sat.cons (sat_nil ab) ((kp 11 rfl).trans (hs 11 _ rfl))) ((kp 6 rfl).trans (hs 6 _ rfl))) ((kp 4 rfl).trans (hs 4 _ rfl))) ((kp 2 rfl).trans (hs 2 _ rfl))) ((kp 1 rfl).trans (hs 1 _ rfl))) ((kp 0 rfl).trans (hs 0 _ rfl))) o7) H2 ?_
 clear hs H kp H2 dd dd2 nn nn2 o7
 refine tN (wKK hK4 ?_)
 refine wSeqK fun KK5 hK5 => ?_
 refine wSeqK fun KK6 hK6 => ?_
 refine wReg ?_
 refine wLr rfl tyapi_Config 1 rfl (cL c) rfl rfl ?_
 refine wQ (l := [.agg (cA c)]) Tryz.func16 rfl (by kernel_rfl) (.bool (checkV c == 0)) (fun wc H => good7 c wc) rfl rfl rfl rfl ?_
 iterate 2 refine p_eventsM rfl ?_
 refine wCut 3 [(23, .bool ((!(checkV c == 0)) || (decide (n < 0)))), (0, .int .u64 s), (1, .agg (cA c)), (2, .int .i64 n), (4, .pointer (some ⟨b4, 0, none⟩)), (6, .bool false), (7, .slice a3_4 ((evAll (seedV s) c n).length) c3_4), (11, .bool false)] ?_ ?_
 · intro KK hKK
   rcases Bool.eq_false_or_eq_true (!(checkV c == 0)) with u1 | u1
   · skip
     refine wB (c := true) 20 rfl u1 ?_
     iterate 2 refine p_eventsM rfl ?_
     refine p_eventsM rfl ?_
     refine wB (c := (!(checkV c == 0)) || (decide (n < 0))) 23 rfl (by rw [u1]; rfl) ?_
     refine wN (tN ?_)
     exact fun aa ww nn dd hs H => hKK aa ww nn dd (sat_sub ⟨rfl, rfl, rfl, rfl, rfl, rfl, rfl, rfl, trivial⟩ hs) H
   · skip
     refine wB (c := false) 20 rfl u1 ?_
     iterate 2 refine p_eventsM rfl ?_
     refine p_eventsM rfl ?_
     refine wB (c := (!(checkV c == 0)) || (decide (n < 0))) 23 rfl (by rw [u1]; rfl) ?_
     refine wN (tN ?_)
     exact fun aa ww nn dd hs H => hKK aa ww nn dd (sat_sub ⟨rfl, rfl, rfl, rfl, rfl, rfl, rfl, rfl, trivial⟩ hs) H
 refine p_eventsM rfl ?_
 refine wCut 3 [(27, .bool (((!(checkV c == 0)) || (decide (n < 0))) || (decide (16384 < n)))), (0, .int .u64 s), (1, .agg (cA c)), (2, .int .i64 n), (4, .pointer (some ⟨b4, 0, none⟩)), (6, .bool false), (7, .slice a3_4 ((evAll (seedV s) c n).length) c3_4), (11, .bool false)] ?_ ?_
 · intro KK hKK
   rcases Bool.eq_false_or_eq_true ((!(checkV c == 0)) || (decide (n < 0))) with u2 | u2
   · skip
     refine wB (c := true) 24 rfl u2 ?_
     iterate 2 refine p_eventsM rfl ?_
     refine p_eventsM rfl ?_
     refine wB (c := ((!(checkV c == 0)) || (decide (n < 0))) || (decide (16384 < n))) 27 rfl (by rw [u2]; rfl) ?_
     refine wN (tN ?_)
     exact fun aa ww nn dd hs H => hKK aa ww nn dd (sat_sub ⟨rfl, rfl, rfl, rfl, rfl, rfl, rfl, rfl, trivial⟩ hs) H
   · skip
     refine wB (c := false) 24 rfl u2 ?_
     iterate 2 refine p_eventsM rfl ?_
     refine p_eventsM rfl ?_
     refine wB (c := ((!(checkV c == 0)) || (decide (n < 0))) || (decide (16384 < n))) 27 rfl (by rw [u2]; rfl) ?_
     refine wN (tN ?_)
     exact fun aa ww nn dd hs H => hKK aa ww nn dd (sat_sub ⟨rfl, rfl, rfl, rfl, rfl, rfl, rfl, rfl, trivial⟩ hs) H
 refine wN ?_
 refine tN (wKK hK6 ?_)
 refine wCond (E := ((!(checkV c == 0)) || (decide (n < 0))) || (decide (16384 < n))) rfl (fun z3 => ?_) (fun z3 => ?_)
 · skip
   intro aa ww nn dd hs H
   have hlz : (((evAll (seedV s) c n).length : Int) == 0) = true := evAll_bad z3
   refine wIn nn dd hs H ?_
   refine wSeqK fun KK7 hK7 => ?_
   refine wReg ?_
   refine p_eventsM rfl ?_
   refine wE (.int .i64 ((evAll (seedV s) c n).length)) rfl rfl rfl (fun aa ww hs _ => by have e28 := hs 28 _ rfl; have g28 := gt_of e28; simp only [execOp]; go_simp <;> first | rfl | omega) ?_
   refine p_eventsM rfl ?_
   refine wB 30 rfl hlz ?_
   refine p_eventsM rfl ?_
   refine wN ?_
   refine tN (wKK hK7 ?_)
   refine wRet ?_
   refine tR ?_
   exact wR1 rfl rfl (fun ww H => ⟨rfl, H.out.off⟩)
 · skip
   have z3l : ((!(checkV c == 0)) || (decide (n < 0))) = false := Reg.ol z3
   have z3ll : (!(checkV c == 0)) = false := Reg.ol z3l
   have z3lln : (checkV c == 0) = true := Reg.bt z3ll
   have z3llno : (checkV c != 0) = false := eqq_t z3lln
   have z3lr : (decide (n < 0)) = false := Reg.orr z3l
   have z3lrd : ¬ (n < 0) := of_decide_eq_false z3lr
   have z3r : (decide (16384 < n)) = false := Reg.orr z3
   have z3rd : ¬ (16384 < n) := of_decide_eq_false z3r
   intro aa ww nn dd hs H
   obtain ⟨hck, hnn⟩ := evAll_ok z3
   have hln : (evAll (seedV s) c n).length = n.toNat := evAll_len hck hnn
   refine wIn nn dd hs H ?_
   refine wSk ?_
   refine tN (wKK hK5 ?_)
   refine wSeqK fun KK8 hK8 => ?_
   refine wSeqK fun KK9 hK9 => ?_
   refine wReg ?_
   iterate 2 refine p_eventsM rfl ?_
   refine wN ?_
   refine tN (wKK hK9 ?_)
   refine wCond (E := decide (400 < n)) rfl (fun z4 => ?_) (fun z4 => ?_)
   · skip
     have z4d : 400 < n := of_decide_eq_true z4
     intro aa ww nn dd hs H
     have hle : (((evAll (seedV s) c n).length : Int) == n) = true := by rw [hln]; simp; omega
     refine wIn nn dd hs H ?_
     refine wSeqK fun KK10 hK10 => ?_
     refine wReg ?_
     refine p_eventsM rfl ?_
     refine wE (.int .i64 ((evAll (seedV s) c n).length)) rfl rfl rfl (fun aa ww hs _ => by have e33 := hs 33 _ rfl; have g33 := gt_of e33; simp only [execOp]; go_simp <;> first | rfl | omega) ?_
     iterate 2 refine p_eventsM rfl ?_
     refine wB 36 rfl hle ?_
     refine p_eventsM rfl ?_
     refine wN ?_
     refine tN (wKK hK10 ?_)
     refine wRet ?_
     refine tR ?_
     exact wR1 rfl rfl (fun ww H => ⟨rfl, H.out.off⟩)
   · skip
     have z4d : ¬ (400 < n) := of_decide_eq_false z4
     intro aa ww nn dd hs H
     have hn4 : n ≤ 400 := by simp at z4; omega
     refine wIn nn dd hs H ?_
     refine wSk ?_
     refine tN (wKK hK8 ?_)
     refine wSeqK fun KK11 hK11 => ?_
     intro aa ww nn dd hs H
     refine eventsM_r8 s c n b4 a3_4 c3_4 hsl hsec z3lrd z3rd hck hnn hln z4d hn4 H aa nn (hs 0 _ rfl) (hs 2 _ rfl) (hs 4 _ rfl) ?_
     intro b8_1 a8_4 c8_4 ab wv nn2 dd2 kp o8 H2
     refine wIn nn2 (dd2.trans dd) (Sat.cons (Sat.cons (Sat.cons (Sat.cons (Sat.cons (Sat.cons (Sat.cons (Sat.cons (Sat.cons (Sat.cons (sat_nil ab) ((kp 32 rfl).trans (hs 32 _ rfl))) ((kp 27 rfl).trans (hs 27 _ rfl))) ((kp 11 rfl).trans (hs 11 _ rfl))) ((kp 7 rfl).trans (hs 7 _ rfl))) ((kp 6 rfl).trans (hs 6 _ rfl))) ((kp 4 rfl).trans (hs 4 _ rfl))) ((kp 2 rfl).trans (hs 2 _ rfl))) ((kp 1 rfl).trans (hs 1 _ rfl))) ((kp 0 rfl).trans (hs 0 _ rfl))) o8) H2 ?_
     clear hs H kp H2 dd dd2 nn nn2 o8
     refine tN (wKK hK11 ?_)
     refine wSeqK fun KK12 hK12 => ?_
     refine wSeqK fun KK13 hK13 => ?_
     refine wReg ?_
     refine p_eventsM rfl ?_
     refine wE (.int .i64 ((evAll (seedV s) c n).length)) rfl rfl rfl (fun aa ww hs _ => by have e42 := hs 42 _ rfl; have g42 := gt_of e42; simp only [execOp]; go_simp <;> first | rfl | omega) ?_
     refine p_eventsM rfl ?_
     refine wE (.int .i64 ((evAll (seedV s) c n).length)) rfl rfl rfl (fun aa ww hs _ => by have e44 := hs 44 _ rfl; have g44 := gt_of e44; simp only [execOp]; go_simp <;> first | rfl | omega) ?_
     refine p_eventsM rfl ?_
     refine wB (c := false) 46 rfl (by simp) ?_
     refine wN ?_
     refine tN (wKK hK13 ?_)
     refine wCf rfl ?_
     refine wSk ?_
     refine tN (wKK hK12 ?_)
     refine wSeqK fun KK14 hK14 => ?_
     refine wSeqK fun KK15 hK15 => ?_
     refine wReg ?_
     refine p_eventsM rfl ?_
     refine wN ?_
     refine tN (wKK hK15 ?_)
     refine wBlk ?_
     refine wLoop (fun ab wv => ∃ i : Nat, (i ≤ (evAll (seedV s) c n).length) ∧ ab.tmps.size = 74 ∧ ab.defers = [] ∧ Sat [(0, .int .u64 s), (1, .agg (cA c)), (2, .int .i64 n), (4, .pointer (some ⟨b4, 0, none⟩)), (7, .slice a3_4 ((evAll (seedV s) c n).length) c3_4), (8, .slice a8_4 ((evAll (seedV s) c n).length) c8_4), (9, .int .i64 i), (11, .bool false), (27, .bool (((!(checkV c == 0)) || (decide (n < 0))) || (decide (16384 < n)))), (32, .bool (decide (400 < n))), (46, .bool false)] ab ∧ Hid (Hp [] w wv [rS a8_4 c8_4 3 ((evAll (seedV s) c n).map evRow), rS a3_4 c3_4 3 ((evAll (seedV s) c n).map evRow), rB b4 25 (cL c)])) (fun ab _ => (evAll (seedV s) c n).length - (intOf (ab.eval (.tmp 9))).toNat) (fun aa ww nn dd hs H => ⟨0, (by omega), nn, dd, (sat_sub ⟨rfl, rfl, rfl, rfl, rfl, rfl, rfl, rfl, rfl, rfl, rfl, trivial⟩ hs), H⟩) ?_
     rintro a1 wv ⟨i, hi, nn, dd, hs, H⟩
     have mu1_9 := hs 9 _ rfl
     refine wIn nn dd hs H ?_
     clear nn dd hs H
     refine wSeqK fun KK16 hK16 => ?_
     refine wSeqK fun KK17 hK17 => ?_
     refine wReg ?_
     iterate 2 refine p_eventsM rfl ?_
     refine wE (.int .i64 ((evAll (seedV s) c n).length)) rfl rfl rfl (fun aa ww hs _ => by have e48 := hs 48 _ rfl; have g48 := gt_of e48; simp only [execOp]; go_simp <;> first | rfl | omega) ?_
     refine p_eventsM rfl ?_
     refine wB (c := decide (i < ((evAll (seedV s) c n).length))) 50 rfl (by simp) ?_
     refine wN ?_
     refine tN (wKK hK17 ?_)
     refine wCond (E := decide (i < ((evAll (seedV s) c n).length))) rfl (fun z5 => ?_) (fun z5 => ?_)
     · skip
       have z5d : i < ((evAll (seedV s) c n).length) := of_decide_eq_true z5
       intro aa ww nn dd hs H
       obtain ⟨y1, rfl⟩ := some_of_row (i := i) (hp_held H (show rS a8_4 _ 3 ((evAll (seedV s) c n).map evRow) ∈ _ by (repeat (first | exact List.Mem.head _ | apply List.Mem.tail)))) (by simp; omega)
       obtain ⟨y2, rfl⟩ := some_of_row (i := i) (hp_held H (show rS a3_4 _ 3 ((evAll (seedV s) c n).map evRow) ∈ _ by (repeat (first | exact List.Mem.head _ | apply List.Mem.tail)))) (by simp; omega)
       obtain ⟨x, hx⟩ : ∃ x, (evAll (seedV s) c n)[i]? = some x := ⟨(evAll (seedV s) c n)[i], List.getElem?_eq_getElem (by omega)⟩
       have HRx := Lib.hid (show ((evAll (seedV s) c n).map evRow)[i]? = some [.int .i64 x.kind, .int .i64 x.n, .string x.data] by rw [List.getElem?_map, hx]; rfl)
       clear hx
       refine wIn nn dd hs H ?_
       refine wSk ?_
       refine tN (wKK hK16 ?_)
       refine wSeqK fun KK18 hK18 => ?_
       refine wBlk ?_
       refine wSeqK fun KK19 hK19 => ?_
       intro aa ww nn dd hs H
       refine eventsM_r14 s c n b4 c3_4 c8_4 i y1 y2 x hsl hsec z3lrd z3rd hck hnn hln z4d hn4 hi z5d HRx H aa nn (hs 7 _ rfl) (hs 8 _ rfl) (hs 9 _ rfl) ?_
       intro ab wv nn2 dd2 kp o73 H2
       refine wIn nn2 (dd2.trans dd) (Sat.cons (Sat.cons (Sat.cons (Sat.cons (Sat.cons (Sat.cons (Sat.cons (Sat.cons (Sat.cons (Sat.cons (Sat.cons (Sat.cons (Sat.cons (sat_nil ab) ((kp 50 rfl).trans (hs 50 _ rfl))) ((kp 46 rfl).trans (hs 46 _ rfl))) ((kp 32 rfl).trans (hs 32 _ rfl))) ((kp 27 rfl).trans (hs 27 _ rfl))) ((kp 11 rfl).trans (hs 11 _ rfl))) ((kp 9 rfl).trans (hs 9 _ rfl))) ((kp 8 rfl).trans (hs 8 _ rfl))) ((kp 7 rfl).trans (hs 7 _ rfl))) ((kp 4 rfl).trans (hs 4 _ rfl))) ((kp 2 rfl).trans (hs 2 _ rfl))) ((kp 1 rfl).trans (hs 1 _ rfl))) ((kp 0 rfl).trans (hs 0 _ rfl))) o73) H2 ?_
       clear hs H kp H2 dd dd2 nn nn2 o73
       refine tN (wKK hK19 ?_)
       refine wCf rfl ?_
       refine wSk ?_
       refine bN (tN (wKK hK18 ?_))
       refine wReg ?_
       iterate 2 refine p_eventsM rfl ?_
       refine wI 52 rfl (IntWalk.i64_in _ (by omega)) ?_
       refine p_eventsM rfl ?_
       refine wN ?_
       refine tN ?_
       intro aa ww nn dd hs H
       refine ⟨⟨i + 1, (by omega), nn, dd, (sat_sub ⟨rfl, rfl, rfl, rfl, rfl, rfl, rfl, rfl, rfl, rfl, rfl, trivial⟩ hs), (Lib.hid (H.out.sub (by repeat (first | exact List.Sublist.refl _ | apply List.Sublist.cons₂ | apply List.Sublist.cons))))⟩, ?_⟩
       have m9 := hs 9 _ rfl
       simp only [mu1_9, m9, intOf]
       omega
     · skip
       have z5d : ¬ (i < ((evAll (seedV s) c n).length)) := of_decide_eq_false z5
       refine wEx ?_
       refine tX (tX (bX (tN (wKK hK14 ?_))))
       refine wSeqK fun KK20 hK20 => ?_
       refine wReg ?_
       refine p_eventsM rfl ?_
       refine wN ?_
       refine tN (wKK hK20 ?_)
       refine wRet ?_
       exact wR1 rfl rfl (fun ww H => ⟨rfl, H.out.off⟩)
end Go.Proofs.YthflkhalipkdgaaGreat.Mn
