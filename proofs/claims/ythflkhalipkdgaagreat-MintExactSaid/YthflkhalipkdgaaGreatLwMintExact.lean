/- Layer 35: MintExact. -/
import Derived.Test.YthflkhalipkdgaaGreatProg
import Derived.Below
import Derived.WalkKit
import Derived.KernelRfl
import Derived.RowKit3
import Derived.Deep.LoopGhost
import Derived.Deep.QuietTactic
import Derived.BigQuiet
import Derived.WideLaws
import Derived.Deep.DeepCutAuto
import Derived.Deep.CutBlock
import Derived.Lib.Hide
import Derived.Laws.BitsLemmas
import Derived.Laws.Bits64
import Derived.Laws.BitsAllLaws
import Derived.IntWalk
import Derived.Outline
import Derived.WalkSpells
import Derived.Test.YthflkhalipkdgaaGreatGA
import Derived.Test.YthflkhalipkdgaaGreatMr3
namespace Go.Proofs.YthflkhalipkdgaaGreat.Mn
set_option maxRecDepth 20000
open Go.RowKit Go.Proofs.YthflkhalipkdgaaGreat.Mem Go.Proofs.YthflkhalipkdgaaGreat.Reg Go.Proofs.YthflkhalipkdgaaGreat.Wk Go.Proofs.YthflkhalipkdgaaGreat.Si Go.Proofs.YthflkhalipkdgaaGreat.Ca Go.Proofs.YthflkhalipkdgaaGreat.Ms Go.Proofs.YthflkhalipkdgaaGreat.Fr Go.Proofs.YthflkhalipkdgaaGreat.Bld
set_option linter.unusedVariables false
set_option linter.unusedSimpArgs false

structure AskDV where
  kind : Int
  n : Int
def askRow (d : AskDV) : List Value := [.int .i64 d.kind, .int .i64 d.n]
theorem tyhoistwaylaw35_Ask : TyI Tryz.prog 33 2 true [.int .i64 0, .int .i64 0] := ⟨by kernel_rfl, by kernel_rfl, by kernel_rfl⟩
def tab_exactM : Wk.Tab := [(33, 0, 0)]
theorem p_exactM {ops : Array Oper} {rest : List Oper} {o : Oper} {w0 : World} {Q : Exit → Act → World → Prop} {S : List Nat} {R : List Res} {K K' : Wk.Env} {N : Nat} (h : Wk.stp tab_exactM N ops K o = some K') (n : Wk.Wk N S w0 K' R (wpList Tryz.prog ops Q rest)) : Wk.Wk N S w0 K R (wpList Tryz.prog ops Q (o :: rest)) := Wk.wP (T := tab_exactM) (by kernel_rfl) h n
set_option maxRecDepth 20000 in
theorem exactM_r16 (s : Nat) (c : Cfg) (rc : Nat) (ds : List AskDV) (b4 : Nat) (b3_1 : Nat) (b4_1 : Nat) (i : Nat) (x : Nat) (y : Addr) (d : AskDV) (b10 : Nat) (hsl : s < 18446744073709551616) (hi : i ≤ ds.length) (hxl : x < 18446744073709551616) (z2ld : i < ds.length) (z2rd : (i : Int) < 60) {wa wb : World} (H : Hid (Hp [] wa wb [rB b10 33 [.int .i64 d.kind, .int .i64 d.n], rB b4_1 63 [.int .u64 x], rB b3_1 61 [.int .u64 x], rB b4 25 (cL c), rS (some y) rc 2 (ds.map askRow)])) (ac0 : Act) (hz : ac0.tmps.size = 86) (so7 : ac0.eval (.tmp 7) = .pointer (some ⟨b3_1, 0, none⟩)) (so8 : ac0.eval (.tmp 8) = .pointer (some ⟨b4_1, 0, none⟩)) (so10 : ac0.eval (.tmp 10) = .pointer (some ⟨b10, 0, none⟩)) {QR : Exit → Act → World → Prop} (hfin : ∀ (ac1 : Act) (wz : World), ac1.tmps.size = 86 → ac1.defers = ac0.defers → (∀ t, ([55, 56, 57, 58, 59, 60, 61, 62, 63] : List Nat).contains t = false → ac1.eval (.tmp t) = ac0.eval (.tmp t)) → ac1.eval (.tmp 63) = .bool false →  Hid (Hp [] wa wz [rB b10 33 [.int .i64 d.kind, .int .i64 d.n], rB b4_1 63 [.int .u64 ((belR x d.n).2)], rB b3_1 61 [.int .u64 ((belR x d.n).2)], rB b4 25 (cL c), rS (some y) rc 2 (ds.map askRow)]) → QR .normal ac1 wz) : (regAt Tryz.f3 16).wp Tryz.prog QR ac0 wb := by
  refine wp_region_st mixedP ⟨[0, 0, 1, 2, 0, 0, 1, 3, 4], by kernel_rfl⟩ [[], [], [1], [0, 1, 2], [], [], [5], [0, 1, 2, 3, 4, 5, 6], [0, 1, 2, 3, 4, 5, 6, 7]] (by kernel_rfl) (by kernel_rfl) 86 hz (by kernel_rfl) (fun (xx : Unit) jx => nth [.pointer (some ⟨b3_1, 0, none⟩), .pointer (some ⟨b10, 1, none⟩), .int .i64 d.n, .int .i64 ((belR x d.n).1), .pointer (some ⟨b4_1, 0, none⟩), .pointer (some ⟨b10, 1, none⟩), .int .i64 d.n, .int .i64 ((belR x d.n).1), .bool false] jx) (fun (LL : Nat → Bool) (xx : Unit) ww => Hp [] wa ww (bif LL 3 then (bif LL 7 then [rB b10 33 [.int .i64 d.kind, .int .i64 d.n], rB b4_1 63 [.int .u64 ((belR x d.n).2)], rB b3_1 61 [.int .u64 ((belR x d.n).2)], rB b4 25 (cL c), rS (some y) rc 2 (ds.map askRow)] else [rB b10 33 [.int .i64 d.kind, .int .i64 d.n], rB b4_1 63 [.int .u64 x], rB b3_1 61 [.int .u64 ((belR x d.n).2)], rB b4 25 (cL c), rS (some y) rc 2 (ds.map askRow)]) else [rB b10 33 [.int .i64 d.kind, .int .i64 d.n], rB b4_1 63 [.int .u64 x], rB b3_1 61 [.int .u64 x], rB b4 25 (cL c), rS (some y) rc 2 (ds.map askRow)])) () H.out.drew ?_ (steps_al ?_) ?_ ?_
  · intro L1 L2 xx ww hL sg
    have lh3 := hL 3 (by decide)
    have lh7 := hL 7 (by decide)
    simp only [lh3, lh7] at sg
    exact sg
  · refine al_cons ?_ (al_cons ?_ (al_cons ?_ (al_cons ?_ (al_cons ?_ (al_cons ?_ (al_cons ?_ (al_cons ?_ (al_cons ?_ (al_nil)))))))))
    · intro LL xx ac wc sg hst hwant QQ hgo
      exact op_val hwant hgo hst _ (exec_move rfl ((sg.free 7 (by kernel_rfl)).trans so7)) rfl
    · intro LL xx ac wc sg hst hwant QQ hgo
      have se10 : ac.eval (.tmp 10) = _ := ((sg.free 10 (by kernel_rfl)).trans so10)
      have sg10 := gt_of se10
      exact op_val hwant hgo hst _ (by simp only [execOp, nth]; go_simp <;> omega) rfl
    · intro LL xx ac wc sg hst hwant QQ hgo
      have H := Lib.hid hst
      simp only [sg.des 3 rfl, sg.des 7 rfl, cond_true, cond_false] at H
      refine hpA_load1 tyint H rfl (sg.slot 1 (sg.anc 1 rfl)) hwant (by (repeat (first | exact List.Mem.head _ | apply List.Mem.tail))) (by rfl) ?_
      exact hgo _ () _ (fun _ _ => rfl) rfl hst
    · intro LL xx ac wc sg hst hwant QQ hgo
      have se55 : ac.eval (.tmp 55) = _ := (sg.slot 0 (sg.anc 0 rfl))
      have sg55 := gt_of se55
      have se57 : ac.eval (.tmp 57) = _ := (sg.slot 2 (sg.anc 2 rfl))
      have sg57 := gt_of se57
      (try simp only [nth] at se55 sg55 se57 sg57)
      have H := Lib.hid hst
      simp only [sg.self, sg.des 7 rfl, cond_true, cond_false] at H
      refine op_call hwant hgo 10 #[.pointer (some ⟨b3_1, 0, none⟩), .int .i64 d.n] (by simp only [execOp]; go_simp) (belowC b3_1 x d.n wc (H.out.blk 2 rfl) hxl) ?_
      rintro er wd ⟨rfl, hb, ho⟩
      have H2 := hp_turn H (i := 2) (cs' := [.int .u64 ((belR x d.n).2)]) rfl hb ho
      exact ⟨_, (), rfl, (fun _ _ => rfl), rfl, (by simp only [(show upd LL 3 3 = true from rfl), (show upd LL 3 7 = LL 7 from rfl), sg.des 7 rfl, cond_true, cond_false]; exact H2.out)⟩
    · intro LL xx ac wc sg hst hwant QQ hgo
      exact op_val hwant hgo hst _ (exec_move rfl ((sg.free 8 (by kernel_rfl)).trans so8)) rfl
    · intro LL xx ac wc sg hst hwant QQ hgo
      have se10 : ac.eval (.tmp 10) = _ := ((sg.free 10 (by kernel_rfl)).trans so10)
      have sg10 := gt_of se10
      exact op_val hwant hgo hst _ (by simp only [execOp, nth]; go_simp <;> omega) rfl
    · intro LL xx ac wc sg hst hwant QQ hgo
      rcases Bool.eq_false_or_eq_true (LL 3) with lh3 | lh3
      · skip
        have H := Lib.hid hst
        simp only [lh3, sg.des 7 rfl, cond_true, cond_false] at H
        refine hpA_load1 tyint H rfl (sg.slot 5 (sg.anc 5 rfl)) hwant (by (repeat (first | exact List.Mem.head _ | apply List.Mem.tail))) (by rfl) ?_
        exact hgo _ () _ (fun _ _ => rfl) rfl hst
      · skip
        have H := Lib.hid hst
        simp only [lh3, sg.des 7 rfl, cond_true, cond_false] at H
        refine hpA_load1 tyint H rfl (sg.slot 5 (sg.anc 5 rfl)) hwant (by (repeat (first | exact List.Mem.head _ | apply List.Mem.tail))) (by rfl) ?_
        exact hgo _ () _ (fun _ _ => rfl) rfl hst
    · intro LL xx ac wc sg hst hwant QQ hgo
      have se59 : ac.eval (.tmp 59) = _ := (sg.slot 4 (sg.anc 4 rfl))
      have sg59 := gt_of se59
      have se61 : ac.eval (.tmp 61) = _ := (sg.slot 6 (sg.anc 6 rfl))
      have sg61 := gt_of se61
      (try simp only [nth] at se59 sg59 se61 sg61)
      have H := Lib.hid hst
      simp only [sg.anc 3 rfl, sg.self, cond_true, cond_false] at H
      refine op_call hwant hgo 11 #[.pointer (some ⟨b4_1, 0, none⟩), .int .i64 d.n] (by simp only [execOp]; go_simp) (belowRR b4_1 x d.n wc (H.out.blk 1 rfl) hxl) ?_
      rintro er wd ⟨rfl, hb, ho⟩
      have H2 := hp_turn H (i := 1) (cs' := [.int .u64 ((belR x d.n).2)]) rfl hb ho
      exact ⟨_, (), rfl, (fun _ _ => rfl), rfl, (by simp only [(show upd LL 7 3 = LL 3 from rfl), sg.anc 3 rfl, (show upd LL 7 7 = true from rfl), cond_true, cond_false]; exact H2.out)⟩
    · intro LL xx ac wc sg hst hwant QQ hgo
      have se58 : ac.eval (.tmp 58) = _ := (sg.slot 3 (sg.anc 3 rfl))
      have sg58 := gt_of se58
      have se62 : ac.eval (.tmp 62) = _ := (sg.slot 7 (sg.anc 7 rfl))
      have sg62 := gt_of se62
      (try simp only [nth] at se58 sg58 se62 sg62)
      exact op_val hwant hgo hst _ (by simp only [execOp, nth]; go_simp <;> omega) rfl
  · exact skips [] (by kernel_rfl) (fun _ h => by cases h)
  · intro xx ac1 wz hfr hsl hst
    exact hfin ac1 wz (hfr.size.trans hz) hfr.defers (fr_keep hfr [55, 56, 57, 58, 59, 60, 61, 62, 63] (by kernel_rfl)) (hsl 8 (by decide)) (Lib.hid hst)
set_option maxRecDepth 20000 in
theorem exactM_r10 (s : Nat) (c : Cfg) (rc : Nat) (ds : List AskDV) (b4 : Nat) (b3_1 : Nat) (b4_1 : Nat) (i : Nat) (x : Nat) (y : Addr) (d : AskDV) (b10 : Nat) (hsl : s < 18446744073709551616) (hi : i ≤ ds.length) (hxl : x < 18446744073709551616) (z2ld : i < ds.length) (z2rd : (i : Int) < 60) {wa wb : World} (H : Hid (Hp [] wa wb [rB b10 33 [.int .i64 d.kind, .int .i64 d.n], rB b4_1 63 [.int .u64 x], rB b3_1 61 [.int .u64 x], rB b4 25 (cL c), rS (some y) rc 2 (ds.map askRow)])) (ac0 : Act) (hz : ac0.tmps.size = 86) (so4 : ac0.eval (.tmp 4) = .pointer (some ⟨b4, 0, none⟩)) (so7 : ac0.eval (.tmp 7) = .pointer (some ⟨b3_1, 0, none⟩)) (so8 : ac0.eval (.tmp 8) = .pointer (some ⟨b4_1, 0, none⟩)) (so10 : ac0.eval (.tmp 10) = .pointer (some ⟨b10, 0, none⟩)) {QR : Exit → Act → World → Prop} (hfin : ∀ (ac1 : Act) (wz : World), ac1.tmps.size = 86 → ac1.defers = ac0.defers → (∀ t, ([34, 35, 36, 37, 38, 39, 40, 41, 42, 43, 44, 45] : List Nat).contains t = false → ac1.eval (.tmp t) = ac0.eval (.tmp t)) → ac1.eval (.tmp 45) = .bool false →  Hid (Hp [] wa wz [rB b10 33 [.int .i64 d.kind, .int .i64 d.n], rB b4_1 63 [.int .u64 ((drawReq x c d.n).2)], rB b3_1 61 [.int .u64 ((drawReq x c d.n).2)], rB b4 25 (cL c), rS (some y) rc 2 (ds.map askRow)]) → QR .normal ac1 wz) : (regAt Tryz.f3 10).wp Tryz.prog QR ac0 wb := by
  refine wp_region_st mixedP ⟨[0, 0, 0, 1, 2, 3, 0, 0, 0, 1, 4, 5], by kernel_rfl⟩ [[], [], [], [2], [0, 1, 2, 3], [0, 1, 2, 3, 4], [], [], [], [8], [0, 1, 2, 3, 4, 5, 6, 7, 8, 9], [0, 1, 2, 3, 4, 5, 6, 7, 8, 9, 10]] (by kernel_rfl) (by kernel_rfl) 86 hz (by kernel_rfl) (fun (xx : Unit) jx => nth [.pointer (some ⟨b3_1, 0, none⟩), .agg (cA c), .pointer (some ⟨b10, 1, none⟩), .int .i64 d.n, .agg #[.int .i64 (((drawReq x c d.n).1).kind), .int .i64 (((drawReq x c d.n).1).seq), .int .i64 (((drawReq x c d.n).1).who), .int .i64 (((drawReq x c d.n).1).role), .int .u32 (((drawReq x c d.n).1).token), .int .u64 (((drawReq x c d.n).1).key), .int .i64 ((((drawReq x c d.n).1).call).id), .int .i64 ((((drawReq x c d.n).1).call).kind), .int .i64 ((((drawReq x c d.n).1).call).src), .int .i64 ((((drawReq x c d.n).1).call).dst), .int .i64 ((((drawReq x c d.n).1).call).car), .int .i64 ((((drawReq x c d.n).1).call).state), .int .i64 ((((drawReq x c d.n).1).call).owner), .int .i64 ((((drawReq x c d.n).1).call).born), .int .i64 (((drawReq x c d.n).1).id), .int .i64 (((drawReq x c d.n).1).car), .int .i64 (((drawReq x c d.n).1).mode), .int .i64 ((((drawReq x c d.n).1).filter).kind), .int .i64 ((((drawReq x c d.n).1).filter).n)], .agg #[.int .i64 ((numsQ ((drawReq x c d.n).1)).getD 0 0), .int .i64 ((numsQ ((drawReq x c d.n).1)).getD 1 0), .int .i64 ((numsQ ((drawReq x c d.n).1)).getD 2 0), .int .i64 ((numsQ ((drawReq x c d.n).1)).getD 3 0), .int .i64 ((numsQ ((drawReq x c d.n).1)).getD 4 0), .int .i64 ((numsQ ((drawReq x c d.n).1)).getD 5 0), .int .i64 ((numsQ ((drawReq x c d.n).1)).getD 6 0), .int .i64 ((numsQ ((drawReq x c d.n).1)).getD 7 0), .int .i64 ((numsQ ((drawReq x c d.n).1)).getD 8 0), .int .i64 ((numsQ ((drawReq x c d.n).1)).getD 9 0), .int .i64 ((numsQ ((drawReq x c d.n).1)).getD 10 0), .int .i64 ((numsQ ((drawReq x c d.n).1)).getD 11 0), .int .i64 ((numsQ ((drawReq x c d.n).1)).getD 12 0), .int .i64 ((numsQ ((drawReq x c d.n).1)).getD 13 0), .int .i64 ((numsQ ((drawReq x c d.n).1)).getD 14 0), .int .i64 ((numsQ ((drawReq x c d.n).1)).getD 15 0)], .pointer (some ⟨b4_1, 0, none⟩), .agg (cA c), .pointer (some ⟨b10, 1, none⟩), .int .i64 d.n, .agg #[.int .i64 ((numsQ ((drawReq x c d.n).1)).getD 0 0), .int .i64 ((numsQ ((drawReq x c d.n).1)).getD 1 0), .int .i64 ((numsQ ((drawReq x c d.n).1)).getD 2 0), .int .i64 ((numsQ ((drawReq x c d.n).1)).getD 3 0), .int .i64 ((numsQ ((drawReq x c d.n).1)).getD 4 0), .int .i64 ((numsQ ((drawReq x c d.n).1)).getD 5 0), .int .i64 ((numsQ ((drawReq x c d.n).1)).getD 6 0), .int .i64 ((numsQ ((drawReq x c d.n).1)).getD 7 0), .int .i64 ((numsQ ((drawReq x c d.n).1)).getD 8 0), .int .i64 ((numsQ ((drawReq x c d.n).1)).getD 9 0), .int .i64 ((numsQ ((drawReq x c d.n).1)).getD 10 0), .int .i64 ((numsQ ((drawReq x c d.n).1)).getD 11 0), .int .i64 ((numsQ ((drawReq x c d.n).1)).getD 12 0), .int .i64 ((numsQ ((drawReq x c d.n).1)).getD 13 0), .int .i64 ((numsQ ((drawReq x c d.n).1)).getD 14 0), .int .i64 ((numsQ ((drawReq x c d.n).1)).getD 15 0)], .bool false] jx) (fun (LL : Nat → Bool) (xx : Unit) ww => Hp [] wa ww (bif LL 4 then (bif LL 10 then [rB b10 33 [.int .i64 d.kind, .int .i64 d.n], rB b4_1 63 [.int .u64 ((drawReq x c d.n).2)], rB b3_1 61 [.int .u64 ((drawReq x c d.n).2)], rB b4 25 (cL c), rS (some y) rc 2 (ds.map askRow)] else [rB b10 33 [.int .i64 d.kind, .int .i64 d.n], rB b4_1 63 [.int .u64 x], rB b3_1 61 [.int .u64 ((drawReq x c d.n).2)], rB b4 25 (cL c), rS (some y) rc 2 (ds.map askRow)]) else [rB b10 33 [.int .i64 d.kind, .int .i64 d.n], rB b4_1 63 [.int .u64 x], rB b3_1 61 [.int .u64 x], rB b4 25 (cL c), rS (some y) rc 2 (ds.map askRow)])) () H.out.drew ?_ (steps_al ?_) ?_ ?_
  · intro L1 L2 xx ww hL sg
    have lh4 := hL 4 (by decide)
    have lh10 := hL 10 (by decide)
    simp only [lh4, lh10] at sg
    exact sg
  · refine al_cons ?_ (al_cons ?_ (al_cons ?_ (al_cons ?_ (al_cons ?_ (al_cons ?_ (al_cons ?_ (al_cons ?_ (al_cons ?_ (al_cons ?_ (al_cons ?_ (al_cons ?_ (al_nil))))))))))))
    · intro LL xx ac wc sg hst hwant QQ hgo
      exact op_val hwant hgo hst _ (exec_move rfl ((sg.free 7 (by kernel_rfl)).trans so7)) rfl
    · intro LL xx ac wc sg hst hwant QQ hgo
      have H := Lib.hid hst
      simp only [sg.des 4 rfl, sg.des 10 rfl, cond_true, cond_false] at H
      refine hpA_load tyapi_Config H rfl ((sg.free 4 (by kernel_rfl)).trans so4) hwant (by (repeat (first | exact List.Mem.head _ | apply List.Mem.tail))) (by rfl) rfl ?_
      exact hgo _ () _ (fun _ _ => rfl) rfl hst
    · intro LL xx ac wc sg hst hwant QQ hgo
      have se10 : ac.eval (.tmp 10) = _ := ((sg.free 10 (by kernel_rfl)).trans so10)
      have sg10 := gt_of se10
      exact op_val hwant hgo hst _ (by simp only [execOp, nth]; go_simp <;> omega) rfl
    · intro LL xx ac wc sg hst hwant QQ hgo
      have H := Lib.hid hst
      simp only [sg.des 4 rfl, sg.des 10 rfl, cond_true, cond_false] at H
      refine hpA_load1 tyint H rfl (sg.slot 2 (sg.anc 2 rfl)) hwant (by (repeat (first | exact List.Mem.head _ | apply List.Mem.tail))) (by rfl) ?_
      exact hgo _ () _ (fun _ _ => rfl) rfl hst
    · intro LL xx ac wc sg hst hwant QQ hgo
      have se34 : ac.eval (.tmp 34) = _ := (sg.slot 0 (sg.anc 0 rfl))
      have sg34 := gt_of se34
      have se35 : ac.eval (.tmp 35) = _ := (sg.slot 1 (sg.anc 1 rfl))
      have sg35 := gt_of se35
      have se37 : ac.eval (.tmp 37) = _ := (sg.slot 3 (sg.anc 3 rfl))
      have sg37 := gt_of se37
      (try simp only [nth] at se34 sg34 se35 sg35 se37 sg37)
      have H := Lib.hid hst
      simp only [sg.self, sg.des 10 rfl, cond_true, cond_false] at H
      refine op_call hwant hgo 13 #[.pointer (some ⟨b3_1, 0, none⟩), .agg (cA c), .int .i64 d.n] (by simp only [execOp]; go_simp) (reqDraw b3_1 x c d.n wc (H.out.blk 2 rfl) hxl) ?_
      rintro er wd ⟨rfl, hb, ho⟩
      have H2 := hp_turn H (i := 2) (cs' := [.int .u64 ((drawReq x c d.n).2)]) rfl hb ho
      exact ⟨_, (), rfl, (fun _ _ => rfl), rfl, (by simp only [(show upd LL 4 4 = true from rfl), (show upd LL 4 10 = LL 10 from rfl), sg.des 10 rfl, cond_true, cond_false]; exact H2.out)⟩
    · intro LL xx ac wc sg hst hwant QQ hgo
      have se38 : ac.eval (.tmp 38) = _ := (sg.slot 4 (sg.anc 4 rfl))
      have sg38 := gt_of se38
      (try simp only [nth] at se38 sg38)
      refine op_call hwant hgo 12 #[.agg #[.int .i64 (((drawReq x c d.n).1).kind), .int .i64 (((drawReq x c d.n).1).seq), .int .i64 (((drawReq x c d.n).1).who), .int .i64 (((drawReq x c d.n).1).role), .int .u32 (((drawReq x c d.n).1).token), .int .u64 (((drawReq x c d.n).1).key), .int .i64 ((((drawReq x c d.n).1).call).id), .int .i64 ((((drawReq x c d.n).1).call).kind), .int .i64 ((((drawReq x c d.n).1).call).src), .int .i64 ((((drawReq x c d.n).1).call).dst), .int .i64 ((((drawReq x c d.n).1).call).car), .int .i64 ((((drawReq x c d.n).1).call).state), .int .i64 ((((drawReq x c d.n).1).call).owner), .int .i64 ((((drawReq x c d.n).1).call).born), .int .i64 (((drawReq x c d.n).1).id), .int .i64 (((drawReq x c d.n).1).car), .int .i64 (((drawReq x c d.n).1).mode), .int .i64 ((((drawReq x c d.n).1).filter).kind), .int .i64 ((((drawReq x c d.n).1).filter).n)]] (by simp only [execOp]; go_simp) (numbersC ((drawReq x c d.n).1) wc (drawReq_ok _ _ _)) ?_
      rintro er wd ⟨rfl, hof⟩
      exact ⟨_, (), rfl, fun _ _ => rfl, rfl, Hp.quiet hst hof⟩
    · intro LL xx ac wc sg hst hwant QQ hgo
      exact op_val hwant hgo hst _ (exec_move rfl ((sg.free 8 (by kernel_rfl)).trans so8)) rfl
    · intro LL xx ac wc sg hst hwant QQ hgo
      rcases Bool.eq_false_or_eq_true (LL 4) with lh4 | lh4
      · skip
        have H := Lib.hid hst
        simp only [lh4, sg.des 10 rfl, cond_true, cond_false] at H
        refine hpA_load tyapi_Config H rfl ((sg.free 4 (by kernel_rfl)).trans so4) hwant (by (repeat (first | exact List.Mem.head _ | apply List.Mem.tail))) (by rfl) rfl ?_
        exact hgo _ () _ (fun _ _ => rfl) rfl hst
      · skip
        have H := Lib.hid hst
        simp only [lh4, sg.des 10 rfl, cond_true, cond_false] at H
        refine hpA_load tyapi_Config H rfl ((sg.free 4 (by kernel_rfl)).trans so4) hwant (by (repeat (first | exact List.Mem.head _ | apply List.Mem.tail))) (by rfl) rfl ?_
        exact hgo _ () _ (fun _ _ => rfl) rfl hst
    · intro LL xx ac wc sg hst hwant QQ hgo
      have se10 : ac.eval (.tmp 10) = _ := ((sg.free 10 (by kernel_rfl)).trans so10)
      have sg10 := gt_of se10
      exact op_val hwant hgo hst _ (by simp only [execOp, nth]; go_simp <;> omega) rfl
    · intro LL xx ac wc sg hst hwant QQ hgo
      rcases Bool.eq_false_or_eq_true (LL 4) with lh4 | lh4
      · skip
        have H := Lib.hid hst
        simp only [lh4, sg.des 10 rfl, cond_true, cond_false] at H
        refine hpA_load1 tyint H rfl (sg.slot 8 (sg.anc 8 rfl)) hwant (by (repeat (first | exact List.Mem.head _ | apply List.Mem.tail))) (by rfl) ?_
        exact hgo _ () _ (fun _ _ => rfl) rfl hst
      · skip
        have H := Lib.hid hst
        simp only [lh4, sg.des 10 rfl, cond_true, cond_false] at H
        refine hpA_load1 tyint H rfl (sg.slot 8 (sg.anc 8 rfl)) hwant (by (repeat (first | exact List.Mem.head _ | apply List.Mem.tail))) (by rfl) ?_
        exact hgo _ () _ (fun _ _ => rfl) rfl hst
    · intro LL xx ac wc sg hst hwant QQ hgo
      have se40 : ac.eval (.tmp 40) = _ := (sg.slot 6 (sg.anc 6 rfl))
      have sg40 := gt_of se40
      have se41 : ac.eval (.tmp 41) = _ := (sg.slot 7 (sg.anc 7 rfl))
      have sg41 := gt_of se41
      have se43 : ac.eval (.tmp 43) = _ := (sg.slot 9 (sg.anc 9 rfl))
      have sg43 := gt_of se43
      (try simp only [nth] at se40 sg40 se41 sg41 se43 sg43)
      have H := Lib.hid hst
      simp only [sg.anc 4 rfl, sg.self, cond_true, cond_false] at H
      refine op_call hwant hgo 14 #[.pointer (some ⟨b4_1, 0, none⟩), .agg (cA c), .int .i64 d.n] (by simp only [execOp]; go_simp) (reqRN b4_1 x c d.n wc (H.out.blk 1 rfl) hxl) ?_
      rintro er wd ⟨rfl, hb, ho⟩
      have H2 := hp_turn H (i := 1) (cs' := [.int .u64 ((drawReq x c d.n).2)]) rfl hb ho
      exact ⟨_, (), rfl, (fun _ _ => rfl), rfl, (by simp only [(show upd LL 10 4 = LL 4 from rfl), sg.anc 4 rfl, (show upd LL 10 10 = true from rfl), cond_true, cond_false]; exact H2.out)⟩
    · intro LL xx ac wc sg hst hwant QQ hgo
      exact op_val hwant hgo hst (.bool (!true)) (exec_neq rfl (sg.slot 5 (sg.anc 5 rfl)) (sg.slot 10 (sg.anc 10 rfl)) (by kernel_rfl) (run_eq_arr (numsQ ((drawReq x c d.n).1)) wc)) (congrArg Value.bool (by simp))
  · exact skips [] (by kernel_rfl) (fun _ h => by cases h)
  · intro xx ac1 wz hfr hsl hst
    exact hfin ac1 wz (hfr.size.trans hz) hfr.defers (fr_keep hfr [34, 35, 36, 37, 38, 39, 40, 41, 42, 43, 44, 45] (by kernel_rfl)) (hsl 11 (by decide)) (Lib.hid hst)
set_option maxHeartbeats 16000000 in
set_option maxRecDepth 20000 in
theorem exactM (s : Nat) (c : Cfg) (ra : Option Addr) (rc : Nat) (ds : List AskDV) (w : World) (hsl : s < 18446744073709551616) (h : (rS ra rc 2 (ds.map askRow)).holds w) : Calls Tryz.prog 3 #[.int .u64 s, .agg (cA c), .slice ra ds.length rc] w fun e w' => e = .returned (.bool true) ∧ Off [] w w' := by
 have H := Lib.hid (Hp.start [] w)
 have H := hp_old H h (by decide)
 clear h
 refine wStart (args := [.int .u64 s, .agg (cA c), .slice ra ds.length rc]) Tryz.func3 rfl rfl rfl H ?_
 clear H
 show Wk 86 _ _ [(0, .int .u64 s), (1, .agg (cA c)), (2, .slice ra ds.length rc)] _ _
 refine wSeqK fun KK1 hK1 => ?_
 refine wReg ?_
 refine wBx rfl rfl rfl fun b4 => ?_
 refine p_exactM rfl ?_
 refine wN ?_
 refine tN (wKK hK1 ?_)
 refine wSeqK fun KK2 hK2 => ?_
 refine wSeqK fun KK3 hK3 => ?_
 refine wReg ?_
 refine wQ (l := []) Tryz.func5 rfl (by kernel_rfl) (.bool true) (fun wc H => awake35 wc) rfl rfl rfl rfl ?_
 refine p_exactM rfl ?_
 refine wN ?_
 refine tN (wKK hK3 ?_)
 refine wCf rfl ?_
 refine wSk ?_
 refine tN (wKK hK2 ?_)
 refine wSeqK fun KK4 hK4 => ?_
 refine wReg ?_
 refine p_exactM rfl ?_
 refine wC (l := [.int .u64 s]) Tryz.func6 rfl (by kernel_rfl) (fun wc H => newC s wc) rfl rfl rfl rfl ?_
 intro wc H
 rintro er wd ⟨b3_1, rfl, hb, hlt, ho⟩
 have H2 := hp_gotBk H ho hb hlt
 refine ⟨_, rfl, wkAt H2 ?_⟩
 clear H H2
 refine p_exactM rfl ?_
 refine wN ?_
 refine tN (wKK hK4 ?_)
 refine wSeqK fun KK5 hK5 => ?_
 refine wReg ?_
 refine p_exactM rfl ?_
 refine wC (l := [.int .u64 s]) Tryz.func7 rfl (by kernel_rfl) (fun wc H => newRC s wc) rfl rfl rfl rfl ?_
 intro wc H
 rintro er wd ⟨b4_1, rfl, hb, hlt, ho⟩
 have H2 := hp_gotBk H ho hb hlt
 refine ⟨_, rfl, wkAt H2 ?_⟩
 clear H H2
 refine p_exactM rfl ?_
 refine wN ?_
 refine tN (wKK hK5 ?_)
 refine wSeqK fun KK6 hK6 => ?_
 refine wSeqK fun KK7 hK7 => ?_
 refine wReg ?_
 refine p_exactM rfl ?_
 refine wN ?_
 refine tN (wKK hK7 ?_)
 refine wBlk ?_
 refine wLoop (fun ab wv => ∃ i : Nat, ∃ x : Nat, (i ≤ ds.length) ∧ (x < 18446744073709551616) ∧ ab.tmps.size = 86 ∧ ab.defers = [] ∧ Sat [(0, .int .u64 s), (1, .agg (cA c)), (2, .slice ra ds.length rc), (4, .pointer (some ⟨b4, 0, none⟩)), (7, .pointer (some ⟨b3_1, 0, none⟩)), (8, .pointer (some ⟨b4_1, 0, none⟩)), (9, .int .i64 i), (13, .bool false)] ab ∧ Hid (Hp [] w wv [rB b4_1 63 [.int .u64 x], rB b3_1 61 [.int .u64 x], rB b4 25 (cL c), rS ra rc 2 (ds.map askRow)])) (fun ab _ => ds.length - (intOf (ab.eval (.tmp 9))).toNat) (fun aa ww nn dd hs H => ⟨0, seedV s, (by omega), (seedV_lt hsl), nn, dd, (sat_sub ⟨rfl, rfl, rfl, rfl, rfl, rfl, rfl, rfl, trivial⟩ hs), H⟩) ?_
 rintro a1 wv ⟨i, x, hi, hxl, nn, dd, hs, H⟩
 have mu1_9 := hs 9 _ rfl
 refine wIn nn dd hs H ?_
 clear nn dd hs H
 refine wSeqK fun KK8 hK8 => ?_
 refine wSeqK fun KK9 hK9 => ?_
 refine wReg ?_
 iterate 2 refine p_exactM rfl ?_
 refine wE (.int .i64 ds.length) rfl rfl rfl (fun aa ww hs _ => by have e19 := hs 19 _ rfl; have g19 := gt_of e19; simp only [execOp]; go_simp <;> first | rfl | omega) ?_
 refine p_exactM rfl ?_
 refine wB (c := decide (i < ds.length)) 21 rfl (by simp) ?_
 refine p_exactM rfl ?_
 refine wCut 3 [(25, .bool ((decide (i < ds.length)) && (decide ((i : Int) < 60)))), (0, .int .u64 s), (1, .agg (cA c)), (2, .slice ra ds.length rc), (4, .pointer (some ⟨b4, 0, none⟩)), (7, .pointer (some ⟨b3_1, 0, none⟩)), (8, .pointer (some ⟨b4_1, 0, none⟩)), (9, .int .i64 i), (13, .bool false)] ?_ ?_
 · intro KK hKK
   rcases Bool.eq_false_or_eq_true (decide (i < ds.length)) with u1 | u1
   · skip
     refine wB (c := true) 22 rfl u1 ?_
     iterate 2 refine p_exactM rfl ?_
     refine p_exactM rfl ?_
     refine wB (c := (decide (i < ds.length)) && (decide ((i : Int) < 60))) 25 rfl (by rw [u1]; rfl) ?_
     refine wN (tN ?_)
     exact fun aa ww nn dd hs H => hKK aa ww nn dd (sat_sub ⟨rfl, rfl, rfl, rfl, rfl, rfl, rfl, rfl, rfl, trivial⟩ hs) H
   · skip
     refine wB (c := false) 22 rfl u1 ?_
     iterate 2 refine p_exactM rfl ?_
     refine p_exactM rfl ?_
     refine wB (c := (decide (i < ds.length)) && (decide ((i : Int) < 60))) 25 rfl (by rw [u1]; rfl) ?_
     refine wN (tN ?_)
     exact fun aa ww nn dd hs H => hKK aa ww nn dd (sat_sub ⟨rfl, rfl, rfl, rfl, rfl, rfl, rfl, rfl, rfl, trivial⟩ hs) H
 refine wN ?_
 refine tN (wKK hK9 ?_)
 refine wCond (E := (decide (i < ds.length)) && (decide ((i : Int) < 60))) rfl (fun z2 => ?_) (fun z2 => ?_)
 · skip
   have z2l : (decide (i < ds.length)) = true := Reg.bl z2
   have z2ld : i < ds.length := of_decide_eq_true z2l
   have z2r : (decide ((i : Int) < 60)) = true := Reg.br z2
   have z2rd : (i : Int) < 60 := of_decide_eq_true z2r
   intro aa ww nn dd hs H
   obtain ⟨y, rfl⟩ := some_of_row (i := i) (hp_held H (show rS ra _ 2 (ds.map askRow) ∈ _ by (repeat (first | exact List.Mem.head _ | apply List.Mem.tail)))) (by simp; omega)
   obtain ⟨d, hx⟩ : ∃ d, ds[i]? = some d := ⟨ds[i], List.getElem?_eq_getElem (by omega)⟩
   have HRd := Lib.hid (show (ds.map askRow)[i]? = some [.int .i64 d.kind, .int .i64 d.n] by rw [List.getElem?_map, hx]; rfl)
   clear hx
   refine wIn nn dd hs H ?_
   refine wSk ?_
   refine tN (wKK hK8 ?_)
   refine wSeqK fun KK10 hK10 => ?_
   refine wBlk ?_
   refine wSeqK fun KK11 hK11 => ?_
   refine wReg ?_
   iterate 2 refine p_exactM rfl ?_
   refine wE (.pointer (some (y.add (i * 2)))) rfl rfl rfl (fun aa ww hs _ => by have e28 := hs 28 _ rfl; have g28 := gt_of e28; have e29 := hs 29 _ rfl; have g29 := gt_of e29; simp only [execOp]; go_simp <;> first | rfl | omega) ?_
   refine wX 31 (.agg #[.int .i64 d.kind, .int .i64 d.n]) rfl (fun aa ww KK hs H _ hk => hpS_load tyhoistwaylaw35_Ask H (y := y) rfl (hs _ _ rfl) (wnt_ok hs rfl) (by (repeat (first | exact List.Mem.head _ | apply List.Mem.tail))) HRd.out rfl hk) ?_
   refine wAl rfl rfl tyhoistwaylaw35_Ask fun b10 => ?_
   refine wSr rfl tyhoistwaylaw35_Ask 0 rfl rfl rfl rfl [.int .i64 d.kind, .int .i64 d.n] (by first | rfl | (simp only [spl]; rfl)) ?_
   refine wN ?_
   refine tN (wKK hK11 ?_)
   refine wSeqK fun KK12 hK12 => ?_
   refine wReg ?_
   refine p_exactM rfl ?_
   refine wLd rfl tyint 0 rfl rfl ?_
   refine wN ?_
   refine tN (wKK hK12 ?_)
   refine wBlk ?_
   refine wSeqK fun KK13 hK13 => ?_
   refine wReg ?_
   iterate 2 refine p_exactM rfl ?_
   refine wN ?_
   refine tN (wKK hK13 ?_)
   refine wCond (E := d.kind == 1) rfl (fun z3 => ?_) (fun z3 => ?_)
   · skip
     have z3o : (d.kind != 1) = false := eqq_t z3
     refine wSeqK fun KK14 hK14 => ?_
     refine wReg ?_
     refine p_exactM rfl ?_
     refine wC (l := [.pointer (some ⟨b3_1, 0, none⟩)]) Tryz.func8 rfl (by kernel_rfl) (fun wc H => nextC b3_1 x wc (H.out.blk 2 rfl) hxl) rfl rfl rfl rfl ?_
     intro wc H
     rintro er wd ⟨rfl, hb, ho⟩
     have H2 := hp_turn H (i := 2) (cs' := [.int .u64 (nextN x)]) rfl hb ho
     refine ⟨_, rfl, wkAt H2 ?_⟩
     clear H H2
     refine p_exactM rfl ?_
     refine wC (l := [.pointer (some ⟨b4_1, 0, none⟩)]) Tryz.func9 rfl (by kernel_rfl) (fun wc H => nextRC b4_1 x wc (H.out.blk 1 rfl) hxl) rfl rfl rfl rfl ?_
     intro wc H
     rintro er wd ⟨rfl, hb, ho⟩
     have H2 := hp_turn H (i := 1) (cs' := [.int .u64 (nextN x)]) rfl hb ho
     refine ⟨_, rfl, wkAt H2 ?_⟩
     clear H H2
     refine p_exactM rfl ?_
     refine wB (c := false) 52 rfl (by simp) ?_
     refine wN ?_
     refine tN (wKK hK14 ?_)
     refine wCf rfl ?_
     refine wSk ?_
     refine bN (bN (tN (wKK hK10 ?_)))
     refine wReg ?_
     iterate 2 refine p_exactM rfl ?_
     refine wI 27 rfl (IntWalk.i64_in _ (by omega)) ?_
     refine p_exactM rfl ?_
     refine wN ?_
     refine tN ?_
     intro aa ww nn dd hs H
     refine ⟨⟨i + 1, (nextN x), (by omega), (nextN_lt hxl), nn, dd, (sat_sub ⟨rfl, rfl, rfl, rfl, rfl, rfl, rfl, rfl, trivial⟩ hs), (hp_sel [1, 2, 3, 4] H (by decide) rfl)⟩, ?_⟩
     have m9 := hs 9 _ rfl
     simp only [mu1_9, m9, intOf]
     omega
   · skip
     have z3o : (d.kind != 1) = true := eqq_f z3
     refine wSeqK fun KK15 hK15 => ?_
     refine wReg ?_
     iterate 2 refine p_exactM rfl ?_
     refine wN ?_
     refine tN (wKK hK15 ?_)
     refine wCond (E := d.kind == 2) rfl (fun z4 => ?_) (fun z4 => ?_)
     · skip
       have z4o : (d.kind != 2) = false := eqq_t z4
       refine wSeqK fun KK16 hK16 => ?_
       intro aa ww nn dd hs H
       refine exactM_r16 s c rc ds b4 b3_1 b4_1 i x y d b10 hsl hi hxl z2ld z2rd H aa nn (hs 7 _ rfl) (hs 8 _ rfl) (hs 10 _ rfl) ?_
       intro ab wv nn2 dd2 kp o63 H2
       refine wIn nn2 (dd2.trans dd) (Sat.cons (Sat.cons (Sat.cons (Sat.cons (Sat.cons (Sat.cons (Sat.cons (Sat.cons (Sat.cons (Sat.cons (Sat.cons (Sat.cons (Sat.cons (Sat.cons (sat_nil ab) ((kp 53 rfl).trans (hs 53 _ rfl))) ((kp 46 rfl).trans (hs 46 _ rfl))) ((kp 33 rfl).trans (hs 33 _ rfl))) ((kp 25 rfl).trans (hs 25 _ rfl))) ((kp 13 rfl).trans (hs 13 _ rfl))) ((kp 10 rfl).trans (hs 10 _ rfl))) ((kp 9 rfl).trans (hs 9 _ rfl))) ((kp 8 rfl).trans (hs 8 _ rfl))) ((kp 7 rfl).trans (hs 7 _ rfl))) ((kp 4 rfl).trans (hs 4 _ rfl))) ((kp 2 rfl).trans (hs 2 _ rfl))) ((kp 1 rfl).trans (hs 1 _ rfl))) ((kp 0 rfl).trans (hs 0 _ rfl))) o63) H2 ?_
       clear hs H kp H2 dd dd2 nn nn2 o63
       refine tN (wKK hK16 ?_)
       refine wCf rfl ?_
       refine wSk ?_
       refine bN (bN (tN (wKK hK10 ?_)))
       refine wReg ?_
       iterate 2 refine p_exactM rfl ?_
       refine wI 27 rfl (IntWalk.i64_in _ (by omega)) ?_
       refine p_exactM rfl ?_
       refine wN ?_
       refine tN ?_
       intro aa ww nn dd hs H
       refine ⟨⟨i + 1, (belR x d.n).2, (by omega), (belR_lt hxl), nn, dd, (sat_sub ⟨rfl, rfl, rfl, rfl, rfl, rfl, rfl, rfl, trivial⟩ hs), (hp_sel [1, 2, 3, 4] H (by decide) rfl)⟩, ?_⟩
       have m9 := hs 9 _ rfl
       simp only [mu1_9, m9, intOf]
       omega
     · skip
       have z4o : (d.kind != 2) = true := eqq_f z4
       refine wSeqK fun KK17 hK17 => ?_
       intro aa ww nn dd hs H
       refine exactM_r10 s c rc ds b4 b3_1 b4_1 i x y d b10 hsl hi hxl z2ld z2rd H aa nn (hs 4 _ rfl) (hs 7 _ rfl) (hs 8 _ rfl) (hs 10 _ rfl) ?_
       intro ab wv nn2 dd2 kp o45 H2
       refine wIn nn2 (dd2.trans dd) (Sat.cons (Sat.cons (Sat.cons (Sat.cons (Sat.cons (Sat.cons (Sat.cons (Sat.cons (Sat.cons (Sat.cons (Sat.cons (Sat.cons (Sat.cons (Sat.cons (sat_nil ab) ((kp 53 rfl).trans (hs 53 _ rfl))) ((kp 46 rfl).trans (hs 46 _ rfl))) ((kp 33 rfl).trans (hs 33 _ rfl))) ((kp 25 rfl).trans (hs 25 _ rfl))) ((kp 13 rfl).trans (hs 13 _ rfl))) ((kp 10 rfl).trans (hs 10 _ rfl))) ((kp 9 rfl).trans (hs 9 _ rfl))) ((kp 8 rfl).trans (hs 8 _ rfl))) ((kp 7 rfl).trans (hs 7 _ rfl))) ((kp 4 rfl).trans (hs 4 _ rfl))) ((kp 2 rfl).trans (hs 2 _ rfl))) ((kp 1 rfl).trans (hs 1 _ rfl))) ((kp 0 rfl).trans (hs 0 _ rfl))) o45) H2 ?_
       clear hs H kp H2 dd dd2 nn nn2 o45
       refine tN (wKK hK17 ?_)
       refine wCf rfl ?_
       refine wSk ?_
       refine bN (bN (tN (wKK hK10 ?_)))
       refine wReg ?_
       iterate 2 refine p_exactM rfl ?_
       refine wI 27 rfl (IntWalk.i64_in _ (by omega)) ?_
       refine p_exactM rfl ?_
       refine wN ?_
       refine tN ?_
       intro aa ww nn dd hs H
       refine ⟨⟨i + 1, (drawReq x c d.n).2, (by omega), (drawReq_lt hxl), nn, dd, (sat_sub ⟨rfl, rfl, rfl, rfl, rfl, rfl, rfl, rfl, trivial⟩ hs), (hp_sel [1, 2, 3, 4] H (by decide) rfl)⟩, ?_⟩
       have m9 := hs 9 _ rfl
       simp only [mu1_9, m9, intOf]
       omega
 · skip
   refine wEx ?_
   refine tX (tX (bX (tN (wKK hK6 ?_))))
   refine wSeqK fun KK18 hK18 => ?_
   refine wReg ?_
   refine p_exactM rfl ?_
   refine wN ?_
   refine tN (wKK hK18 ?_)
   refine wSeqK fun KK19 hK19 => ?_
   refine wReg ?_
   refine p_exactM rfl ?_
   refine wQ (l := [.pointer none]) Tryz.func8 rfl (by kernel_rfl) (.int .u64 0) (fun wc H => nextNil wc) rfl rfl rfl rfl ?_
   iterate 3 refine p_exactM rfl ?_
   refine wQ (l := [.pointer none, .int .i64 9]) Tryz.func10 rfl (by kernel_rfl) (.int .i64 0) (fun wc H => belowNil 9 wc) rfl rfl rfl rfl ?_
   iterate 4 refine p_exactM rfl ?_
   refine wLr rfl tyapi_Config 2 rfl (cL c) rfl rfl ?_
   refine wQ (l := [.pointer none, .agg (cA c), .int .i64 0]) Tryz.func13 rfl (by kernel_rfl) (.agg #[.int .i64 0, .int .i64 0, .int .i64 0, .int .i64 0, .int .u32 0, .int .u64 0, .int .i64 0, .int .i64 0, .int .i64 0, .int .i64 0, .int .i64 0, .int .i64 0, .int .i64 0, .int .i64 0, .int .i64 0, .int .i64 0, .int .i64 0, .int .i64 0, .int .i64 0]) (fun wc H => reqNil c 0 wc) rfl rfl rfl rfl ?_
   refine wE (.agg #[.int .i64 0, .int .i64 0, .int .i64 0, .int .i64 0, .int .u32 0, .int .u64 0, .int .i64 0, .int .i64 0, .int .i64 0, .int .i64 0, .int .i64 0, .int .i64 0, .int .i64 0, .int .i64 0, .int .i64 0, .int .i64 0, .int .i64 0, .int .i64 0, .int .i64 0]) rfl rfl rfl (fun aa ww hs _ => by simp only [execOp]; go_simp <;> first | rfl | omega) ?_
   refine wE (.bool (true)) rfl rfl rfl (fun aa wc hs H => exec_eql rfl (hs _ _ rfl) (hs _ _ rfl) (by kernel_rfl) (run_eq_req_same (⟨0, 0, 0, 0, 0, 0, (⟨0, 0, 0, 0, 0, 0, 0, 0⟩ : CallV), 0, 0, 0, (⟨0, 0⟩ : FilterV)⟩ : ReqV) wc)) ?_
   iterate 3 refine p_exactM rfl ?_
   refine wLr rfl tyapi_Config 2 rfl (cL c) rfl rfl ?_
   refine wQ (l := [.pointer none, .agg (cA c), .int .i64 9]) Tryz.func15 rfl (by kernel_rfl) (.slice none 0 0) (fun wc H => eventsNil c 9 wc) rfl rfl rfl rfl ?_
   refine wE (.int .i64 0) rfl rfl rfl (fun aa ww hs _ => by have e82 := hs 82 _ rfl; have g82 := gt_of e82; simp only [execOp]; go_simp <;> first | rfl | omega) ?_
   iterate 3 refine p_exactM rfl ?_
   refine wN ?_
   refine tN (wKK hK19 ?_)
   refine wRet ?_
   exact wR1 rfl rfl (fun ww H => ⟨rfl, H.out.off⟩)
end Go.Proofs.YthflkhalipkdgaaGreat.Mn
