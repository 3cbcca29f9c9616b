/- Layer 35: MintSame. -/
import Derived.Test.YthflkhalipkdgaaProg
import Derived.Below
import Derived.WalkKit
import Derived.KernelRfl
import Derived.RowKit3
import Derived.Deep.LoopGhost
import Derived.Deep.QuietTactic
import Derived.BigQuiet
import Derived.WideLaws
import Derived.Deep.DeepCutAuto
import Derived.Deep.CutBlock
import Derived.Lib.Hide
import Derived.Laws.BitsLemmas
import Derived.Laws.Bits64
import Derived.Laws.BitsAllLaws
import Derived.IntWalk
import Derived.Outline
import Derived.WalkSpells
import Derived.Test.YthflkhalipkdgaaGA
import Derived.Test.YthflkhalipkdgaaMsP
namespace Go.Proofs.Ythflkhalipkdgaa.Mn
set_option maxRecDepth 20000
open Go.RowKit Go.Proofs.Ythflkhalipkdgaa.Mem Go.Proofs.Ythflkhalipkdgaa.Reg Go.Proofs.Ythflkhalipkdgaa.Wk Go.Proofs.Ythflkhalipkdgaa.Si Go.Proofs.Ythflkhalipkdgaa.Ca Go.Proofs.Ythflkhalipkdgaa.Ms Go.Proofs.Ythflkhalipkdgaa.Fr Go.Proofs.Ythflkhalipkdgaa.Bld
set_option linter.unusedVariables false
set_option linter.unusedSimpArgs false

def tab_sameM : Wk.Tab := []
theorem p_sameM {ops : Array Oper} {rest : List Oper} {o : Oper} {w0 : World} {Q : Exit → Act → World → Prop} {S : List Nat} {R : List Res} {K K' : Wk.Env} {N : Nat} (h : Wk.stp tab_sameM N ops K o = some K') (n : Wk.Wk N S w0 K' R (wpList Try.prog ops Q rest)) : Wk.Wk N S w0 K R (wpList Try.prog ops Q (o :: rest)) := Wk.wP (T := tab_sameM) (by kernel_rfl) h n
set_option maxRecDepth 20000 in
theorem sameM_r4 (s : Nat) (c : Cfg) (n : Int) (k : Nat) (e : Nat) (b5 : Nat) (hk : IntKind.i64.wrap ((IntKind.u64.wrap n).tmod 300) = (k : Int)) (he : IntKind.i64.wrap ((k : Int).tdiv 2) = (e : Int)) (hk3 : k < 300) (hsl : s < 18446744073709551616) (he2 : IntKind.i64.wrap ((k : Int) / 2) = (e : Int)) (hek : e < 300) (hle : (evAll (seedV s) c e).length ≤ e) (hlen : (evAll (seedV s) c e).length ≤ (evAll (seedV s) c k).length) {wa wb : World} (H : Hid (Hp [] wa wb [rB b5 31 (cL c)])) (ac0 : Act) (hz : ac0.tmps.size = 112) (so0 : ac0.eval (.tmp 0) = .int .u64 s) (so5 : ac0.eval (.tmp 5) = .pointer (some ⟨b5, 0, none⟩)) (so9 : ac0.eval (.tmp 9) = .int .i64 k) {QR : Exit → Act → World → Prop} (hfin : ∀ (b4_1 : Nat) (a4_4 : Option Addr) (c4_4 : Nat) (ac1 : Act) (wz : World), ac1.tmps.size = 112 → ac1.defers = ac0.defers → (∀ t, ([10, 24, 25, 26, 27, 28] : List Nat).contains t = false → ac1.eval (.tmp t) = ac0.eval (.tmp t)) → ac1.eval (.tmp 10) = .slice a4_4 ((evAll (seedV s) c k).length) c4_4 →  Hid (Hp [] wa wz [rS a4_4 c4_4 3 ((evAll (seedV s) c k).map evRow), rB b5 31 (cL c)]) → QR .normal ac1 wz) : (regAt Try.f4 4).wp Try.prog QR ac0 wb := by
  refine wp_region_st mixedP ⟨[0, 1, 0, 0, 2, 3], by kernel_rfl⟩ [[], [0], [], [], [0, 1, 2, 3], [0, 1, 2, 3, 4]] (by kernel_rfl) (by kernel_rfl) 112 hz (by kernel_rfl) (fun (xx : Nat × Option Addr × Nat) jx => match xx with | (b4_1, a4_4, c4_4) => nth [.int .u64 s, .pointer (some ⟨b4_1, 0, none⟩), .agg (cA c), .int .i64 k, .slice a4_4 ((evAll (seedV s) c k).length) c4_4, .slice a4_4 ((evAll (seedV s) c k).length) c4_4] jx) (fun (LL : Nat → Bool) (xx : Nat × Option Addr × Nat) ww => match xx with | (b4_1, a4_4, c4_4) => Hp [] wa ww (bif LL 1 then (bif LL 4 then [rS a4_4 c4_4 3 ((evAll (seedV s) c k).map evRow), rB b5 31 (cL c)] else [rB b4_1 54 [.int .u64 (seedV s)], rB b5 31 (cL c)]) else [rB b5 31 (cL c)])) (default, default, default) H.out.drew ?_ (steps_al ?_) ?_ ?_
  · intro L1 L2 xx ww hL sg
    have lh1 := hL 1 (by decide)
    have lh4 := hL 4 (by decide)
    simp only [lh1, lh4] at sg
    exact sg
  · refine al_cons ?_ (al_cons ?_ (al_cons ?_ (al_cons ?_ (al_cons ?_ (al_cons ?_ (al_nil))))))
    · intro LL xx ac wc sg hst hwant QQ hgo
      obtain ⟨b4_1, a4_4, c4_4⟩ := xx
      exact op_val hwant hgo hst _ (exec_move rfl ((sg.free 0 (by kernel_rfl)).trans so0)) rfl
    · intro LL xx ac wc sg hst hwant QQ hgo
      obtain ⟨_, a4_4, c4_4⟩ := xx
      have se24 : ac.eval (.tmp 24) = _ := (sg.slot 0 (sg.anc 0 rfl))
      have sg24 := gt_of se24
      (try simp only [nth] at se24 sg24)
      have H := Lib.hid hst
      simp only [sg.self, sg.des 4 rfl, cond_true, cond_false] at H
      refine op_call hwant hgo 6 #[.int .u64 s] (by simp only [execOp]; go_simp) (newC s wc) ?_
      rintro er wd ⟨b4_1, rfl, hb, hlt, ho⟩
      have H2 := hp_gotBk H ho hb hlt
      exact ⟨_, (b4_1, a4_4, c4_4), rfl, (sg.agree (x' := (b4_1, a4_4, c4_4)) (n := 6) rfl (by (iterate 6 (refine ix_cons (by first | exact fun _ => rfl | exact no sg.self | exact no (sg.des _ rfl)) ?_)); exact ix_nil)), rfl, (by simp only [(show upd LL 1 1 = true from rfl), (show upd LL 1 4 = LL 4 from rfl), sg.des 4 rfl, cond_true, cond_false]; exact H2.out)⟩
    · intro LL xx ac wc sg hst hwant QQ hgo
      obtain ⟨b4_1, a4_4, c4_4⟩ := xx
      rcases Bool.eq_false_or_eq_true (LL 1) with lh1 | lh1
      · skip
        have H := Lib.hid hst
        simp only [lh1, sg.des 4 rfl, cond_true, cond_false] at H
        refine hpA_load tyapi_Config H rfl ((sg.free 5 (by kernel_rfl)).trans so5) hwant (by (repeat (first | exact List.Mem.head _ | apply List.Mem.tail))) (by rfl) rfl ?_
        exact hgo _ (b4_1, a4_4, c4_4) _ (fun _ _ => rfl) rfl hst
      · skip
        have H := Lib.hid hst
        simp only [lh1, sg.des 4 rfl, cond_true, cond_false] at H
        refine hpA_load tyapi_Config H rfl ((sg.free 5 (by kernel_rfl)).trans so5) hwant (by (repeat (first | exact List.Mem.head _ | apply List.Mem.tail))) (by rfl) rfl ?_
        exact hgo _ (b4_1, a4_4, c4_4) _ (fun _ _ => rfl) rfl hst
    · intro LL xx ac wc sg hst hwant QQ hgo
      obtain ⟨b4_1, a4_4, c4_4⟩ := xx
      exact op_val hwant hgo hst _ (exec_move rfl ((sg.free 9 (by kernel_rfl)).trans so9)) rfl
    · intro LL xx ac wc sg hst hwant QQ hgo
      obtain ⟨b4_1, _, _⟩ := xx
      have se25 : ac.eval (.tmp 25) = _ := (sg.slot 1 (sg.anc 1 rfl))
      have sg25 := gt_of se25
      have se26 : ac.eval (.tmp 26) = _ := (sg.slot 2 (sg.anc 2 rfl))
      have sg26 := gt_of se26
      have se27 : ac.eval (.tmp 27) = _ := (sg.slot 3 (sg.anc 3 rfl))
      have sg27 := gt_of se27
      (try simp only [nth] at se25 sg25 se26 sg26 se27 sg27)
      have H := Lib.hid hst
      simp only [sg.anc 1 rfl, sg.self, cond_true, cond_false] at H
      refine op_call hwant hgo 9 #[.pointer (some ⟨b4_1, 0, none⟩), .agg (cA c), .int .i64 k] (by simp only [execOp]; go_simp) (eventsC b4_1 (seedV s) c k wc (H.out.blk 0 rfl) (seedV_lt hsl)) ?_
      rintro er wd ⟨a4_4, c4_4, rfl, hh, hf, ho⟩
      have H2 := hp_gone H 0 rfl ho hh (by decide) hf
      exact ⟨_, (b4_1, a4_4, c4_4), rfl, (sg.agree (x' := (b4_1, a4_4, c4_4)) (n := 6) rfl (by (iterate 6 (refine ix_cons (by first | exact fun _ => rfl | exact no sg.self | exact no (sg.des _ rfl)) ?_)); exact ix_nil)), rfl, (by simp only [(show upd LL 4 1 = LL 1 from rfl), sg.anc 1 rfl, (show upd LL 4 4 = true from rfl), cond_true, cond_false]; exact H2.out)⟩
    · intro LL xx ac wc sg hst hwant QQ hgo
      obtain ⟨b4_1, a4_4, c4_4⟩ := xx
      exact op_val hwant hgo hst _ (exec_assign rfl (sg.slot 4 (sg.anc 4 rfl))) rfl
  · exact skips [] (by kernel_rfl) (fun _ h => by cases h)
  · intro xx ac1 wz hfr hsl hst
    obtain ⟨b4_1, a4_4, c4_4⟩ := xx
    exact hfin b4_1 a4_4 c4_4 ac1 wz (hfr.size.trans hz) hfr.defers (fr_keep hfr [10, 24, 25, 26, 27, 28] (by kernel_rfl)) (hsl 5 (by decide)) (Lib.hid hst)
set_option maxRecDepth 20000 in
theorem sameM_r5 (s : Nat) (c : Cfg) (n : Int) (k : Nat) (e : Nat) (b5 : Nat) (a4_4 : Option Addr) (c4_4 : Nat) (hk : IntKind.i64.wrap ((IntKind.u64.wrap n).tmod 300) = (k : Int)) (he : IntKind.i64.wrap ((k : Int).tdiv 2) = (e : Int)) (hk3 : k < 300) (hsl : s < 18446744073709551616) (he2 : IntKind.i64.wrap ((k : Int) / 2) = (e : Int)) (hek : e < 300) (hle : (evAll (seedV s) c e).length ≤ e) (hlen : (evAll (seedV s) c e).length ≤ (evAll (seedV s) c k).length) {wa wb : World} (H : Hid (Hp [] wa wb [rS a4_4 c4_4 3 ((evAll (seedV s) c k).map evRow), rB b5 31 (cL c)])) (ac0 : Act) (hz : ac0.tmps.size = 112) (so0 : ac0.eval (.tmp 0) = .int .u64 s) (so5 : ac0.eval (.tmp 5) = .pointer (some ⟨b5, 0, none⟩)) (so9 : ac0.eval (.tmp 9) = .int .i64 k) {QR : Exit → Act → World → Prop} (hfin : ∀ (b5_1 : Nat) (a5_5 : Option Addr) (c5_5 : Nat) (ac1 : Act) (wz : World), ac1.tmps.size = 112 → ac1.defers = ac0.defers → (∀ t, ([11, 29, 30, 31, 32, 33, 34] : List Nat).contains t = false → ac1.eval (.tmp t) = ac0.eval (.tmp t)) → ac1.eval (.tmp 11) = .slice a5_5 ((evAll (seedV s) c e).length) c5_5 →  Hid (Hp [] wa wz [rS a5_5 c5_5 3 ((evAll (seedV s) c e).map evRow), rS a4_4 c4_4 3 ((evAll (seedV s) c k).map evRow), rB b5 31 (cL c)]) → QR .normal ac1 wz) : (regAt Try.f4 5).wp Try.prog QR ac0 wb := by
  refine wp_region_st mixedP ⟨[0, 1, 0, 0, 1, 2, 3], by kernel_rfl⟩ [[], [0], [], [], [3], [0, 1, 2, 3, 4], [0, 1, 2, 3, 4, 5]] (by kernel_rfl) (by kernel_rfl) 112 hz (by kernel_rfl) (fun (xx : Nat × Option Addr × Nat) jx => match xx with | (b5_1, a5_5, c5_5) => nth [.int .u64 s, .pointer (some ⟨b5_1, 0, none⟩), .agg (cA c), .int .i64 k, .int .i64 e, .slice a5_5 ((evAll (seedV s) c e).length) c5_5, .slice a5_5 ((evAll (seedV s) c e).length) c5_5] jx) (fun (LL : Nat → Bool) (xx : Nat × Option Addr × Nat) ww => match xx with | (b5_1, a5_5, c5_5) => Hp [] wa ww (bif LL 1 then (bif LL 5 then [rS a5_5 c5_5 3 ((evAll (seedV s) c e).map evRow), rS a4_4 c4_4 3 ((evAll (seedV s) c k).map evRow), rB b5 31 (cL c)] else [rB b5_1 54 [.int .u64 (seedV s)], rS a4_4 c4_4 3 ((evAll (seedV s) c k).map evRow), rB b5 31 (cL c)]) else [rS a4_4 c4_4 3 ((evAll (seedV s) c k).map evRow), rB b5 31 (cL c)])) (default, default, default) H.out.drew ?_ (steps_al ?_) ?_ ?_
  · intro L1 L2 xx ww hL sg
    have lh1 := hL 1 (by decide)
    have lh5 := hL 5 (by decide)
    simp only [lh1, lh5] at sg
    exact sg
  · refine al_cons ?_ (al_cons ?_ (al_cons ?_ (al_cons ?_ (al_cons ?_ (al_cons ?_ (al_cons ?_ (al_nil)))))))
    · intro LL xx ac wc sg hst hwant QQ hgo
      obtain ⟨b5_1, a5_5, c5_5⟩ := xx
      exact op_val hwant hgo hst _ (exec_move rfl ((sg.free 0 (by kernel_rfl)).trans so0)) rfl
    · intro LL xx ac wc sg hst hwant QQ hgo
      obtain ⟨_, a5_5, c5_5⟩ := xx
      have se29 : ac.eval (.tmp 29) = _ := (sg.slot 0 (sg.anc 0 rfl))
      have sg29 := gt_of se29
      (try simp only [nth] at se29 sg29)
      have H := Lib.hid hst
      simp only [sg.self, sg.des 5 rfl, cond_true, cond_false] at H
      refine op_call hwant hgo 6 #[.int .u64 s] (by simp only [execOp]; go_simp) (newC s wc) ?_
      rintro er wd ⟨b5_1, rfl, hb, hlt, ho⟩
      have H2 := hp_gotBk H ho hb hlt
      exact ⟨_, (b5_1, a5_5, c5_5), rfl, (sg.agree (x' := (b5_1, a5_5, c5_5)) (n := 7) rfl (by (iterate 7 (refine ix_cons (by first | exact fun _ => rfl | exact no sg.self | exact no (sg.des _ rfl)) ?_)); exact ix_nil)), rfl, (by simp only [(show upd LL 1 1 = true from rfl), (show upd LL 1 5 = LL 5 from rfl), sg.des 5 rfl, cond_true, cond_false]; exact H2.out)⟩
    · intro LL xx ac wc sg hst hwant QQ hgo
      obtain ⟨b5_1, a5_5, c5_5⟩ := xx
      rcases Bool.eq_false_or_eq_true (LL 1) with lh1 | lh1
      · skip
        have H := Lib.hid hst
        simp only [lh1, sg.des 5 rfl, cond_true, cond_false] at H
        refine hpA_load tyapi_Config H rfl ((sg.free 5 (by kernel_rfl)).trans so5) hwant (by (repeat (first | exact List.Mem.head _ | apply List.Mem.tail))) (by rfl) rfl ?_
        exact hgo _ (b5_1, a5_5, c5_5) _ (fun _ _ => rfl) rfl hst
      · skip
        have H := Lib.hid hst
        simp only [lh1, sg.des 5 rfl, cond_true, cond_false] at H
        refine hpA_load tyapi_Config H rfl ((sg.free 5 (by kernel_rfl)).trans so5) hwant (by (repeat (first | exact List.Mem.head _ | apply List.Mem.tail))) (by rfl) rfl ?_
        exact hgo _ (b5_1, a5_5, c5_5) _ (fun _ _ => rfl) rfl hst
    · intro LL xx ac wc sg hst hwant QQ hgo
      obtain ⟨b5_1, a5_5, c5_5⟩ := xx
      exact op_val hwant hgo hst _ (exec_move rfl ((sg.free 9 (by kernel_rfl)).trans so9)) rfl
    · intro LL xx ac wc sg hst hwant QQ hgo
      obtain ⟨b5_1, a5_5, c5_5⟩ := xx
      have se32 : ac.eval (.tmp 32) = _ := (sg.slot 3 (sg.anc 3 rfl))
      have sg32 := gt_of se32
      (try simp only [nth] at se32 sg32)
      exact op_val hwant hgo hst _ (by simp only [execOp, nth]; go_simp <;> omega) rfl
    · intro LL xx ac wc sg hst hwant QQ hgo
      obtain ⟨b5_1, _, _⟩ := xx
      have se30 : ac.eval (.tmp 30) = _ := (sg.slot 1 (sg.anc 1 rfl))
      have sg30 := gt_of se30
      have se31 : ac.eval (.tmp 31) = _ := (sg.slot 2 (sg.anc 2 rfl))
      have sg31 := gt_of se31
      have se33 : ac.eval (.tmp 33) = _ := (sg.slot 4 (sg.anc 4 rfl))
      have sg33 := gt_of se33
      (try simp only [nth] at se30 sg30 se31 sg31 se33 sg33)
      have H := Lib.hid hst
      simp only [sg.anc 1 rfl, sg.self, cond_true, cond_false] at H
      refine op_call hwant hgo 9 #[.pointer (some ⟨b5_1, 0, none⟩), .agg (cA c), .int .i64 e] (by simp only [execOp]; go_simp) (eventsC b5_1 (seedV s) c e wc (H.out.blk 0 rfl) (seedV_lt hsl)) ?_
      rintro er wd ⟨a5_5, c5_5, rfl, hh, hf, ho⟩
      have H2 := hp_gone H 0 rfl ho hh (by decide) hf
      exact ⟨_, (b5_1, a5_5, c5_5), rfl, (sg.agree (x' := (b5_1, a5_5, c5_5)) (n := 7) rfl (by (iterate 7 (refine ix_cons (by first | exact fun _ => rfl | exact no sg.self | exact no (sg.des _ rfl)) ?_)); exact ix_nil)), rfl, (by simp only [(show upd LL 5 1 = LL 1 from rfl), sg.anc 1 rfl, (show upd LL 5 5 = true from rfl), cond_true, cond_false]; exact H2.out)⟩
    · intro LL xx ac wc sg hst hwant QQ hgo
      obtain ⟨b5_1, a5_5, c5_5⟩ := xx
      exact op_val hwant hgo hst _ (exec_assign rfl (sg.slot 5 (sg.anc 5 rfl))) rfl
  · exact skips [] (by kernel_rfl) (fun _ h => by cases h)
  · intro xx ac1 wz hfr hsl hst
    obtain ⟨b5_1, a5_5, c5_5⟩ := xx
    exact hfin b5_1 a5_5 c5_5 ac1 wz (hfr.size.trans hz) hfr.defers (fr_keep hfr [11, 29, 30, 31, 32, 33, 34] (by kernel_rfl)) (hsl 6 (by decide)) (Lib.hid hst)
set_option maxRecDepth 20000 in
theorem sameM_r9 (s : Nat) (c : Cfg) (n : Int) (k : Nat) (e : Nat) (b5 : Nat) (c4_4 : Nat) (c5_5 : Nat) (i : Nat) (y1 : Addr) (y2 : Addr) (x : EvV) (hk : IntKind.i64.wrap ((IntKind.u64.wrap n).tmod 300) = (k : Int)) (he : IntKind.i64.wrap ((k : Int).tdiv 2) = (e : Int)) (hk3 : k < 300) (hsl : s < 18446744073709551616) (he2 : IntKind.i64.wrap ((k : Int) / 2) = (e : Int)) (hek : e < 300) (hle : (evAll (seedV s) c e).length ≤ e) (hlen : (evAll (seedV s) c e).length ≤ (evAll (seedV s) c k).length) (hi : i ≤ (evAll (seedV s) c e).length) (z1d : i < ((evAll (seedV s) c e).length)) (hge : decide ((evAll (seedV s) c k).length ≤ i) = false) (HRx : Hid (((evAll (seedV s) c k).map evRow)[i]? = some [.int .i64 x.kind, .int .i64 x.n, .string x.data])) (HRy : Hid (((evAll (seedV s) c e).map evRow)[i]? = some [.int .i64 x.kind, .int .i64 x.n, .string x.data])) {wa wb : World} (H : Hid (Hp [] wa wb [rS (some y2) c5_5 3 ((evAll (seedV s) c e).map evRow), rS (some y1) c4_4 3 ((evAll (seedV s) c k).map evRow), rB b5 31 (cL c)])) (ac0 : Act) (hz : ac0.tmps.size = 112) (so10 : ac0.eval (.tmp 10) = .slice (some y1) ((evAll (seedV s) c k).length) c4_4) (so11 : ac0.eval (.tmp 11) = .slice (some y2) ((evAll (seedV s) c e).length) c5_5) (so12 : ac0.eval (.tmp 12) = .int .i64 i) {QR : Exit → Act → World → Prop} (hfin : ∀ (ac1 : Act) (wz : World), ac1.tmps.size = 112 → ac1.defers = ac0.defers → (∀ t, ([41, 42, 43, 44, 45, 46, 47, 48, 49, 50, 51, 52, 53, 54, 55] : List Nat).contains t = false → ac1.eval (.tmp t) = ac0.eval (.tmp t)) → ac1.eval (.tmp 55) = .bool false →  Hid (Hp [] wa wz [rS (some y2) c5_5 3 ((evAll (seedV s) c e).map evRow), rS (some y1) c4_4 3 ((evAll (seedV s) c k).map evRow), rB b5 31 (cL c)]) → QR .normal ac1 wz) : (regAt Try.f4 9).wp Try.prog QR ac0 wb := by
  refine wp_region_st mixedP ⟨[0, 0, 1, 2, 3, 4, 4, 5, 6, 4, 4, 5, 6, 7, 8], by kernel_rfl⟩ [[], [], [1], [0, 1, 2], [0, 1, 2, 3], [0, 1, 2, 3, 4], [0, 1, 2, 3, 4], [0, 1, 2, 3, 4, 5, 6], [0, 1, 2, 3, 4, 5, 6, 7], [0, 1, 2, 3, 4], [0, 1, 2, 3, 4], [0, 1, 2, 3, 4, 9, 10], [0, 1, 2, 3, 4, 9, 10, 11], [0, 1, 2, 3, 4, 5, 6, 7, 8, 9, 10, 11, 12], [0, 1, 2, 3, 4, 5, 6, 7, 8, 9, 10, 11, 12, 13]] (by kernel_rfl) (by kernel_rfl) 112 hz (by kernel_rfl) (fun (xx : Unit) jx => nth [.int .i64 i, .slice (some y1) ((evAll (seedV s) c k).length) c4_4, .int .i64 ((evAll (seedV s) c k).length), .bool false, .bool false, .slice (some y1) ((evAll (seedV s) c k).length) c4_4, .int .i64 i, .pointer (some (y1.add (i * 3))), .agg #[.int .i64 x.kind, .int .i64 x.n, .string x.data], .slice (some y2) ((evAll (seedV s) c e).length) c5_5, .int .i64 i, .pointer (some (y2.add (i * 3))), .agg #[.int .i64 x.kind, .int .i64 x.n, .string x.data], .bool false, .bool false] jx) (fun (LL : Nat → Bool) (xx : Unit) ww => Hp [] wa ww [rS (some y2) c5_5 3 ((evAll (seedV s) c e).map evRow), rS (some y1) c4_4 3 ((evAll (seedV s) c k).map evRow), rB b5 31 (cL c)]) () H.out.drew ?_ (steps_al ?_) ?_ ?_
  · exact fun _ _ _ _ _ h => h
  · refine al_cons ?_ (al_cons ?_ (al_cons ?_ (al_cons ?_ (al_cons ?_ (al_cons ?_ (al_cons ?_ (al_cons ?_ (al_cons ?_ (al_cons ?_ (al_cons ?_ (al_cons ?_ (al_cons ?_ (al_cons ?_ (al_cons ?_ (al_nil)))))))))))))))
    · intro LL xx ac wc sg hst hwant QQ hgo
      exact op_val hwant hgo hst _ (exec_move rfl ((sg.free 12 (by kernel_rfl)).trans so12)) rfl
    · intro LL xx ac wc sg hst hwant QQ hgo
      exact op_val hwant hgo hst _ (exec_move rfl ((sg.free 10 (by kernel_rfl)).trans so10)) rfl
    · intro LL xx ac wc sg hst hwant QQ hgo
      have se42 : ac.eval (.tmp 42) = _ := (sg.slot 1 (sg.anc 1 rfl))
      have sg42 := gt_of se42
      (try simp only [nth] at se42 sg42)
      exact op_val hwant hgo hst _ (by simp only [execOp, nth]; go_simp <;> omega) rfl
    · intro LL xx ac wc sg hst hwant QQ hgo
      have se41 : ac.eval (.tmp 41) = _ := (sg.slot 0 (sg.anc 0 rfl))
      have sg41 := gt_of se41
      have se43 : ac.eval (.tmp 43) = _ := (sg.slot 2 (sg.anc 2 rfl))
      have sg43 := gt_of se43
      (try simp only [nth] at se41 sg41 se43 sg43)
      exact op_val hwant hgo hst _ (by simp only [execOp, nth]; go_simp <;> omega) rfl
    · intro LL xx ac wc sg hst hwant QQ hgo
      exact op_val hwant hgo hst _ (exec_move rfl (sg.slot 3 (sg.anc 3 rfl))) rfl
    · intro LL xx ac wc sg hst hwant QQ hgo
      exact op_val hwant hgo hst _ (exec_move rfl ((sg.free 10 (by kernel_rfl)).trans so10)) rfl
    · intro LL xx ac wc sg hst hwant QQ hgo
      exact op_val hwant hgo hst _ (exec_move rfl ((sg.free 12 (by kernel_rfl)).trans so12)) rfl
    · intro LL xx ac wc sg hst hwant QQ hgo
      have se46 : ac.eval (.tmp 46) = _ := (sg.slot 5 (sg.anc 5 rfl))
      have sg46 := gt_of se46
      have se47 : ac.eval (.tmp 47) = _ := (sg.slot 6 (sg.anc 6 rfl))
      have sg47 := gt_of se47
      (try simp only [nth] at se46 sg46 se47 sg47)
      exact op_val hwant hgo hst _ (by simp only [execOp, nth]; go_simp <;> omega) rfl
    · intro LL xx ac wc sg hst hwant QQ hgo
      have H := Lib.hid hst
      refine hpS_load tyhouse_Event H (y := y1) rfl (sg.slot 7 (sg.anc 7 rfl)) hwant (by (repeat (first | exact List.Mem.head _ | apply List.Mem.tail))) HRx.out rfl ?_
      exact hgo _ () _ (fun _ _ => rfl) rfl hst
    · intro LL xx ac wc sg hst hwant QQ hgo
      exact op_val hwant hgo hst _ (exec_move rfl ((sg.free 11 (by kernel_rfl)).trans so11)) rfl
    · intro LL xx ac wc sg hst hwant QQ hgo
      exact op_val hwant hgo hst _ (exec_move rfl ((sg.free 12 (by kernel_rfl)).trans so12)) rfl
    · intro LL xx ac wc sg hst hwant QQ hgo
      have se50 : ac.eval (.tmp 50) = _ := (sg.slot 9 (sg.anc 9 rfl))
      have sg50 := gt_of se50
      have se51 : ac.eval (.tmp 51) = _ := (sg.slot 10 (sg.anc 10 rfl))
      have sg51 := gt_of se51
      (try simp only [nth] at se50 sg50 se51 sg51)
      exact op_val hwant hgo hst _ (by simp only [execOp, nth]; go_simp <;> omega) rfl
    · intro LL xx ac wc sg hst hwant QQ hgo
      have H := Lib.hid hst
      refine hpS_load tyhouse_Event H (y := y2) rfl (sg.slot 11 (sg.anc 11 rfl)) hwant (by (repeat (first | exact List.Mem.head _ | apply List.Mem.tail))) HRy.out rfl ?_
      exact hgo _ () _ (fun _ _ => rfl) rfl hst
    · intro LL xx ac wc sg hst hwant QQ hgo
      exact op_val hwant hgo hst (.bool (!true)) (exec_neq rfl (sg.slot 8 (sg.anc 8 rfl)) (sg.slot 12 (sg.anc 12 rfl)) (by kernel_rfl) (run_eq_event_same x wc)) (congrArg Value.bool (by simp))
    · intro LL xx ac wc sg hst hwant QQ hgo
      exact op_val hwant hgo hst (.bool false) (exec_pick (B := false) (U := undef) (V := .bool false) rfl (sg.slot 4 (sg.anc 4 rfl)) (fun h => by cases h) (fun _ => (sg.slot 13 (sg.anc 13 rfl)))) rfl
  · refine skips [5, 6, 7, 8, 9, 10, 11, 12, 13] (by kernel_rfl) ?_
    refine List.forall_mem_cons.2 ⟨?_, List.forall_mem_cons.2 ⟨?_, List.forall_mem_cons.2 ⟨?_, List.forall_mem_cons.2 ⟨?_, List.forall_mem_cons.2 ⟨?_, List.forall_mem_cons.2 ⟨?_, List.forall_mem_cons.2 ⟨?_, List.forall_mem_cons.2 ⟨?_, List.forall_mem_cons.2 ⟨?_, fun _ h => by cases h⟩⟩⟩⟩⟩⟩⟩⟩⟩
    · intro oo hop LL xx ac sg hwant
      cases Option.some.inj hop
      exact absurd ((want_f rfl rfl (sg.slot 4 (sg.anc 4 rfl))).symm.trans hwant) (by decide)
    · intro oo hop LL xx ac sg hwant
      cases Option.some.inj hop
      exact absurd ((want_f rfl rfl (sg.slot 4 (sg.anc 4 rfl))).symm.trans hwant) (by decide)
    · intro oo hop LL xx ac sg hwant
      cases Option.some.inj hop
      exact absurd ((want_f rfl rfl (sg.slot 4 (sg.anc 4 rfl))).symm.trans hwant) (by decide)
    · intro oo hop LL xx ac sg hwant
      cases Option.some.inj hop
      exact absurd ((want_f rfl rfl (sg.slot 4 (sg.anc 4 rfl))).symm.trans hwant) (by decide)
    · intro oo hop LL xx ac sg hwant
      cases Option.some.inj hop
      exact absurd ((want_f rfl rfl (sg.slot 4 (sg.anc 4 rfl))).symm.trans hwant) (by decide)
    · intro oo hop LL xx ac sg hwant
      cases Option.some.inj hop
      exact absurd ((want_f rfl rfl (sg.slot 4 (sg.anc 4 rfl))).symm.trans hwant) (by decide)
    · intro oo hop LL xx ac sg hwant
      cases Option.some.inj hop
      exact absurd ((want_f rfl rfl (sg.slot 4 (sg.anc 4 rfl))).symm.trans hwant) (by decide)
    · intro oo hop LL xx ac sg hwant
      cases Option.some.inj hop
      exact absurd ((want_f rfl rfl (sg.slot 4 (sg.anc 4 rfl))).symm.trans hwant) (by decide)
    · intro oo hop LL xx ac sg hwant
      cases Option.some.inj hop
      exact absurd ((want_f rfl rfl (sg.slot 4 (sg.anc 4 rfl))).symm.trans hwant) (by decide)
  · intro xx ac1 wz hfr hsl hst
    exact hfin ac1 wz (hfr.size.trans hz) hfr.defers (fr_keep hfr [41, 42, 43, 44, 45, 46, 47, 48, 49, 50, 51, 52, 53, 54, 55] (by kernel_rfl)) (hsl 14 (by decide)) (Lib.hid hst)
set_option maxRecDepth 20000 in
theorem sameM_r21 (s : Nat) (c : Cfg) (n : Int) (now : Int) (k : Nat) (e : Nat) (b5 : Nat) (a4_4 : Option Addr) (c4_4 : Nat) (a5_5 : Option Addr) (c5_5 : Nat) (i : Nat) (b11_1 : Nat) (j : Nat) (x : Nat) (b15 : Nat) (hk : IntKind.i64.wrap ((IntKind.u64.wrap n).tmod 300) = (k : Int)) (he : IntKind.i64.wrap ((k : Int).tdiv 2) = (e : Int)) (hk3 : k < 300) (hsl : s < 18446744073709551616) (he2 : IntKind.i64.wrap ((k : Int) / 2) = (e : Int)) (hek : e < 300) (hle : (evAll (seedV s) c e).length ≤ e) (hlen : (evAll (seedV s) c e).length ≤ (evAll (seedV s) c k).length) (hi : i ≤ (evAll (seedV s) c e).length) (z1d : ¬ (i < ((evAll (seedV s) c e).length))) (hj : j ≤ 40) (hxl : x < 18446744073709551616) (z2d : (j : Int) < 40) {wa wb : World} (H : Hid (Hp [] wa wb [rB b15 42 [.int .i64 (((drawReq x c now).1).kind), .int .i64 (((drawReq x c now).1).seq), .int .i64 (((drawReq x c now).1).who), .int .i64 (((drawReq x c now).1).role), .int .u32 (((drawReq x c now).1).token), .int .u64 (((drawReq x c now).1).key), .int .i64 ((((drawReq x c now).1).call).id), .int .i64 ((((drawReq x c now).1).call).kind), .int .i64 ((((drawReq x c now).1).call).src), .int .i64 ((((drawReq x c now).1).call).dst), .int .i64 ((((drawReq x c now).1).call).car), .int .i64 ((((drawReq x c now).1).call).state), .int .i64 ((((drawReq x c now).1).call).owner), .int .i64 ((((drawReq x c now).1).call).born), .int .i64 (((drawReq x c now).1).id), .int .i64 (((drawReq x c now).1).car), .int .i64 (((drawReq x c now).1).mode), .int .i64 ((((drawReq x c now).1).filter).kind), .int .i64 ((((drawReq x c now).1).filter).n)], rB b11_1 54 [.int .u64 ((drawReq x c now).2)], rS a5_5 c5_5 3 ((evAll (seedV s) c e).map evRow), rS a4_4 c4_4 3 ((evAll (seedV s) c k).map evRow), rB b5 31 (cL c)])) (ac0 : Act) (hz : ac0.tmps.size = 112) (so5 : ac0.eval (.tmp 5) = .pointer (some ⟨b5, 0, none⟩)) (so15 : ac0.eval (.tmp 15) = .pointer (some ⟨b15, 0, none⟩)) {QR : Exit → Act → World → Prop} (hfin : ∀ (ac1 : Act) (wz : World), ac1.tmps.size = 112 → ac1.defers = ac0.defers → (∀ t, ([88, 89, 90, 91, 92, 93, 94, 95, 96, 97, 98, 99, 100, 101, 102, 103, 104, 105, 106, 107, 108, 109, 110, 111] : List Nat).contains t = false → ac1.eval (.tmp t) = ac0.eval (.tmp t)) → ac1.eval (.tmp 111) = .bool (((((drawReq x c now).1).kind) == 4) && (!(((checkCallV c (((drawReq x c now).1).call)) == 0) == ((((((drawReq x c now).1).call).kind) != 4) || (((((drawReq x c now).1).call).src) != ((((drawReq x c now).1).call).dst)))))) →  Hid (Hp [] wa wz [rB b15 42 [.int .i64 (((drawReq x c now).1).kind), .int .i64 (((drawReq x c now).1).seq), .int .i64 (((drawReq x c now).1).who), .int .i64 (((drawReq x c now).1).role), .int .u32 (((drawReq x c now).1).token), .int .u64 (((drawReq x c now).1).key), .int .i64 ((((drawReq x c now).1).call).id), .int .i64 ((((drawReq x c now).1).call).kind), .int .i64 ((((drawReq x c now).1).call).src), .int .i64 ((((drawReq x c now).1).call).dst), .int .i64 ((((drawReq x c now).1).call).car), .int .i64 ((((drawReq x c now).1).call).state), .int .i64 ((((drawReq x c now).1).call).owner), .int .i64 ((((drawReq x c now).1).call).born), .int .i64 (((drawReq x c now).1).id), .int .i64 (((drawReq x c now).1).car), .int .i64 (((drawReq x c now).1).mode), .int .i64 ((((drawReq x c now).1).filter).kind), .int .i64 ((((drawReq x c now).1).filter).n)], rB b11_1 54 [.int .u64 ((drawReq x c now).2)], rS a5_5 c5_5 3 ((evAll (seedV s) c e).map evRow), rS a4_4 c4_4 3 ((evAll (seedV s) c k).map evRow), rB b5 31 (cL c)]) → QR .normal ac1 wz) : (regAt Try.f4 21).wp Try.prog QR ac0 wb := by
  refine wp_region_st mixedP ⟨[0, 1, 2, 3, 4, 4, 5, 6, 7, 4, 5, 6, 7, 8, 9, 10, 11, 9, 10, 11, 12, 13, 14, 15], by kernel_rfl⟩ [[], [0], [0, 1], [0, 1, 2], [0, 1, 2, 3], [0, 1, 2, 3], [0, 1, 2, 3, 5], [0, 1, 2, 3, 4, 5, 6], [0, 1, 2, 3, 4, 5, 6, 7], [0, 1, 2, 3], [0, 1, 2, 3, 9], [0, 1, 2, 3, 9, 10], [0, 1, 2, 3, 9, 10, 11], [0, 1, 2, 3, 4, 5, 6, 7, 9, 10, 11, 12], [0, 1, 2, 3, 4, 5, 6, 7, 9, 10, 11, 12, 13], [0, 1, 2, 3, 4, 5, 6, 7, 9, 10, 11, 12, 13, 14], [0, 1, 2, 3, 4, 5, 6, 7, 9, 10, 11, 12, 13, 14, 15], [0, 1, 2, 3, 4, 5, 6, 7, 9, 10, 11, 12, 13], [0, 1, 2, 3, 4, 5, 6, 7, 9, 10, 11, 12, 13, 17], [0, 1, 2, 3, 4, 5, 6, 7, 9, 10, 11, 12, 13, 17, 18], [0, 1, 2, 3, 4, 5, 6, 7, 9, 10, 11, 12, 13, 14, 15, 16, 17, 18, 19], [0, 1, 2, 3, 4, 5, 6, 7, 9, 10, 11, 12, 13, 14, 15, 16, 17, 18, 19, 20], [0, 1, 2, 3, 4, 5, 6, 7, 8, 9, 10, 11, 12, 13, 14, 15, 16, 17, 18, 19, 20, 21], [0, 1, 2, 3, 4, 5, 6, 7, 8, 9, 10, 11, 12, 13, 14, 15, 16, 17, 18, 19, 20, 21, 22]] (by kernel_rfl) (by kernel_rfl) 112 hz (by kernel_rfl) (fun (xx : Unit) jx => nth [.pointer (some ⟨b15, 0, none⟩), .int .i64 (((drawReq x c now).1).kind), .bool ((((drawReq x c now).1).kind) == 4), .bool ((((drawReq x c now).1).kind) == 4), bif ((((drawReq x c now).1).kind) == 4) then .agg (cA c) else undef, bif ((((drawReq x c now).1).kind) == 4) then .pointer (some ⟨b15, 6, none⟩) else undef, bif ((((drawReq x c now).1).kind) == 4) then .agg #[.int .i64 ((((drawReq x c now).1).call).id), .int .i64 ((((drawReq x c now).1).call).kind), .int .i64 ((((drawReq x c now).1).call).src), .int .i64 ((((drawReq x c now).1).call).dst), .int .i64 ((((drawReq x c now).1).call).car), .int .i64 ((((drawReq x c now).1).call).state), .int .i64 ((((drawReq x c now).1).call).owner), .int .i64 ((((drawReq x c now).1).call).born)] else undef, bif ((((drawReq x c now).1).kind) == 4) then .int .i64 (checkCallV c (((drawReq x c now).1).call)) else undef, bif ((((drawReq x c now).1).kind) == 4) then .bool ((checkCallV c (((drawReq x c now).1).call)) == 0) else undef, bif ((((drawReq x c now).1).kind) == 4) then .pointer (some ⟨b15, 6, none⟩) else undef, bif ((((drawReq x c now).1).kind) == 4) then .pointer (some ⟨b15, 7, none⟩) else undef, bif ((((drawReq x c now).1).kind) == 4) then .int .i64 ((((drawReq x c now).1).call).kind) else undef, bif ((((drawReq x c now).1).kind) == 4) then .bool (((((drawReq x c now).1).call).kind) != 4) else undef, bif ((((drawReq x c now).1).kind) == 4) then .bool (((((drawReq x c now).1).call).kind) != 4) else undef, bif (((((drawReq x c now).1).kind) == 4) && !(((((drawReq x c now).1).call).kind) != 4)) then .pointer (some ⟨b15, 6, none⟩) else undef, bif (((((drawReq x c now).1).kind) == 4) && !(((((drawReq x c now).1).call).kind) != 4)) then .pointer (some ⟨b15, 8, none⟩) else undef, bif (((((drawReq x c now).1).kind) == 4) && !(((((drawReq x c now).1).call).kind) != 4)) then .int .i64 ((((drawReq x c now).1).call).src) else undef, bif (((((drawReq x c now).1).kind) == 4) && !(((((drawReq x c now).1).call).kind) != 4)) then .pointer (some ⟨b15, 6, none⟩) else undef, bif (((((drawReq x c now).1).kind) == 4) && !(((((drawReq x c now).1).call).kind) != 4)) then .pointer (some ⟨b15, 9, none⟩) else undef, bif (((((drawReq x c now).1).kind) == 4) && !(((((drawReq x c now).1).call).kind) != 4)) then .int .i64 ((((drawReq x c now).1).call).dst) else undef, bif (((((drawReq x c now).1).kind) == 4) && !(((((drawReq x c now).1).call).kind) != 4)) then .bool (((((drawReq x c now).1).call).src) != ((((drawReq x c now).1).call).dst)) else undef, bif ((((drawReq x c now).1).kind) == 4) then .bool ((((((drawReq x c now).1).call).kind) != 4) || (((((drawReq x c now).1).call).src) != ((((drawReq x c now).1).call).dst))) else undef, bif ((((drawReq x c now).1).kind) == 4) then .bool (!(((checkCallV c (((drawReq x c now).1).call)) == 0) == ((((((drawReq x c now).1).call).kind) != 4) || (((((drawReq x c now).1).call).src) != ((((drawReq x c now).1).call).dst))))) else undef, .bool (((((drawReq x c now).1).kind) == 4) && (!(((checkCallV c (((drawReq x c now).1).call)) == 0) == ((((((drawReq x c now).1).call).kind) != 4) || (((((drawReq x c now).1).call).src) != ((((drawReq x c now).1).call).dst))))))] jx) (fun (LL : Nat → Bool) (xx : Unit) ww => Hp [] wa ww [rB b15 42 [.int .i64 (((drawReq x c now).1).kind), .int .i64 (((drawReq x c now).1).seq), .int .i64 (((drawReq x c now).1).who), .int .i64 (((drawReq x c now).1).role), .int .u32 (((drawReq x c now).1).token), .int .u64 (((drawReq x c now).1).key), .int .i64 ((((drawReq x c now).1).call).id), .int .i64 ((((drawReq x c now).1).call).kind), .int .i64 ((((drawReq x c now).1).call).src), .int .i64 ((((drawReq x c now).1).call).dst), .int .i64 ((((drawReq x c now).1).call).car), .int .i64 ((((drawReq x c now).1).call).state), .int .i64 ((((drawReq x c now).1).call).owner), .int .i64 ((((drawReq x c now).1).call).born), .int .i64 (((drawReq x c now).1).id), .int .i64 (((drawReq x c now).1).car), .int .i64 (((drawReq x c now).1).mode), .int .i64 ((((drawReq x c now).1).filter).kind), .int .i64 ((((drawReq x c now).1).filter).n)], rB b11_1 54 [.int .u64 ((drawReq x c now).2)], rS a5_5 c5_5 3 ((evAll (seedV s) c e).map evRow), rS a4_4 c4_4 3 ((evAll (seedV s) c k).map evRow), rB b5 31 (cL c)]) () H.out.drew ?_ (steps_al ?_) ?_ ?_
  · exact fun _ _ _ _ _ h => h
  · refine al_cons ?_ (al_cons ?_ (al_cons ?_ (al_cons ?_ (al_cons ?_ (al_cons ?_ (al_cons ?_ (al_cons ?_ (al_cons ?_ (al_cons ?_ (al_cons ?_ (al_cons ?_ (al_cons ?_ (al_cons ?_ (al_cons ?_ (al_cons ?_ (al_cons ?_ (al_cons ?_ (al_cons ?_ (al_cons ?_ (al_cons ?_ (al_cons ?_ (al_cons ?_ (al_cons ?_ (al_nil))))))))))))))))))))))))
    · intro LL xx ac wc sg hst hwant QQ hgo
      have se15 : ac.eval (.tmp 15) = _ := ((sg.free 15 (by kernel_rfl)).trans so15)
      have sg15 := gt_of se15
      exact op_val hwant hgo hst _ (by simp only [execOp, nth]; go_simp <;> omega) rfl
    · intro LL xx ac wc sg hst hwant QQ hgo
      have H := Lib.hid hst
      refine hpA_load1 tyint H rfl (sg.slot 0 (sg.anc 0 rfl)) hwant (by (repeat (first | exact List.Mem.head _ | apply List.Mem.tail))) (by rfl) ?_
      exact hgo _ () _ (fun _ _ => rfl) rfl hst
    · intro LL xx ac wc sg hst hwant QQ hgo
      have se89 : ac.eval (.tmp 89) = _ := (sg.slot 1 (sg.anc 1 rfl))
      have sg89 := gt_of se89
      (try simp only [nth] at se89 sg89)
      exact op_val hwant hgo hst _ (by simp only [execOp, nth]; go_simp <;> omega) rfl
    · intro LL xx ac wc sg hst hwant QQ hgo
      exact op_val hwant hgo hst _ (exec_move rfl (sg.slot 2 (sg.anc 2 rfl))) rfl
    · intro LL xx ac wc sg hst hwant QQ hgo
      have hG : ((((drawReq x c now).1).kind) == 4) = true := (want_t rfl rfl (sg.slot 3 (sg.anc 3 rfl))).symm.trans hwant
      have H := Lib.hid hst
      refine hpA_load tyapi_Config H rfl ((sg.free 5 (by kernel_rfl)).trans so5) hwant (by (repeat (first | exact List.Mem.head _ | apply List.Mem.tail))) (by rfl) rfl ?_
      exact hgo _ () _ (fun _ _ => rfl) (cI hG) hst
    · intro LL xx ac wc sg hst hwant QQ hgo
      have hG : ((((drawReq x c now).1).kind) == 4) = true := (want_t rfl rfl (sg.slot 3 (sg.anc 3 rfl))).symm.trans hwant
      have se15 : ac.eval (.tmp 15) = _ := ((sg.free 15 (by kernel_rfl)).trans so15)
      have sg15 := gt_of se15
      exact op_val hwant hgo hst _ (by simp only [execOp, nth]; go_simp <;> omega) (cI hG)
    · intro LL xx ac wc sg hst hwant QQ hgo
      have hG : ((((drawReq x c now).1).kind) == 4) = true := (want_t rfl rfl (sg.slot 3 (sg.anc 3 rfl))).symm.trans hwant
      have H := Lib.hid hst
      refine hpA_load tyapi_Call H rfl (cT (sg.slot 5 (sg.anc 5 rfl)) hG) hwant (by (repeat (first | exact List.Mem.head _ | apply List.Mem.tail))) (by rfl) rfl ?_
      exact hgo _ () _ (fun _ _ => rfl) (cI hG) hst
    · intro LL xx ac wc sg hst hwant QQ hgo
      have hG : ((((drawReq x c now).1).kind) == 4) = true := (want_t rfl rfl (sg.slot 3 (sg.anc 3 rfl))).symm.trans hwant
      have se92 : ac.eval (.tmp 92) = _ := (cT (sg.slot 4 (sg.anc 4 rfl)) hG)
      have sg92 := gt_of se92
      have se94 : ac.eval (.tmp 94) = _ := (cT (sg.slot 6 (sg.anc 6 rfl)) hG)
      have sg94 := gt_of se94
      (try simp only [nth] at se92 sg92 se94 sg94)
      refine op_call hwant hgo 11 #[.agg (cA c), .agg #[.int .i64 ((((drawReq x c now).1).call).id), .int .i64 ((((drawReq x c now).1).call).kind), .int .i64 ((((drawReq x c now).1).call).src), .int .i64 ((((drawReq x c now).1).call).dst), .int .i64 ((((drawReq x c now).1).call).car), .int .i64 ((((drawReq x c now).1).call).state), .int .i64 ((((drawReq x c now).1).call).owner), .int .i64 ((((drawReq x c now).1).call).born)]] (by simp only [execOp]; go_simp) (checkCall c (((drawReq x c now).1).call) wc) ?_
      rintro er wd ⟨rfl, hof⟩
      exact ⟨_, (), rfl, fun _ _ => rfl, (cI hG), Hp.quiet hst hof⟩
    · intro LL xx ac wc sg hst hwant QQ hgo
      have hG : ((((drawReq x c now).1).kind) == 4) = true := (want_t rfl rfl (sg.slot 3 (sg.anc 3 rfl))).symm.trans hwant
      have se95 : ac.eval (.tmp 95) = _ := (cT (sg.slot 7 (sg.anc 7 rfl)) hG)
      have sg95 := gt_of se95
      (try simp only [nth] at se95 sg95)
      exact op_val hwant hgo hst _ (by simp only [execOp, nth]; go_simp <;> omega) (cI hG)
    · intro LL xx ac wc sg hst hwant QQ hgo
      have hG : ((((drawReq x c now).1).kind) == 4) = true := (want_t rfl rfl (sg.slot 3 (sg.anc 3 rfl))).symm.trans hwant
      have se15 : ac.eval (.tmp 15) = _ := ((sg.free 15 (by kernel_rfl)).trans so15)
      have sg15 := gt_of se15
      exact op_val hwant hgo hst _ (by simp only [execOp, nth]; go_simp <;> omega) (cI hG)
    · intro LL xx ac wc sg hst hwant QQ hgo
      have hG : ((((drawReq x c now).1).kind) == 4) = true := (want_t rfl rfl (sg.slot 3 (sg.anc 3 rfl))).symm.trans hwant
      have se97 : ac.eval (.tmp 97) = _ := (cT (sg.slot 9 (sg.anc 9 rfl)) hG)
      have sg97 := gt_of se97
      (try simp only [nth] at se97 sg97)
      exact op_val hwant hgo hst _ (by simp only [execOp, nth]; go_simp <;> omega) (cI hG)
    · intro LL xx ac wc sg hst hwant QQ hgo
      have hG : ((((drawReq x c now).1).kind) == 4) = true := (want_t rfl rfl (sg.slot 3 (sg.anc 3 rfl))).symm.trans hwant
      have H := Lib.hid hst
      refine hpA_load1 tyint H rfl (cT (sg.slot 10 (sg.anc 10 rfl)) hG) hwant (by (repeat (first | exact List.Mem.head _ | apply List.Mem.tail))) (by rfl) ?_
      exact hgo _ () _ (fun _ _ => rfl) (cI hG) hst
    · intro LL xx ac wc sg hst hwant QQ hgo
      have hG : ((((drawReq x c now).1).kind) == 4) = true := (want_t rfl rfl (sg.slot 3 (sg.anc 3 rfl))).symm.trans hwant
      have se99 : ac.eval (.tmp 99) = _ := (cT (sg.slot 11 (sg.anc 11 rfl)) hG)
      have sg99 := gt_of se99
      (try simp only [nth] at se99 sg99)
      exact op_val hwant hgo hst _ (by simp only [execOp, nth]; go_simp <;> omega) (cI hG)
    · intro LL xx ac wc sg hst hwant QQ hgo
      have hG : ((((drawReq x c now).1).kind) == 4) = true := (want_t rfl rfl (sg.slot 3 (sg.anc 3 rfl))).symm.trans hwant
      exact op_val hwant hgo hst _ (exec_move rfl (cT (sg.slot 12 (sg.anc 12 rfl)) hG)) (cI hG)
    · intro LL xx ac wc sg hst hwant QQ hgo
      have hG : (((((drawReq x c now).1).kind) == 4) && !(((((drawReq x c now).1).call).kind) != 4)) = true := (want_gf rfl rfl (sg.slot 13 (sg.anc 13 rfl))).symm.trans hwant
      have se15 : ac.eval (.tmp 15) = _ := ((sg.free 15 (by kernel_rfl)).trans so15)
      have sg15 := gt_of se15
      exact op_val hwant hgo hst _ (by simp only [execOp, nth]; go_simp <;> omega) (cI hG)
    · intro LL xx ac wc sg hst hwant QQ hgo
      have hG : (((((drawReq x c now).1).kind) == 4) && !(((((drawReq x c now).1).call).kind) != 4)) = true := (want_gf rfl rfl (sg.slot 13 (sg.anc 13 rfl))).symm.trans hwant
      have se102 : ac.eval (.tmp 102) = _ := (cT (sg.slot 14 (sg.anc 14 rfl)) hG)
      have sg102 := gt_of se102
      (try simp only [nth] at se102 sg102)
      exact op_val hwant hgo hst _ (by simp only [execOp, nth]; go_simp <;> omega) (cI hG)
    · intro LL xx ac wc sg hst hwant QQ hgo
      have hG : (((((drawReq x c now).1).kind) == 4) && !(((((drawReq x c now).1).call).kind) != 4)) = true := (want_gf rfl rfl (sg.slot 13 (sg.anc 13 rfl))).symm.trans hwant
      have H := Lib.hid hst
      refine hpA_load1 tyint H rfl (cT (sg.slot 15 (sg.anc 15 rfl)) hG) hwant (by (repeat (first | exact List.Mem.head _ | apply List.Mem.tail))) (by rfl) ?_
      exact hgo _ () _ (fun _ _ => rfl) (cI hG) hst
    · intro LL xx ac wc sg hst hwant QQ hgo
      have hG : (((((drawReq x c now).1).kind) == 4) && !(((((drawReq x c now).1).call).kind) != 4)) = true := (want_gf rfl rfl (sg.slot 13 (sg.anc 13 rfl))).symm.trans hwant
      have se15 : ac.eval (.tmp 15) = _ := ((sg.free 15 (by kernel_rfl)).trans so15)
      have sg15 := gt_of se15
      exact op_val hwant hgo hst _ (by simp only [execOp, nth]; go_simp <;> omega) (cI hG)
    · intro LL xx ac wc sg hst hwant QQ hgo
      have hG : (((((drawReq x c now).1).kind) == 4) && !(((((drawReq x c now).1).call).kind) != 4)) = true := (want_gf rfl rfl (sg.slot 13 (sg.anc 13 rfl))).symm.trans hwant
      have se105 : ac.eval (.tmp 105) = _ := (cT (sg.slot 17 (sg.anc 17 rfl)) hG)
      have sg105 := gt_of se105
      (try simp only [nth] at se105 sg105)
      exact op_val hwant hgo hst _ (by simp only [execOp, nth]; go_simp <;> omega) (cI hG)
    · intro LL xx ac wc sg hst hwant QQ hgo
      have hG : (((((drawReq x c now).1).kind) == 4) && !(((((drawReq x c now).1).call).kind) != 4)) = true := (want_gf rfl rfl (sg.slot 13 (sg.anc 13 rfl))).symm.trans hwant
      have H := Lib.hid hst
      refine hpA_load1 tyint H rfl (cT (sg.slot 18 (sg.anc 18 rfl)) hG) hwant (by (repeat (first | exact List.Mem.head _ | apply List.Mem.tail))) (by rfl) ?_
      exact hgo _ () _ (fun _ _ => rfl) (cI hG) hst
    · intro LL xx ac wc sg hst hwant QQ hgo
      have hG : (((((drawReq x c now).1).kind) == 4) && !(((((drawReq x c now).1).call).kind) != 4)) = true := (want_gf rfl rfl (sg.slot 13 (sg.anc 13 rfl))).symm.trans hwant
      have se104 : ac.eval (.tmp 104) = _ := (cT (sg.slot 16 (sg.anc 16 rfl)) hG)
      have sg104 := gt_of se104
      have se107 : ac.eval (.tmp 107) = _ := (cT (sg.slot 19 (sg.anc 19 rfl)) hG)
      have sg107 := gt_of se107
      (try simp only [nth] at se104 sg104 se107 sg107)
      exact op_val hwant hgo hst _ (by simp only [execOp, nth]; go_simp <;> omega) (cI hG)
    · intro LL xx ac wc sg hst hwant QQ hgo
      have hG : ((((drawReq x c now).1).kind) == 4) = true := (want_t rfl rfl (sg.slot 3 (sg.anc 3 rfl))).symm.trans hwant
      exact op_val hwant hgo hst (.bool ((((((drawReq x c now).1).call).kind) != 4) || (((((drawReq x c now).1).call).src) != ((((drawReq x c now).1).call).dst)))) (exec_or (Y := ((((drawReq x c now).1).call).src) != ((((drawReq x c now).1).call).dst)) rfl (cT (sg.slot 13 (sg.anc 13 rfl)) hG) (fun qq => cT (sg.slot 20 (sg.anc 20 rfl)) (bj hG (bk qq)))) (cI hG)
    · intro LL xx ac wc sg hst hwant QQ hgo
      have hG : ((((drawReq x c now).1).kind) == 4) = true := (want_t rfl rfl (sg.slot 3 (sg.anc 3 rfl))).symm.trans hwant
      have se96 : ac.eval (.tmp 96) = _ := (cT (sg.slot 8 (sg.anc 8 rfl)) hG)
      have sg96 := gt_of se96
      have se109 : ac.eval (.tmp 109) = _ := (cT (sg.slot 21 (sg.anc 21 rfl)) hG)
      have sg109 := gt_of se109
      (try simp only [nth] at se96 sg96 se109 sg109)
      exact op_val hwant hgo hst _ (by simp only [execOp, nth]; go_simp <;> omega) (cI hG)
    · intro LL xx ac wc sg hst hwant QQ hgo
      exact op_val hwant hgo hst (.bool (((((drawReq x c now).1).kind) == 4) && (!(((checkCallV c (((drawReq x c now).1).call)) == 0) == ((((((drawReq x c now).1).call).kind) != 4) || (((((drawReq x c now).1).call).src) != ((((drawReq x c now).1).call).dst))))))) (exec_and (Y := !(((checkCallV c (((drawReq x c now).1).call)) == 0) == ((((((drawReq x c now).1).call).kind) != 4) || (((((drawReq x c now).1).call).src) != ((((drawReq x c now).1).call).dst))))) rfl (sg.slot 3 (sg.anc 3 rfl)) (fun qq => cT (sg.slot 22 (sg.anc 22 rfl)) qq)) rfl
  · refine skips [4, 5, 6, 7, 8, 9, 10, 11, 12, 13, 14, 15, 16, 17, 18, 19, 20, 21, 22] (by kernel_rfl) ?_
    refine List.forall_mem_cons.2 ⟨?_, List.forall_mem_cons.2 ⟨?_, List.forall_mem_cons.2 ⟨?_, List.forall_mem_cons.2 ⟨?_, List.forall_mem_cons.2 ⟨?_, List.forall_mem_cons.2 ⟨?_, List.forall_mem_cons.2 ⟨?_, List.forall_mem_cons.2 ⟨?_, List.forall_mem_cons.2 ⟨?_, List.forall_mem_cons.2 ⟨?_, List.forall_mem_cons.2 ⟨?_, List.forall_mem_cons.2 ⟨?_, List.forall_mem_cons.2 ⟨?_, List.forall_mem_cons.2 ⟨?_, List.forall_mem_cons.2 ⟨?_, List.forall_mem_cons.2 ⟨?_, List.forall_mem_cons.2 ⟨?_, List.forall_mem_cons.2 ⟨?_, List.forall_mem_cons.2 ⟨?_, fun _ h => by cases h⟩⟩⟩⟩⟩⟩⟩⟩⟩⟩⟩⟩⟩⟩⟩⟩⟩⟩⟩
    · intro oo hop LL xx ac sg hwant
      cases Option.some.inj hop
      have hG : ((((drawReq x c now).1).kind) == 4) = false := (want_t rfl rfl (sg.slot 3 (sg.anc 3 rfl))).symm.trans hwant
      exact ⟨cF hG, fun _ h => h⟩
    · intro oo hop LL xx ac sg hwant
      cases Option.some.inj hop
      have hG : ((((drawReq x c now).1).kind) == 4) = false := (want_t rfl rfl (sg.slot 3 (sg.anc 3 rfl))).symm.trans hwant
      exact ⟨cF hG, fun _ h => h⟩
    · intro oo hop LL xx ac sg hwant
      cases Option.some.inj hop
      have hG : ((((drawReq x c now).1).kind) == 4) = false := (want_t rfl rfl (sg.slot 3 (sg.anc 3 rfl))).symm.trans hwant
      exact ⟨cF hG, fun _ h => h⟩
    · intro oo hop LL xx ac sg hwant
      cases Option.some.inj hop
      have hG : ((((drawReq x c now).1).kind) == 4) = false := (want_t rfl rfl (sg.slot 3 (sg.anc 3 rfl))).symm.trans hwant
      exact ⟨cF hG, fun _ h => h⟩
    · intro oo hop LL xx ac sg hwant
      cases Option.some.inj hop
      have hG : ((((drawReq x c now).1).kind) == 4) = false := (want_t rfl rfl (sg.slot 3 (sg.anc 3 rfl))).symm.trans hwant
      exact ⟨cF hG, fun _ h => h⟩
    · intro oo hop LL xx ac sg hwant
      cases Option.some.inj hop
      have hG : ((((drawReq x c now).1).kind) == 4) = false := (want_t rfl rfl (sg.slot 3 (sg.anc 3 rfl))).symm.trans hwant
      exact ⟨cF hG, fun _ h => h⟩
    · intro oo hop LL xx ac sg hwant
      cases Option.some.inj hop
      have hG : ((((drawReq x c now).1).kind) == 4) = false := (want_t rfl rfl (sg.slot 3 (sg.anc 3 rfl))).symm.trans hwant
      exact ⟨cF hG, fun _ h => h⟩
    · intro oo hop LL xx ac sg hwant
      cases Option.some.inj hop
      have hG : ((((drawReq x c now).1).kind) == 4) = false := (want_t rfl rfl (sg.slot 3 (sg.anc 3 rfl))).symm.trans hwant
      exact ⟨cF hG, fun _ h => h⟩
    · intro oo hop LL xx ac sg hwant
      cases Option.some.inj hop
      have hG : ((((drawReq x c now).1).kind) == 4) = false := (want_t rfl rfl (sg.slot 3 (sg.anc 3 rfl))).symm.trans hwant
      exact ⟨cF hG, fun _ h => h⟩
    · intro oo hop LL xx ac sg hwant
      cases Option.some.inj hop
      have hG : ((((drawReq x c now).1).kind) == 4) = false := (want_t rfl rfl (sg.slot 3 (sg.anc 3 rfl))).symm.trans hwant
      exact ⟨cF hG, fun _ h => h⟩
    · intro oo hop LL xx ac sg hwant
      cases Option.some.inj hop
      have hG : (((((drawReq x c now).1).kind) == 4) && !(((((drawReq x c now).1).call).kind) != 4)) = false := (want_gf rfl rfl (sg.slot 13 (sg.anc 13 rfl))).symm.trans hwant
      exact ⟨cF hG, fun _ h => h⟩
    · intro oo hop LL xx ac sg hwant
      cases Option.some.inj hop
      have hG : (((((drawReq x c now).1).kind) == 4) && !(((((drawReq x c now).1).call).kind) != 4)) = false := (want_gf rfl rfl (sg.slot 13 (sg.anc 13 rfl))).symm.trans hwant
      exact ⟨cF hG, fun _ h => h⟩
    · intro oo hop LL xx ac sg hwant
      cases Option.some.inj hop
      have hG : (((((drawReq x c now).1).kind) == 4) && !(((((drawReq x c now).1).call).kind) != 4)) = false := (want_gf rfl rfl (sg.slot 13 (sg.anc 13 rfl))).symm.trans hwant
      exact ⟨cF hG, fun _ h => h⟩
    · intro oo hop LL xx ac sg hwant
      cases Option.some.inj hop
      have hG : (((((drawReq x c now).1).kind) == 4) && !(((((drawReq x c now).1).call).kind) != 4)) = false := (want_gf rfl rfl (sg.slot 13 (sg.anc 13 rfl))).symm.trans hwant
      exact ⟨cF hG, fun _ h => h⟩
    · intro oo hop LL xx ac sg hwant
      cases Option.some.inj hop
      have hG : (((((drawReq x c now).1).kind) == 4) && !(((((drawReq x c now).1).call).kind) != 4)) = false := (want_gf rfl rfl (sg.slot 13 (sg.anc 13 rfl))).symm.trans hwant
      exact ⟨cF hG, fun _ h => h⟩
    · intro oo hop LL xx ac sg hwant
      cases Option.some.inj hop
      have hG : (((((drawReq x c now).1).kind) == 4) && !(((((drawReq x c now).1).call).kind) != 4)) = false := (want_gf rfl rfl (sg.slot 13 (sg.anc 13 rfl))).symm.trans hwant
      exact ⟨cF hG, fun _ h => h⟩
    · intro oo hop LL xx ac sg hwant
      cases Option.some.inj hop
      have hG : (((((drawReq x c now).1).kind) == 4) && !(((((drawReq x c now).1).call).kind) != 4)) = false := (want_gf rfl rfl (sg.slot 13 (sg.anc 13 rfl))).symm.trans hwant
      exact ⟨cF hG, fun _ h => h⟩
    · intro oo hop LL xx ac sg hwant
      cases Option.some.inj hop
      have hG : ((((drawReq x c now).1).kind) == 4) = false := (want_t rfl rfl (sg.slot 3 (sg.anc 3 rfl))).symm.trans hwant
      exact ⟨cF hG, fun _ h => h⟩
    · intro oo hop LL xx ac sg hwant
      cases Option.some.inj hop
      have hG : ((((drawReq x c now).1).kind) == 4) = false := (want_t rfl rfl (sg.slot 3 (sg.anc 3 rfl))).symm.trans hwant
      exact ⟨cF hG, fun _ h => h⟩
  · intro xx ac1 wz hfr hsl hst
    exact hfin ac1 wz (hfr.size.trans hz) hfr.defers (fr_keep hfr [88, 89, 90, 91, 92, 93, 94, 95, 96, 97, 98, 99, 100, 101, 102, 103, 104, 105, 106, 107, 108, 109, 110, 111] (by kernel_rfl)) (hsl 23 (by decide)) (Lib.hid hst)
set_option maxHeartbeats 16000000 in
set_option maxRecDepth 20000 in
theorem sameM (s : Nat) (c : Cfg) (n : Int) (now : Int) (k : Nat) (e : Nat) (w : World) (hsl : s < 18446744073709551616) (hk : IntKind.i64.wrap ((IntKind.u64.wrap n).tmod 300) = (k : Int)) (he : IntKind.i64.wrap ((k : Int).tdiv 2) = (e : Int)) (hk3 : k < 300) (he2 : IntKind.i64.wrap ((k : Int) / 2) = (e : Int)) (hek : e < 300) (hpre : Hid ((evAll (seedV s) c e) = (evAll (seedV s) c k).take e)) (hlen : (evAll (seedV s) c e).length ≤ (evAll (seedV s) c k).length) (hle : (evAll (seedV s) c e).length ≤ e) : Calls Try.prog 4 #[.int .u64 s, .agg (cA c), .int .i64 n, .int .i64 now] w fun e w' => e = .returned (.bool true) ∧ Off [] w w' := by
 have H := Lib.hid (Hp.start [] w)
 refine wStart (args := [.int .u64 s, .agg (cA c), .int .i64 n, .int .i64 now]) Try.func4 rfl rfl rfl H ?_
 clear H
 show Wk 112 _ _ [(0, .int .u64 s), (1, .agg (cA c)), (2, .int .i64 n), (3, .int .i64 now)] _ _
 refine wSeqK fun KK1 hK1 => ?_
 refine wReg ?_
 refine wBx rfl rfl rfl fun b5 => ?_
 refine p_sameM rfl ?_
 refine wN ?_
 refine tN (wKK hK1 ?_)
 refine wSeqK fun KK2 hK2 => ?_
 refine wSeqK fun KK3 hK3 => ?_
 refine wReg ?_
 refine wQ (l := []) Try.func5 rfl (by kernel_rfl) (.bool true) (fun wc H => awake35 wc) rfl rfl rfl rfl ?_
 refine p_sameM rfl ?_
 refine wN ?_
 refine tN (wKK hK3 ?_)
 refine wCf rfl ?_
 refine wSk ?_
 refine tN (wKK hK2 ?_)
 refine wSeqK fun KK4 hK4 => ?_
 refine wReg ?_
 refine p_sameM rfl ?_
 refine wE (.int .u64 (IntKind.u64.wrap n)) rfl rfl rfl (fun aa ww hs _ => by have e20 := hs 20 _ rfl; have g20 := gt_of e20; simp only [execOp]; go_simp <;> first | rfl | omega) ?_
 refine wE (.int .u64 ((IntKind.u64.wrap n).tmod 300)) rfl rfl rfl (fun aa ww hs _ => by have e21 := hs 21 _ rfl; have g21 := gt_of e21; simp only [execOp]; go_simp <;> first | rfl | omega) ?_
 refine wE (.int .i64 k) rfl rfl rfl (fun aa ww hs _ => by have e22 := hs 22 _ rfl; have g22 := gt_of e22; simp only [execOp]; go_simp <;> first | rfl | omega) ?_
 refine p_sameM rfl ?_
 refine wN ?_
 refine tN (wKK hK4 ?_)
 refine wSeqK fun KK5 hK5 => ?_
 intro aa ww nn dd hs H
 refine sameM_r4 s c n k e b5 hk he hk3 hsl he2 hek hle hlen H aa nn (hs 0 _ rfl) (hs 5 _ rfl) (hs 9 _ rfl) ?_
 intro b4_1 a4_4 c4_4 ab wv nn2 dd2 kp o10 H2
 refine wIn nn2 (dd2.trans dd) (Sat.cons (Sat.cons (Sat.cons (Sat.cons (Sat.cons (Sat.cons (Sat.cons (Sat.cons (Sat.cons (sat_nil ab) ((kp 19 rfl).trans (hs 19 _ rfl))) ((kp 9 rfl).trans (hs 9 _ rfl))) ((kp 8 rfl).trans (hs 8 _ rfl))) ((kp 5 rfl).trans (hs 5 _ rfl))) ((kp 3 rfl).trans (hs 3 _ rfl))) ((kp 2 rfl).trans (hs 2 _ rfl))) ((kp 1 rfl).trans (hs 1 _ rfl))) ((kp 0 rfl).trans (hs 0 _ rfl))) o10) H2 ?_
 clear hs H kp H2 dd dd2 nn nn2 o10
 refine tN (wKK hK5 ?_)
 refine wSeqK fun KK6 hK6 => ?_
 intro aa ww nn dd hs H
 refine sameM_r5 s c n k e b5 a4_4 c4_4 hk he hk3 hsl he2 hek hle hlen H aa nn (hs 0 _ rfl) (hs 5 _ rfl) (hs 9 _ rfl) ?_
 intro b5_1 a5_5 c5_5 ab wv nn2 dd2 kp o11 H2
 refine wIn nn2 (dd2.trans dd) (Sat.cons (Sat.cons (Sat.cons (Sat.cons (Sat.cons (Sat.cons (Sat.cons (Sat.cons (Sat.cons (Sat.cons (sat_nil ab) ((kp 19 rfl).trans (hs 19 _ rfl))) ((kp 10 rfl).trans (hs 10 _ rfl))) ((kp 9 rfl).trans (hs 9 _ rfl))) ((kp 8 rfl).trans (hs 8 _ rfl))) ((kp 5 rfl).trans (hs 5 _ rfl))) ((kp 3 rfl).trans (hs 3 _ rfl))) ((kp 2 rfl).trans (hs 2 _ rfl))) ((kp 1 rfl).trans (hs 1 _ rfl))) ((kp 0 rfl).trans (hs 0 _ rfl))) o11) H2 ?_
 clear hs H kp H2 dd dd2 nn nn2 o11
 refine tN (wKK hK6 ?_)
 refine wSeqK fun KK7 hK7 => ?_
 refine wSeqK fun KK8 hK8 => ?_
 refine wReg ?_
 refine p_sameM rfl ?_
 refine wN ?_
 refine tN (wKK hK8 ?_)
 refine wBlk ?_
 refine wLoop (fun ab wv => ∃ i : Nat, (i ≤ (evAll (seedV s) c e).length) ∧ ab.tmps.size = 112 ∧ ab.defers = [] ∧ Sat [(0, .int .u64 s), (1, .agg (cA c)), (2, .int .i64 n), (3, .int .i64 now), (5, .pointer (some ⟨b5, 0, none⟩)), (9, .int .i64 k), (10, .slice a4_4 ((evAll (seedV s) c k).length) c4_4), (11, .slice a5_5 ((evAll (seedV s) c e).length) c5_5), (12, .int .i64 i), (19, .bool false)] ab ∧ Hid (Hp [] w wv [rS a5_5 c5_5 3 ((evAll (seedV s) c e).map evRow), rS a4_4 c4_4 3 ((evAll (seedV s) c k).map evRow), rB b5 31 (cL c)])) (fun ab _ => (evAll (seedV s) c e).length - (intOf (ab.eval (.tmp 12))).toNat) (fun aa ww nn dd hs H => ⟨0, (by omega), nn, dd, (sat_sub ⟨rfl, rfl, rfl, rfl, rfl, rfl, rfl, rfl, rfl, rfl, trivial⟩ hs), H⟩) ?_
 rintro a1 wv ⟨i, hi, nn, dd, hs, H⟩
 have mu1_12 := hs 12 _ rfl
 refine wIn nn dd hs H ?_
 clear nn dd hs H
 refine wSeqK fun KK9 hK9 => ?_
 refine wSeqK fun KK10 hK10 => ?_
 refine wReg ?_
 iterate 2 refine p_sameM rfl ?_
 refine wE (.int .i64 ((evAll (seedV s) c e).length)) rfl rfl rfl (fun aa ww hs _ => by have e36 := hs 36 _ rfl; have g36 := gt_of e36; simp only [execOp]; go_simp <;> first | rfl | omega) ?_
 refine p_sameM rfl ?_
 refine wB (c := decide (i < ((evAll (seedV s) c e).length))) 38 rfl (by simp) ?_
 refine wN ?_
 refine tN (wKK hK10 ?_)
 refine wCond (E := decide (i < ((evAll (seedV s) c e).length))) rfl (fun z1 => ?_) (fun z1 => ?_)
 · skip
   have z1d : i < ((evAll (seedV s) c e).length) := of_decide_eq_true z1
   intro aa ww nn dd hs H
   obtain ⟨y1, rfl⟩ := some_of_row (i := i) (hp_held H (show rS a4_4 _ 3 ((evAll (seedV s) c k).map evRow) ∈ _ by (repeat (first | exact List.Mem.head _ | apply List.Mem.tail)))) (by simp; omega)
   obtain ⟨y2, rfl⟩ := some_of_row (i := i) (hp_held H (show rS a5_5 _ 3 ((evAll (seedV s) c e).map evRow) ∈ _ by (repeat (first | exact List.Mem.head _ | apply List.Mem.tail)))) (by simp; omega)
   obtain ⟨x, hx⟩ : ∃ x, (evAll (seedV s) c k)[i]? = some x := ⟨(evAll (seedV s) c k)[i], List.getElem?_eq_getElem (by omega)⟩
   have HRx := Lib.hid (show ((evAll (seedV s) c k).map evRow)[i]? = some [.int .i64 x.kind, .int .i64 x.n, .string x.data] by rw [List.getElem?_map, hx]; rfl)
   have HRy := Lib.hid (show ((evAll (seedV s) c e).map evRow)[i]? = some [.int .i64 x.kind, .int .i64 x.n, .string x.data] by rw [List.getElem?_map, hpre.out, List.getElem?_take_of_lt (by omega), hx]; rfl)
   clear hx
   have hge : decide ((evAll (seedV s) c k).length ≤ i) = false := decide_eq_false (by omega)
   refine wIn nn dd hs H ?_
   refine wSk ?_
   refine tN (wKK hK9 ?_)
   refine wSeqK fun KK11 hK11 => ?_
   refine wBlk ?_
   refine wSeqK fun KK12 hK12 => ?_
   intro aa ww nn dd hs H
   refine sameM_r9 s c n k e b5 c4_4 c5_5 i y1 y2 x hk he hk3 hsl he2 hek hle hlen hi z1d hge HRx HRy H aa nn (hs 10 _ rfl) (hs 11 _ rfl) (hs 12 _ rfl) ?_
   intro ab wv nn2 dd2 kp o55 H2
   refine wIn nn2 (dd2.trans dd) (Sat.cons (Sat.cons (Sat.cons (Sat.cons (Sat.cons (Sat.cons (Sat.cons (Sat.cons (Sat.cons (Sat.cons (Sat.cons (Sat.cons (sat_nil ab) ((kp 38 rfl).trans (hs 38 _ rfl))) ((kp 19 rfl).trans (hs 19 _ rfl))) ((kp 12 rfl).trans (hs 12 _ rfl))) ((kp 11 rfl).trans (hs 11 _ rfl))) ((kp 10 rfl).trans (hs 10 _ rfl))) ((kp 9 rfl).trans (hs 9 _ rfl))) ((kp 5 rfl).trans (hs 5 _ rfl))) ((kp 3 rfl).trans (hs 3 _ rfl))) ((kp 2 rfl).trans (hs 2 _ rfl))) ((kp 1 rfl).trans (hs 1 _ rfl))) ((kp 0 rfl).trans (hs 0 _ rfl))) o55) H2 ?_
   clear hs H kp H2 dd dd2 nn nn2 o55
   refine tN (wKK hK12 ?_)
   refine wCf rfl ?_
   refine wSk ?_
   refine bN (tN (wKK hK11 ?_))
   refine wReg ?_
   iterate 2 refine p_sameM rfl ?_
   refine wI 40 rfl (IntWalk.i64_in _ (by omega)) ?_
   refine p_sameM rfl ?_
   refine wN ?_
   refine tN ?_
   intro aa ww nn dd hs H
   refine ⟨⟨i + 1, (by omega), nn, dd, (sat_sub ⟨rfl, rfl, rfl, rfl, rfl, rfl, rfl, rfl, rfl, rfl, trivial⟩ hs), (Lib.hid (H.out.sub (by repeat (first | exact List.Sublist.refl _ | apply List.Sublist.cons₂ | apply List.Sublist.cons))))⟩, ?_⟩
   have m12 := hs 12 _ rfl
   simp only [mu1_12, m12, intOf]
   omega
 · skip
   have z1d : ¬ (i < ((evAll (seedV s) c e).length)) := of_decide_eq_false z1
   refine wEx ?_
   refine tX (tX (bX (tN (wKK hK7 ?_))))
   refine wSeqK fun KK13 hK13 => ?_
   refine wReg ?_
   refine p_sameM rfl ?_
   refine wC (l := [.int .u64 s]) Try.func6 rfl (by kernel_rfl) (fun wc H => newC s wc) rfl rfl rfl rfl ?_
   intro wc H
   rintro er wd ⟨b11_1, rfl, hb, hlt, ho⟩
   have H2 := hp_gotBk H ho hb hlt
   refine ⟨_, rfl, wkAt H2 ?_⟩
   clear H H2
   refine p_sameM rfl ?_
   refine wN ?_
   refine tN (wKK hK13 ?_)
   refine wSeqK fun KK14 hK14 => ?_
   refine wSeqK fun KK15 hK15 => ?_
   refine wReg ?_
   refine p_sameM rfl ?_
   refine wN ?_
   refine tN (wKK hK15 ?_)
   refine wBlk ?_
   refine wLoop (fun ab wv => ∃ j : Nat, ∃ x : Nat, (j ≤ 40) ∧ (x < 18446744073709551616) ∧ ab.tmps.size = 112 ∧ ab.defers = [] ∧ Sat [(0, .int .u64 s), (1, .agg (cA c)), (2, .int .i64 n), (3, .int .i64 now), (5, .pointer (some ⟨b5, 0, none⟩)), (9, .int .i64 k), (10, .slice a4_4 ((evAll (seedV s) c k).length) c4_4), (11, .slice a5_5 ((evAll (seedV s) c e).length) c5_5), (12, .int .i64 i), (13, .pointer (some ⟨b11_1, 0, none⟩)), (14, .int .i64 j), (19, .bool false), (38, .bool (decide (i < ((evAll (seedV s) c e).length))))] ab ∧ Hid (Hp [] w wv [rB b11_1 54 [.int .u64 x], rS a5_5 c5_5 3 ((evAll (seedV s) c e).map evRow), rS a4_4 c4_4 3 ((evAll (seedV s) c k).map evRow), rB b5 31 (cL c)])) (fun ab _ => 40 - (intOf (ab.eval (.tmp 14))).toNat) (fun aa ww nn dd hs H => ⟨0, seedV s, (by omega), (seedV_lt hsl), nn, dd, (sat_sub ⟨rfl, rfl, rfl, rfl, rfl, rfl, rfl, rfl, rfl, rfl, rfl, rfl, rfl, trivial⟩ hs), H⟩) ?_
   rintro a2 wv ⟨j, x, hj, hxl, nn, dd, hs, H⟩
   have mu2_14 := hs 14 _ rfl
   refine wIn nn dd hs H ?_
   clear nn dd hs H
   refine wSeqK fun KK16 hK16 => ?_
   refine wSeqK fun KK17 hK17 => ?_
   refine wReg ?_
   iterate 2 refine p_sameM rfl ?_
   refine wN ?_
   refine tN (wKK hK17 ?_)
   refine wCond (E := decide ((j : Int) < 40)) rfl (fun z2 => ?_) (fun z2 => ?_)
   · skip
     have z2d : (j : Int) < 40 := of_decide_eq_true z2
     refine wSk ?_
     refine tN (wKK hK16 ?_)
     refine wSeqK fun KK18 hK18 => ?_
     refine wBlk ?_
     refine wSeqK fun KK19 hK19 => ?_
     refine wReg ?_
     refine p_sameM rfl ?_
     refine wLr rfl tyapi_Config 3 rfl (cL c) rfl rfl ?_
     refine p_sameM rfl ?_
     refine wC (l := [.pointer (some ⟨b11_1, 0, none⟩), .agg (cA c), .int .i64 now]) Try.func10 rfl (by kernel_rfl) (fun wc H => reqDraw b11_1 x c now wc (H.out.blk 0 rfl) hxl) rfl rfl rfl rfl ?_
     intro wc H
     rintro er wd ⟨rfl, hb, ho⟩
     have H2 := hp_turn H (i := 0) (cs' := [.int .u64 ((drawReq x c now).2)]) rfl hb ho
     refine ⟨_, rfl, wkAt H2 ?_⟩
     clear H H2
     refine wAl rfl rfl tymsg_Request fun b15 => ?_
     refine wSr rfl tymsg_Request 0 rfl rfl rfl rfl [.int .i64 (((drawReq x c now).1).kind), .int .i64 (((drawReq x c now).1).seq), .int .i64 (((drawReq x c now).1).who), .int .i64 (((drawReq x c now).1).role), .int .u32 (((drawReq x c now).1).token), .int .u64 (((drawReq x c now).1).key), .int .i64 ((((drawReq x c now).1).call).id), .int .i64 ((((drawReq x c now).1).call).kind), .int .i64 ((((drawReq x c now).1).call).src), .int .i64 ((((drawReq x c now).1).call).dst), .int .i64 ((((drawReq x c now).1).call).car), .int .i64 ((((drawReq x c now).1).call).state), .int .i64 ((((drawReq x c now).1).call).owner), .int .i64 ((((drawReq x c now).1).call).born), .int .i64 (((drawReq x c now).1).id), .int .i64 (((drawReq x c now).1).car), .int .i64 (((drawReq x c now).1).mode), .int .i64 ((((drawReq x c now).1).filter).kind), .int .i64 ((((drawReq x c now).1).filter).n)] (by first | rfl | (simp only [spl]; rfl)) ?_
     refine wN ?_
     refine tN (wKK hK19 ?_)
     refine wSeqK fun KK20 hK20 => ?_
     refine wSeqK fun KK21 hK21 => ?_
     refine wReg ?_
     refine wLr rfl tymsg_Request 0 rfl [.int .i64 (((drawReq x c now).1).kind), .int .i64 (((drawReq x c now).1).seq), .int .i64 (((drawReq x c now).1).who), .int .i64 (((drawReq x c now).1).role), .int .u32 (((drawReq x c now).1).token), .int .u64 (((drawReq x c now).1).key), .int .i64 ((((drawReq x c now).1).call).id), .int .i64 ((((drawReq x c now).1).call).kind), .int .i64 ((((drawReq x c now).1).call).src), .int .i64 ((((drawReq x c now).1).call).dst), .int .i64 ((((drawReq x c now).1).call).car), .int .i64 ((((drawReq x c now).1).call).state), .int .i64 ((((drawReq x c now).1).call).owner), .int .i64 ((((drawReq x c now).1).call).born), .int .i64 (((drawReq x c now).1).id), .int .i64 (((drawReq x c now).1).car), .int .i64 (((drawReq x c now).1).mode), .int .i64 ((((drawReq x c now).1).filter).kind), .int .i64 ((((drawReq x c now).1).filter).n)] rfl rfl ?_
     refine wE (.agg #[.int .i64 0, .int .i64 0, .int .i64 0, .int .i64 0, .int .u32 0, .int .u64 0, .int .i64 0, .int .i64 0, .int .i64 0, .int .i64 0, .int .i64 0, .int .i64 0, .int .i64 0, .int .i64 0, .int .i64 0, .int .i64 0, .int .i64 0, .int .i64 0, .int .i64 0]) rfl rfl rfl (fun aa ww hs _ => by simp only [execOp]; go_simp <;> first | rfl | omega) ?_
     refine wE (.bool ((decide (((drawReq x c now).1) = (⟨0, 0, 0, 0, 0, 0, (⟨0, 0, 0, 0, 0, 0, 0, 0⟩ : CallV), 0, 0, 0, (⟨0, 0⟩ : FilterV)⟩ : ReqV))))) rfl rfl rfl (fun aa wc hs H => exec_eql rfl (hs _ _ rfl) (hs _ _ rfl) (by kernel_rfl) (run_eq_req ((drawReq x c now).1) (⟨0, 0, 0, 0, 0, 0, (⟨0, 0, 0, 0, 0, 0, 0, 0⟩ : CallV), 0, 0, 0, (⟨0, 0⟩ : FilterV)⟩ : ReqV) wc)) ?_
     refine wN ?_
     refine tN (wKK hK21 ?_)
     refine wCond (E := decide (((drawReq x c now).1) = (⟨0, 0, 0, 0, 0, 0, (⟨0, 0, 0, 0, 0, 0, 0, 0⟩ : CallV), 0, 0, 0, (⟨0, 0⟩ : FilterV)⟩ : ReqV))) rfl (fun z3 => ?_) (fun z3 => ?_)
     · skip
       refine wSeqK fun KK22 hK22 => ?_
       refine wReg ?_
       refine wLr rfl tyapi_Config 4 rfl (cL c) rfl rfl ?_
       refine wE (.agg #[.int .i64 0, .int .i64 1, .int .i64 1, .int .i64 0, .int .i64 0, .int .i64 0, .int .i64 0, .int .i64 0]) rfl rfl rfl (fun aa ww hs _ => by simp only [execOp]; go_simp <;> first | rfl | omega) ?_
       refine wQ (l := [.agg (cA c), .agg #[.int .i64 0, .int .i64 1, .int .i64 1, .int .i64 0, .int .i64 0, .int .i64 0, .int .i64 0, .int .i64 0]]) Try.func11 rfl (by kernel_rfl) (.int .i64 (checkCallV c (⟨0, 1, 1, 0, 0, 0, 0, 0⟩ : CallV))) (fun wc H => checkCall c (⟨0, 1, 1, 0, 0, 0, 0, 0⟩ : CallV) wc) rfl rfl rfl rfl ?_
       iterate 2 refine p_sameM rfl ?_
       refine wCut 3 [(76, .bool (((checkCallV c (⟨0, 1, 1, 0, 0, 0, 0, 0⟩ : CallV)) != 0) || (decide (now < 0)))), (0, .int .u64 s), (1, .agg (cA c)), (2, .int .i64 n), (3, .int .i64 now), (5, .pointer (some ⟨b5, 0, none⟩)), (9, .int .i64 k), (10, .slice a4_4 ((evAll (seedV s) c k).length) c4_4), (11, .slice a5_5 ((evAll (seedV s) c e).length) c5_5), (12, .int .i64 i), (13, .pointer (some ⟨b11_1, 0, none⟩)), (14, .int .i64 j), (15, .pointer (some ⟨b15, 0, none⟩)), (19, .bool false), (38, .bool (decide (i < ((evAll (seedV s) c e).length)))), (59, .bool (decide ((j : Int) < 40))), (68, .bool (decide (((drawReq x c now).1) = (⟨0, 0, 0, 0, 0, 0, (⟨0, 0, 0, 0, 0, 0, 0, 0⟩ : CallV), 0, 0, 0, (⟨0, 0⟩ : FilterV)⟩ : ReqV))))] ?_ ?_
       · intro KK hKK
         rcases Bool.eq_false_or_eq_true ((checkCallV c (⟨0, 1, 1, 0, 0, 0, 0, 0⟩ : CallV)) != 0) with u4 | u4
         · skip
           refine wB (c := true) 73 rfl u4 ?_
           iterate 2 refine p_sameM rfl ?_
           refine p_sameM rfl ?_
           refine wB (c := ((checkCallV c (⟨0, 1, 1, 0, 0, 0, 0, 0⟩ : CallV)) != 0) || (decide (now < 0))) 76 rfl (by rw [u4]; rfl) ?_
           refine wN (tN ?_)
           exact fun aa ww nn dd hs H => hKK aa ww nn dd (sat_sub ⟨rfl, rfl, rfl, rfl, rfl, rfl, rfl, rfl, rfl, rfl, rfl, rfl, rfl, rfl, rfl, rfl, rfl, trivial⟩ hs) H
         · skip
           refine wB (c := false) 73 rfl u4 ?_
           iterate 2 refine p_sameM rfl ?_
           refine p_sameM rfl ?_
           refine wB (c := ((checkCallV c (⟨0, 1, 1, 0, 0, 0, 0, 0⟩ : CallV)) != 0) || (decide (now < 0))) 76 rfl (by rw [u4]; rfl) ?_
           refine wN (tN ?_)
           exact fun aa ww nn dd hs H => hKK aa ww nn dd (sat_sub ⟨rfl, rfl, rfl, rfl, rfl, rfl, rfl, rfl, rfl, rfl, rfl, rfl, rfl, rfl, rfl, rfl, rfl, trivial⟩ hs) H
       refine p_sameM rfl ?_
       refine wCut 3 [(80, .bool ((((checkCallV c (⟨0, 1, 1, 0, 0, 0, 0, 0⟩ : CallV)) != 0) || (decide (now < 0))) || (decide (1073741824 < now)))), (0, .int .u64 s), (1, .agg (cA c)), (2, .int .i64 n), (3, .int .i64 now), (5, .pointer (some ⟨b5, 0, none⟩)), (9, .int .i64 k), (10, .slice a4_4 ((evAll (seedV s) c k).length) c4_4), (11, .slice a5_5 ((evAll (seedV s) c e).length) c5_5), (12, .int .i64 i), (13, .pointer (some ⟨b11_1, 0, none⟩)), (14, .int .i64 j), (15, .pointer (some ⟨b15, 0, none⟩)), (19, .bool false), (38, .bool (decide (i < ((evAll (seedV s) c e).length)))), (59, .bool (decide ((j : Int) < 40))), (68, .bool (decide (((drawReq x c now).1) = (⟨0, 0, 0, 0, 0, 0, (⟨0, 0, 0, 0, 0, 0, 0, 0⟩ : CallV), 0, 0, 0, (⟨0, 0⟩ : FilterV)⟩ : ReqV))))] ?_ ?_
       · intro KK hKK
         rcases Bool.eq_false_or_eq_true (((checkCallV c (⟨0, 1, 1, 0, 0, 0, 0, 0⟩ : CallV)) != 0) || (decide (now < 0))) with u5 | u5
         · skip
           refine wB (c := true) 77 rfl u5 ?_
           iterate 2 refine p_sameM rfl ?_
           refine p_sameM rfl ?_
           refine wB (c := (((checkCallV c (⟨0, 1, 1, 0, 0, 0, 0, 0⟩ : CallV)) != 0) || (decide (now < 0))) || (decide (1073741824 < now))) 80 rfl (by rw [u5]; rfl) ?_
           refine wN (tN ?_)
           exact fun aa ww nn dd hs H => hKK aa ww nn dd (sat_sub ⟨rfl, rfl, rfl, rfl, rfl, rfl, rfl, rfl, rfl, rfl, rfl, rfl, rfl, rfl, rfl, rfl, rfl, trivial⟩ hs) H
         · skip
           refine wB (c := false) 77 rfl u5 ?_
           iterate 2 refine p_sameM rfl ?_
           refine p_sameM rfl ?_
           refine wB (c := (((checkCallV c (⟨0, 1, 1, 0, 0, 0, 0, 0⟩ : CallV)) != 0) || (decide (now < 0))) || (decide (1073741824 < now))) 80 rfl (by rw [u5]; rfl) ?_
           refine wN (tN ?_)
           exact fun aa ww nn dd hs H => hKK aa ww nn dd (sat_sub ⟨rfl, rfl, rfl, rfl, rfl, rfl, rfl, rfl, rfl, rfl, rfl, rfl, rfl, rfl, rfl, rfl, rfl, trivial⟩ hs) H
       refine p_sameM rfl ?_
       refine wN ?_
       refine tN (wKK hK22 ?_)
       refine wRet ?_
       refine tR (bR (tR (tR (bR (tR ?_)))))
       exact wR1 rfl rfl (fun ww H => ⟨congrArg (fun z => Ending.returned (Value.bool z)) (draw_none z3), H.out.off⟩)
     · skip
       refine wSk ?_
       refine tN (wKK hK20 ?_)
       refine wSeqK fun KK23 hK23 => ?_
       refine wSeqK fun KK24 hK24 => ?_
       refine wReg ?_
       refine wLr rfl tymsg_Request 0 rfl [.int .i64 (((drawReq x c now).1).kind), .int .i64 (((drawReq x c now).1).seq), .int .i64 (((drawReq x c now).1).who), .int .i64 (((drawReq x c now).1).role), .int .u32 (((drawReq x c now).1).token), .int .u64 (((drawReq x c now).1).key), .int .i64 ((((drawReq x c now).1).call).id), .int .i64 ((((drawReq x c now).1).call).kind), .int .i64 ((((drawReq x c now).1).call).src), .int .i64 ((((drawReq x c now).1).call).dst), .int .i64 ((((drawReq x c now).1).call).car), .int .i64 ((((drawReq x c now).1).call).state), .int .i64 ((((drawReq x c now).1).call).owner), .int .i64 ((((drawReq x c now).1).call).born), .int .i64 (((drawReq x c now).1).id), .int .i64 (((drawReq x c now).1).car), .int .i64 (((drawReq x c now).1).mode), .int .i64 ((((drawReq x c now).1).filter).kind), .int .i64 ((((drawReq x c now).1).filter).n)] rfl rfl ?_
       refine wQ (l := [.agg #[.int .i64 (((drawReq x c now).1).kind), .int .i64 (((drawReq x c now).1).seq), .int .i64 (((drawReq x c now).1).who), .int .i64 (((drawReq x c now).1).role), .int .u32 (((drawReq x c now).1).token), .int .u64 (((drawReq x c now).1).key), .int .i64 ((((drawReq x c now).1).call).id), .int .i64 ((((drawReq x c now).1).call).kind), .int .i64 ((((drawReq x c now).1).call).src), .int .i64 ((((drawReq x c now).1).call).dst), .int .i64 ((((drawReq x c now).1).call).car), .int .i64 ((((drawReq x c now).1).call).state), .int .i64 ((((drawReq x c now).1).call).owner), .int .i64 ((((drawReq x c now).1).call).born), .int .i64 (((drawReq x c now).1).id), .int .i64 (((drawReq x c now).1).car), .int .i64 (((drawReq x c now).1).mode), .int .i64 ((((drawReq x c now).1).filter).kind), .int .i64 ((((drawReq x c now).1).filter).n)]]) Try.func12 rfl (by kernel_rfl) (.tuple #[.string ((encodeV ((drawReq x c now).1)).1), .int .i64 ((encodeV ((drawReq x c now).1)).2)]) (fun wc H => encodeC ((drawReq x c now).1) (Lib.hid (draw_okReq _ _ _)) wc) rfl rfl rfl rfl ?_
       iterate 5 refine p_sameM rfl ?_
       refine wN ?_
       refine tN (wKK hK24 ?_)
       refine wSeqK fun KK25 hK25 => ?_
       refine wReg ?_
       iterate 2 refine p_sameM rfl ?_
       refine wN ?_
       refine tN (wKK hK25 ?_)
       refine wCond (E := ((encodeV ((drawReq x c now).1)).2) != 0) rfl (fun z6 => ?_) (fun z6 => ?_)
       · skip
         have z6o : (((encodeV ((drawReq x c now).1)).2) == 0) = false := neq_t z6
         exact absurd (z6.symm.trans (draw_enc z3)) (by decide)
       · skip
         have z6o : (((encodeV ((drawReq x c now).1)).2) == 0) = true := neq_f z6
         refine wSk ?_
         refine tN (wKK hK23 ?_)
         refine wSeqK fun KK26 hK26 => ?_
         intro aa ww nn dd hs H
         refine sameM_r21 s c n now k e b5 a4_4 c4_4 a5_5 c5_5 i b11_1 j x b15 hk he hk3 hsl he2 hek hle hlen hi z1d hj hxl z2d H aa nn (hs 5 _ rfl) (hs 15 _ rfl) ?_
         intro ab wv nn2 dd2 kp o111 H2
         refine wIn nn2 (dd2.trans dd) (Sat.cons (Sat.cons (Sat.cons (Sat.cons (Sat.cons (Sat.cons (Sat.cons (Sat.cons (Sat.cons (Sat.cons (Sat.cons (Sat.cons (Sat.cons (Sat.cons (Sat.cons (Sat.cons (Sat.cons (Sat.cons (Sat.cons (sat_nil ab) ((kp 87 rfl).trans (hs 87 _ rfl))) ((kp 68 rfl).trans (hs 68 _ rfl))) ((kp 59 rfl).trans (hs 59 _ rfl))) ((kp 38 rfl).trans (hs 38 _ rfl))) ((kp 19 rfl).trans (hs 19 _ rfl))) ((kp 17 rfl).trans (hs 17 _ rfl))) ((kp 15 rfl).trans (hs 15 _ rfl))) ((kp 14 rfl).trans (hs 14 _ rfl))) ((kp 13 rfl).trans (hs 13 _ rfl))) ((kp 12 rfl).trans (hs 12 _ rfl))) ((kp 11 rfl).trans (hs 11 _ rfl))) ((kp 10 rfl).trans (hs 10 _ rfl))) ((kp 9 rfl).trans (hs 9 _ rfl))) ((kp 5 rfl).trans (hs 5 _ rfl))) ((kp 3 rfl).trans (hs 3 _ rfl))) ((kp 2 rfl).trans (hs 2 _ rfl))) ((kp 1 rfl).trans (hs 1 _ rfl))) ((kp 0 rfl).trans (hs 0 _ rfl))) o111) H2 ?_
         clear hs H kp H2 dd dd2 nn nn2 o111
         refine tN (wKK hK26 ?_)
         refine wCond (E := ((((drawReq x c now).1).kind) == 4) && (!(((checkCallV c (((drawReq x c now).1).call)) == 0) == ((((((drawReq x c now).1).call).kind) != 4) || (((((drawReq x c now).1).call).src) != ((((drawReq x c now).1).call).dst)))))) rfl (fun z7 => ?_) (fun z7 => ?_)
         · skip
           have z7l : ((((drawReq x c now).1).kind) == 4) = true := Reg.bl z7
           have z7lo : ((((drawReq x c now).1).kind) != 4) = false := eqq_t z7l
           have z7r : (!(((checkCallV c (((drawReq x c now).1).call)) == 0) == ((((((drawReq x c now).1).call).kind) != 4) || (((((drawReq x c now).1).call).src) != ((((drawReq x c now).1).call).dst))))) = true := Reg.br z7
           have z7rn : (((checkCallV c (((drawReq x c now).1).call)) == 0) == ((((((drawReq x c now).1).call).kind) != 4) || (((((drawReq x c now).1).call).src) != ((((drawReq x c now).1).call).dst)))) = false := Reg.bn z7r
           exact absurd (z7.symm.trans (draw_same z3)) (by decide)
         · skip
           refine wSk ?_
           refine bN (tN (wKK hK18 ?_))
           refine wReg ?_
           iterate 2 refine p_sameM rfl ?_
           refine wI 61 rfl (IntWalk.i64_in _ (by omega)) ?_
           refine p_sameM rfl ?_
           refine wN ?_
           refine tN ?_
           intro aa ww nn dd hs H
           refine ⟨⟨j + 1, (drawReq x c now).2, (by omega), (drawReq_lt hxl), nn, dd, (sat_sub ⟨rfl, rfl, rfl, rfl, rfl, rfl, rfl, rfl, rfl, rfl, rfl, rfl, rfl, trivial⟩ hs), (hp_sel [1, 2, 3, 4] H (by decide) rfl)⟩, ?_⟩
           have m14 := hs 14 _ rfl
           simp only [mu2_14, m14, intOf]
           omega
   · skip
     have z2d : ¬ ((j : Int) < 40) := of_decide_eq_false z2
     refine wEx ?_
     refine tX (tX (bX (tN (wKK hK14 ?_))))
     refine wSeqK fun KK27 hK27 => ?_
     refine wReg ?_
     refine p_sameM rfl ?_
     refine wN ?_
     refine tN (wKK hK27 ?_)
     refine wRet ?_
     exact wR1 rfl rfl (fun ww H => ⟨rfl, H.out.off⟩)
end Go.Proofs.Ythflkhalipkdgaa.Mn
