/- A call goes on by its rows alone: the walk. -/
import Derived.Test.YtfhhfmkfkoemjaaProg
import Derived.Below
import Derived.WalkKit
import Derived.KernelRfl
import Derived.RowKit3
import Derived.Deep.LoopGhost
import Derived.Deep.QuietTactic
import Derived.BigQuiet
import Derived.WideLaws
import Derived.Deep.DeepCutAuto
import Derived.Deep.CutBlock
import Derived.Lib.Hide
import Derived.Laws.BitsLemmas
import Derived.Laws.Bits64
import Derived.Laws.BitsAllLaws
import Derived.IntWalk
import Derived.Outline
import Derived.WalkSpells
import Derived.Test.YtfhhfmkfkoemjaaMem
import Derived.Test.YtfhhfmkfkoemjaaRegS
import Derived.Test.YtfhhfmkfkoemjaaCe
import Derived.Test.YtfhhfmkfkoemjaaCq
namespace Go.Proofs.Ytfhhfmkfkoemjaa.Ca
open Go.RowKit Go.Proofs.Ytfhhfmkfkoemjaa.Mem Go.Proofs.Ytfhhfmkfkoemjaa.Reg Go.Proofs.Ytfhhfmkfkoemjaa.Si
set_option linter.unusedVariables false
set_option linter.unusedSimpArgs false

def cL (c : Cfg) : List Value := [.int .i64 c.floors, .int .i64 c.cars, .int .i64 c.seats, .int .i64 c.calls, .int .i64 c.lines, .int .i64 c.keys, .int .i64 c.window, .int .i64 c.burst, .int .i64 c.rate, .int .i64 c.idle, .int .i64 c.inn, .int .i64 c.out, .int .i64 c.feed, .int .i64 c.retries, .int .i64 c.life, .int .i64 c.door, .int .i64 c.holds, .int .u32 c.secret]
def cA (c : Cfg) : Array Value := (cL c).toArray
def intRow (k : Int) : List Value := [.int .i64 k]
instance : Inhabited CallV := ⟨noCall⟩
theorem good_of {c : Cfg} {x : CallV} (h : ((newV c x 1 2 3).2 != 0) = false) : Good c x (newV c x 1 2 3).1 := by
  obtain ⟨e, ha⟩ := new_ok (by simpa using h)
  rw [e]
  exact good_new ha
theorem goes_facts {c : Cfg} {x z : CallV} (hg : Good c x z) : (z.id != 1) = false ∧ (z.kind != x.kind) = false ∧ (z.owner != 2) = false ∧ (z.born != 3) = false ∧ (z.dst != x.dst) = false := by
  rw [hg.id, hg.kind, hg.owner, hg.born, hg.dst]
  simp
theorem goes_lives {c : Cfg} {x z : CallV} (hg : Good c x z) : (livesV z == (((z.state == 4) || (z.state == 5)) || (z.state == 6))) = false := by
  rcases tests_of hg with h | h | h | h | h | h | h <;> (obtain ⟨h1, h2, h3, h4, h5, h6, h7, _⟩ := h; rw [h4, h5, h6, h7]; rfl)
theorem goes_car {c : Cfg} {x z : CallV} (hg : Good c x z) : ((((z.state == 2) || (z.state == 3)) && (decide (z.car < 1) || decide (c.cars < z.car))) || (((z.state == 1) && (z.kind != 3)) && (z.car != 0))) = false := by
  rcases tests_of hg with h | h | h | h | h | h | h <;> (obtain ⟨h1, h2, h3, h4, h5, h6, h7, h8, h9⟩ := h; first | (rw [h1, h2, h3, h8, h9]; rfl) | (rw [h1, h2, h3, h8]; rfl) | (rw [h1, h2, h3]; rfl))
theorem six {m : Nat} (h : m ≤ 63) : ∃ r q p : Nat, r < 6 ∧ q < 11 ∧ p < 4 ∧ (m : Int).tmod 6 = (r : Int) ∧ IntKind.i64.wrap ((m : Int).tdiv 6) = (q : Int) ∧ (q : Int).tmod 4 = (p : Int) := by
  refine ⟨m % 6, m / 6, (m / 6) % 4, by omega, by omega, by omega, rfl, ?_, rfl⟩
  rw [IntWalk.i64_in _ (by have : (m : Int).tdiv 6 = ((m / 6 : Nat) : Int) := rfl; omega)]
  rfl
theorem new_lives {c : Cfg} {x : CallV} (h : ((newV c x 1 2 3).2 != 0) = false) : livesV (newV c x 1 2 3).1 = true := by
  obtain ⟨e, _⟩ := new_ok (by simpa using h)
  rw [e]
  rfl
set_option maxRecDepth 20000 in
theorem goes_w_r0 (c : Cfg) (x : CallV) (ra : Option Addr) (rc : Nat) (zs : List Int) {wa wb : World} (H : Hid (Hp [] wa wb [rS ra rc 1 (zs.map intRow)])) (ac0 : Act) (hz : ac0.tmps.size = 203) (so0 : ac0.eval (.tmp 0) = .agg (cA c)) (so1 : ac0.eval (.tmp 1) = .agg #[.int .i64 x.id, .int .i64 x.kind, .int .i64 x.src, .int .i64 x.dst, .int .i64 x.car, .int .i64 x.state, .int .i64 x.owner, .int .i64 x.born]) {QR : Exit → Act → World → Prop} (hfin : ∀ (b3 : Nat) (b4 : Nat) (ac1 : Act) (wz : World), ac1.tmps.size = 203 → ac1.defers = ac0.defers → (∀ t, ([3, 4, 6] : List Nat).contains t = false → ac1.eval (.tmp t) = ac0.eval (.tmp t)) → ac1.eval (.tmp 3) = .pointer (some ⟨b3, 0, none⟩) → ac1.eval (.tmp 4) = .pointer (some ⟨b4, 0, none⟩) → ac1.eval (.tmp 6) = .bool false →  Hid (Hp [] wa wz [rB b4 26 [.int .i64 x.id, .int .i64 x.kind, .int .i64 x.src, .int .i64 x.dst, .int .i64 x.car, .int .i64 x.state, .int .i64 x.owner, .int .i64 x.born], rB b3 24 (cL c), rS ra rc 1 (zs.map intRow)]) → QR .normal ac1 wz) : (regAt Try.f3 0).wp Try.prog QR ac0 wb := by
  refine wp_region_sq (by kernel_rfl) 203 hz (by kernel_rfl) (fun (xx : Nat × Nat) jx => match xx with | (b3, b4) => nth [.pointer (some ⟨b3, 0, none⟩), .pointer (some ⟨b4, 0, none⟩), .bool false] jx) (fun (LL : Nat → Bool) (xx : Nat × Nat) ww => match xx with | (b3, b4) => Hp [] wa ww (bif LL 1 then [rB b4 26 [.int .i64 x.id, .int .i64 x.kind, .int .i64 x.src, .int .i64 x.dst, .int .i64 x.car, .int .i64 x.state, .int .i64 x.owner, .int .i64 x.born], rB b3 24 (cL c), rS ra rc 1 (zs.map intRow)] else (bif LL 0 then [rB b3 24 (cL c), rS ra rc 1 (zs.map intRow)] else [rS ra rc 1 (zs.map intRow)]))) (default, default) H.out ?_ (steps_al ?_) ?_ ?_
  · intro L1 L2 xx ww hL sg
    have lh0 := hL 0 (by decide)
    have lh1 := hL 1 (by decide)
    simp only [lh0, lh1] at sg
    exact sg
  · refine al_cons ?_ (al_cons ?_ (al_cons ?_ (al_nil)))
    · intro LL xx ac wc sg hst hwant QQ hgo
      obtain ⟨_, b4⟩ := xx
      have H := Lib.hid hst
      simp only [sg.self, sg.des 1 rfl, cond_true, cond_false] at H
      refine hp_box rfl 24 _ rfl _ ((sg.free 0 (by kernel_rfl)).trans so0) _ (by rfl) H ?_
      intro wd b3 H2
      exact hgo _ (b3, b4) _ (sg.agree (x' := (b3, b4)) (n := 3) rfl (by (iterate 3 (refine ix_cons (by first | exact fun _ => rfl | exact no sg.self | exact no (sg.des _ rfl)) ?_)); exact ix_nil)) rfl (by simp only [(show upd LL 0 0 = true from rfl), (show upd LL 0 1 = LL 1 from rfl), sg.des 1 rfl, cond_true, cond_false]; exact H2.out)
    · intro LL xx ac wc sg hst hwant QQ hgo
      obtain ⟨b3, _⟩ := xx
      have H := Lib.hid hst
      simp only [sg.anc 0 rfl, sg.self, cond_true, cond_false] at H
      refine hp_box rfl 26 _ rfl _ ((sg.free 1 (by kernel_rfl)).trans so1) _ (by rfl) H ?_
      intro wd b4 H2
      exact hgo _ (b3, b4) _ (sg.agree (x' := (b3, b4)) (n := 3) rfl (by (iterate 3 (refine ix_cons (by first | exact fun _ => rfl | exact no sg.self | exact no (sg.des _ rfl)) ?_)); exact ix_nil)) rfl (by simp only [(show upd LL 1 0 = LL 0 from rfl), sg.anc 0 rfl, (show upd LL 1 1 = true from rfl), cond_true, cond_false]; exact H2.out)
    · intro LL xx ac wc sg hst hwant QQ hgo
      obtain ⟨b3, b4⟩ := xx
      exact op_val hwant hgo hst _ (exec_assign rfl rfl) rfl
  · exact skips [] (by kernel_rfl) (fun _ h => by cases h)
  · intro xx ac1 wz hfr hsl hst
    obtain ⟨b3, b4⟩ := xx
    exact hfin b3 b4 ac1 wz (hfr.size.trans hz) hfr.defers (fr_keep hfr [3, 4, 6] (by kernel_rfl)) (hsl 0 (by decide)) (hsl 1 (by decide)) (hsl 2 (by decide)) (Lib.hid hst)
set_option maxRecDepth 20000 in
theorem goes_w_r1 (c : Cfg) (x : CallV) (ra : Option Addr) (rc : Nat) (zs : List Int) (b3 : Nat) (b4 : Nat) {wa wb : World} (H : Hid (Hp [] wa wb [rB b4 26 [.int .i64 x.id, .int .i64 x.kind, .int .i64 x.src, .int .i64 x.dst, .int .i64 x.car, .int .i64 x.state, .int .i64 x.owner, .int .i64 x.born], rB b3 24 (cL c), rS ra rc 1 (zs.map intRow)])) (ac0 : Act) (hz : ac0.tmps.size = 203)  {QR : Exit → Act → World → Prop} (hfin : ∀ (ac1 : Act) (wz : World), ac1.tmps.size = 203 → ac1.defers = ac0.defers → (∀ t, ([15, 16] : List Nat).contains t = false → ac1.eval (.tmp t) = ac0.eval (.tmp t)) → ac1.eval (.tmp 16) = .bool false →  Hid (Hp [] wa wz [rB b4 26 [.int .i64 x.id, .int .i64 x.kind, .int .i64 x.src, .int .i64 x.dst, .int .i64 x.car, .int .i64 x.state, .int .i64 x.owner, .int .i64 x.born], rB b3 24 (cL c), rS ra rc 1 (zs.map intRow)]) → QR .normal ac1 wz) : (regAt Try.f3 1).wp Try.prog QR ac0 wb := by
  refine wp_region_sq (by kernel_rfl) 203 hz (by kernel_rfl) (fun (xx : Unit) jx => nth [.bool true, .bool false] jx) (fun (LL : Nat → Bool) (xx : Unit) ww => Hp [] wa ww [rB b4 26 [.int .i64 x.id, .int .i64 x.kind, .int .i64 x.src, .int .i64 x.dst, .int .i64 x.car, .int .i64 x.state, .int .i64 x.owner, .int .i64 x.born], rB b3 24 (cL c), rS ra rc 1 (zs.map intRow)]) () H.out ?_ (steps_al ?_) ?_ ?_
  · exact fun _ _ _ _ _ h => h
  · refine al_cons ?_ (al_cons ?_ (al_nil))
    · intro LL xx ac wc sg hst hwant QQ hgo
      refine op_call hwant hgo 13 _ (by simp only [execOp]; go_simp) (awake8 wc) ?_
      rintro er wd ⟨rfl, hof⟩
      exact ⟨_, (), rfl, fun _ _ => rfl, rfl, Hp.quiet hst hof⟩
    · intro LL xx ac wc sg hst hwant QQ hgo
      have se15 : ac.eval (.tmp 15) = _ := (sg.slot 0 (sg.anc 0 rfl))
      have sg15 := gt_of se15
      (try simp only [nth] at se15 sg15)
      exact op_val hwant hgo hst _ (by simp only [execOp, nth]; go_simp <;> omega) rfl
  · exact skips [] (by kernel_rfl) (fun _ h => by cases h)
  · intro xx ac1 wz hfr hsl hst
    exact hfin ac1 wz (hfr.size.trans hz) hfr.defers (fr_keep hfr [15, 16] (by kernel_rfl)) (hsl 1 (by decide)) (Lib.hid hst)
set_option maxRecDepth 20000 in
theorem goes_w_r3 (c : Cfg) (x : CallV) (ra : Option Addr) (rc : Nat) (zs : List Int) (b3 : Nat) (b4 : Nat) {wa wb : World} (H : Hid (Hp [] wa wb [rB b4 26 [.int .i64 x.id, .int .i64 x.kind, .int .i64 x.src, .int .i64 x.dst, .int .i64 x.car, .int .i64 x.state, .int .i64 x.owner, .int .i64 x.born], rB b3 24 (cL c), rS ra rc 1 (zs.map intRow)])) (ac0 : Act) (hz : ac0.tmps.size = 203) (so3 : ac0.eval (.tmp 3) = .pointer (some ⟨b3, 0, none⟩)) (so4 : ac0.eval (.tmp 4) = .pointer (some ⟨b4, 0, none⟩)) {QR : Exit → Act → World → Prop} (hfin : ∀ (b7 : Nat) (ac1 : Act) (wz : World), ac1.tmps.size = 203 → ac1.defers = ac0.defers → (∀ t, ([7, 8, 17, 18, 19, 20, 21, 22] : List Nat).contains t = false → ac1.eval (.tmp t) = ac0.eval (.tmp t)) → ac1.eval (.tmp 7) = .pointer (some ⟨b7, 0, none⟩) → ac1.eval (.tmp 8) = .int .i64 ((newV c x 1 2 3).2) →  Hid (Hp [] wa wz [rB b7 26 [.int .i64 (((newV c x 1 2 3).1).id), .int .i64 (((newV c x 1 2 3).1).kind), .int .i64 (((newV c x 1 2 3).1).src), .int .i64 (((newV c x 1 2 3).1).dst), .int .i64 (((newV c x 1 2 3).1).car), .int .i64 (((newV c x 1 2 3).1).state), .int .i64 (((newV c x 1 2 3).1).owner), .int .i64 (((newV c x 1 2 3).1).born)], rB b4 26 [.int .i64 x.id, .int .i64 x.kind, .int .i64 x.src, .int .i64 x.dst, .int .i64 x.car, .int .i64 x.state, .int .i64 x.owner, .int .i64 x.born], rB b3 24 (cL c), rS ra rc 1 (zs.map intRow)]) → QR .normal ac1 wz) : (regAt Try.f3 3).wp Try.prog QR ac0 wb := by
  refine wp_region_sq (by kernel_rfl) 203 hz (by kernel_rfl) (fun (xx : Nat) jx => match xx with | b7 => nth [.agg (cA c), .agg #[.int .i64 x.id, .int .i64 x.kind, .int .i64 x.src, .int .i64 x.dst, .int .i64 x.car, .int .i64 x.state, .int .i64 x.owner, .int .i64 x.born], .tuple #[.agg #[.int .i64 (((newV c x 1 2 3).1).id), .int .i64 (((newV c x 1 2 3).1).kind), .int .i64 (((newV c x 1 2 3).1).src), .int .i64 (((newV c x 1 2 3).1).dst), .int .i64 (((newV c x 1 2 3).1).car), .int .i64 (((newV c x 1 2 3).1).state), .int .i64 (((newV c x 1 2 3).1).owner), .int .i64 (((newV c x 1 2 3).1).born)], .int .i64 ((newV c x 1 2 3).2)], .tuple #[.agg #[.int .i64 (((newV c x 1 2 3).1).id), .int .i64 (((newV c x 1 2 3).1).kind), .int .i64 (((newV c x 1 2 3).1).src), .int .i64 (((newV c x 1 2 3).1).dst), .int .i64 (((newV c x 1 2 3).1).car), .int .i64 (((newV c x 1 2 3).1).state), .int .i64 (((newV c x 1 2 3).1).owner), .int .i64 (((newV c x 1 2 3).1).born)], .int .i64 ((newV c x 1 2 3).2)], .agg #[.int .i64 (((newV c x 1 2 3).1).id), .int .i64 (((newV c x 1 2 3).1).kind), .int .i64 (((newV c x 1 2 3).1).src), .int .i64 (((newV c x 1 2 3).1).dst), .int .i64 (((newV c x 1 2 3).1).car), .int .i64 (((newV c x 1 2 3).1).state), .int .i64 (((newV c x 1 2 3).1).owner), .int .i64 (((newV c x 1 2 3).1).born)], .int .i64 ((newV c x 1 2 3).2), .pointer (some ⟨b7, 0, none⟩), undef, .int .i64 ((newV c x 1 2 3).2)] jx) (fun (LL : Nat → Bool) (xx : Nat) ww => match xx with | b7 => Hp [] wa ww (bif LL 7 then [rB b7 26 [.int .i64 (((newV c x 1 2 3).1).id), .int .i64 (((newV c x 1 2 3).1).kind), .int .i64 (((newV c x 1 2 3).1).src), .int .i64 (((newV c x 1 2 3).1).dst), .int .i64 (((newV c x 1 2 3).1).car), .int .i64 (((newV c x 1 2 3).1).state), .int .i64 (((newV c x 1 2 3).1).owner), .int .i64 (((newV c x 1 2 3).1).born)], rB b4 26 [.int .i64 x.id, .int .i64 x.kind, .int .i64 x.src, .int .i64 x.dst, .int .i64 x.car, .int .i64 x.state, .int .i64 x.owner, .int .i64 x.born], rB b3 24 (cL c), rS ra rc 1 (zs.map intRow)] else (bif LL 6 then [rB b7 26 [.int .i64 0, .int .i64 0, .int .i64 0, .int .i64 0, .int .i64 0, .int .i64 0, .int .i64 0, .int .i64 0], rB b4 26 [.int .i64 x.id, .int .i64 x.kind, .int .i64 x.src, .int .i64 x.dst, .int .i64 x.car, .int .i64 x.state, .int .i64 x.owner, .int .i64 x.born], rB b3 24 (cL c), rS ra rc 1 (zs.map intRow)] else [rB b4 26 [.int .i64 x.id, .int .i64 x.kind, .int .i64 x.src, .int .i64 x.dst, .int .i64 x.car, .int .i64 x.state, .int .i64 x.owner, .int .i64 x.born], rB b3 24 (cL c), rS ra rc 1 (zs.map intRow)]))) default H.out ?_ (steps_al ?_) ?_ ?_
  · intro L1 L2 xx ww hL sg
    have lh6 := hL 6 (by decide)
    have lh7 := hL 7 (by decide)
    simp only [lh6, lh7] at sg
    exact sg
  · refine al_cons ?_ (al_cons ?_ (al_cons ?_ (al_cons ?_ (al_cons ?_ (al_cons ?_ (al_cons ?_ (al_cons ?_ (al_cons ?_ (al_nil)))))))))
    · intro LL xx ac wc sg hst hwant QQ hgo
      revert sg hst hgo; revert xx; intro b7 sg hst hgo
      have H := Lib.hid hst
      simp only [sg.des 6 rfl, sg.des 7 rfl, cond_true, cond_false] at H
      refine hpA_load tyapi_Config H rfl ((sg.free 3 (by kernel_rfl)).trans so3) hwant (by (repeat (first | exact List.Mem.head _ | apply List.Mem.tail))) (by rfl) rfl ?_
      exact hgo _ b7 _ (fun _ _ => rfl) rfl hst
    · intro LL xx ac wc sg hst hwant QQ hgo
      revert sg hst hgo; revert xx; intro b7 sg hst hgo
      have H := Lib.hid hst
      simp only [sg.des 6 rfl, sg.des 7 rfl, cond_true, cond_false] at H
      refine hpA_load tyapi_Call H rfl ((sg.free 4 (by kernel_rfl)).trans so4) hwant (by (repeat (first | exact List.Mem.head _ | apply List.Mem.tail))) (by rfl) rfl ?_
      exact hgo _ b7 _ (fun _ _ => rfl) rfl hst
    · intro LL xx ac wc sg hst hwant QQ hgo
      revert sg hst hgo; revert xx; intro b7 sg hst hgo
      have se18 : ac.eval (.tmp 18) = _ := (sg.slot 0 (sg.anc 0 rfl))
      have sg18 := gt_of se18
      have se19 : ac.eval (.tmp 19) = _ := (sg.slot 1 (sg.anc 1 rfl))
      have sg19 := gt_of se19
      (try simp only [nth] at se18 sg18 se19 sg19)
      refine op_call hwant hgo 14 #[.agg (cA c), .agg #[.int .i64 x.id, .int .i64 x.kind, .int .i64 x.src, .int .i64 x.dst, .int .i64 x.car, .int .i64 x.state, .int .i64 x.owner, .int .i64 x.born], .int .i64 1, .int .i64 2, .int .i64 3] (by simp only [execOp]; go_simp) (callNew c x 1 2 3 wc) ?_
      rintro er wd ⟨rfl, hof⟩
      exact ⟨_, b7, rfl, fun _ _ => rfl, rfl, Hp.quiet hst hof⟩
    · intro LL xx ac wc sg hst hwant QQ hgo
      revert sg hst hgo; revert xx; intro b7 sg hst hgo
      exact op_val hwant hgo hst _ (exec_move rfl (sg.slot 2 (sg.anc 2 rfl))) rfl
    · intro LL xx ac wc sg hst hwant QQ hgo
      revert sg hst hgo; revert xx; intro b7 sg hst hgo
      have se17 : ac.eval (.tmp 17) = _ := (sg.slot 3 (sg.anc 3 rfl))
      have sg17 := gt_of se17
      (try simp only [nth] at se17 sg17)
      exact op_val hwant hgo hst _ (by simp only [execOp, nth]; go_simp <;> omega) rfl
    · intro LL xx ac wc sg hst hwant QQ hgo
      revert sg hst hgo; revert xx; intro b7 sg hst hgo
      have se17 : ac.eval (.tmp 17) = _ := (sg.slot 3 (sg.anc 3 rfl))
      have sg17 := gt_of se17
      (try simp only [nth] at se17 sg17)
      exact op_val hwant hgo hst _ (by simp only [execOp, nth]; go_simp <;> omega) rfl
    · intro LL xx ac wc sg hst hwant QQ hgo
      revert sg hst hgo; revert xx; intro xold sg hst hgo
      have H := Lib.hid hst
      simp only [sg.self, sg.des 7 rfl, cond_true, cond_false] at H
      refine hpA_alloc tyapi_Call H rfl rfl ?_
      intro wd b7 H2
      exact hgo _ b7 _ (sg.agree (x' := b7) (n := 9) rfl (by (iterate 9 (refine ix_cons (by first | exact fun _ => rfl | exact no sg.self | exact no (sg.des _ rfl)) ?_)); exact ix_nil)) rfl (by simp only [(show upd LL 6 6 = true from rfl), (show upd LL 6 7 = LL 7 from rfl), sg.des 7 rfl, cond_true, cond_false]; exact H2.out)
    · intro LL xx ac wc sg hst hwant QQ hgo
      revert sg hst hgo; revert xx; intro b7 sg hst hgo
      have H := Lib.hid hst
      simp only [sg.anc 6 rfl, sg.self, cond_true, cond_false] at H
      refine hpA_store tyapi_Call H rfl rfl (sg.slot 6 (sg.anc 6 rfl)) (sg.slot 4 (sg.anc 4 rfl)) rfl (by repeat (first | apply Put.head | apply Put.tail)) (by simp [cA, cL]) (by simp [cA, cL, Value.oneCell']) (by first | rfl | (simp only [spl]; rfl)) rfl ?_
      intro wd H2
      exact hgo _ b7 _ (sg.agree (x' := b7) (n := 9) rfl (by (iterate 9 (refine ix_cons (by first | exact fun _ => rfl | exact no sg.self | exact no (sg.des _ rfl)) ?_)); exact ix_nil)) rfl (by simp only [(show upd LL 7 6 = LL 6 from rfl), sg.anc 6 rfl, (show upd LL 7 7 = true from rfl), cond_true, cond_false]; exact H2.out)
    · intro LL xx ac wc sg hst hwant QQ hgo
      revert sg hst hgo; revert xx; intro b7 sg hst hgo
      exact op_val hwant hgo hst _ (exec_assign rfl (sg.slot 5 (sg.anc 5 rfl))) rfl
  · exact skips [] (by kernel_rfl) (fun _ h => by cases h)
  · intro xx ac1 wz hfr hsl hst
    revert hsl hst; revert xx; intro b7 hsl hst
    exact hfin b7 ac1 wz (hfr.size.trans hz) hfr.defers (fr_keep hfr [7, 8, 17, 18, 19, 20, 21, 22] (by kernel_rfl)) (hsl 6 (by decide)) (hsl 8 (by decide)) (Lib.hid hst)
set_option maxRecDepth 20000 in
theorem goes_w_r4 (c : Cfg) (x : CallV) (ra : Option Addr) (rc : Nat) (zs : List Int) (b3 : Nat) (b4 : Nat) (b7 : Nat) {wa wb : World} (H : Hid (Hp [] wa wb [rB b7 26 [.int .i64 (((newV c x 1 2 3).1).id), .int .i64 (((newV c x 1 2 3).1).kind), .int .i64 (((newV c x 1 2 3).1).src), .int .i64 (((newV c x 1 2 3).1).dst), .int .i64 (((newV c x 1 2 3).1).car), .int .i64 (((newV c x 1 2 3).1).state), .int .i64 (((newV c x 1 2 3).1).owner), .int .i64 (((newV c x 1 2 3).1).born)], rB b4 26 [.int .i64 x.id, .int .i64 x.kind, .int .i64 x.src, .int .i64 x.dst, .int .i64 x.car, .int .i64 x.state, .int .i64 x.owner, .int .i64 x.born], rB b3 24 (cL c), rS ra rc 1 (zs.map intRow)])) (ac0 : Act) (hz : ac0.tmps.size = 203) (so8 : ac0.eval (.tmp 8) = .int .i64 ((newV c x 1 2 3).2)) {QR : Exit → Act → World → Prop} (hfin : ∀ (ac1 : Act) (wz : World), ac1.tmps.size = 203 → ac1.defers = ac0.defers → (∀ t, ([23, 24] : List Nat).contains t = false → ac1.eval (.tmp t) = ac0.eval (.tmp t)) → ac1.eval (.tmp 24) = .bool (((newV c x 1 2 3).2) != 0) →  Hid (Hp [] wa wz [rB b7 26 [.int .i64 (((newV c x 1 2 3).1).id), .int .i64 (((newV c x 1 2 3).1).kind), .int .i64 (((newV c x 1 2 3).1).src), .int .i64 (((newV c x 1 2 3).1).dst), .int .i64 (((newV c x 1 2 3).1).car), .int .i64 (((newV c x 1 2 3).1).state), .int .i64 (((newV c x 1 2 3).1).owner), .int .i64 (((newV c x 1 2 3).1).born)], rB b4 26 [.int .i64 x.id, .int .i64 x.kind, .int .i64 x.src, .int .i64 x.dst, .int .i64 x.car, .int .i64 x.state, .int .i64 x.owner, .int .i64 x.born], rB b3 24 (cL c), rS ra rc 1 (zs.map intRow)]) → QR .normal ac1 wz) : (regAt Try.f3 4).wp Try.prog QR ac0 wb := by
  refine wp_region_sq (by kernel_rfl) 203 hz (by kernel_rfl) (fun (xx : Unit) jx => nth [.int .i64 ((newV c x 1 2 3).2), .bool (((newV c x 1 2 3).2) != 0)] jx) (fun (LL : Nat → Bool) (xx : Unit) ww => Hp [] wa ww [rB b7 26 [.int .i64 (((newV c x 1 2 3).1).id), .int .i64 (((newV c x 1 2 3).1).kind), .int .i64 (((newV c x 1 2 3).1).src), .int .i64 (((newV c x 1 2 3).1).dst), .int .i64 (((newV c x 1 2 3).1).car), .int .i64 (((newV c x 1 2 3).1).state), .int .i64 (((newV c x 1 2 3).1).owner), .int .i64 (((newV c x 1 2 3).1).born)], rB b4 26 [.int .i64 x.id, .int .i64 x.kind, .int .i64 x.src, .int .i64 x.dst, .int .i64 x.car, .int .i64 x.state, .int .i64 x.owner, .int .i64 x.born], rB b3 24 (cL c), rS ra rc 1 (zs.map intRow)]) () H.out ?_ (steps_al ?_) ?_ ?_
  · exact fun _ _ _ _ _ h => h
  · refine al_cons ?_ (al_cons ?_ (al_nil))
    · intro LL xx ac wc sg hst hwant QQ hgo
      exact op_val hwant hgo hst _ (exec_move rfl ((sg.free 8 (by kernel_rfl)).trans so8)) rfl
    · intro LL xx ac wc sg hst hwant QQ hgo
      have se23 : ac.eval (.tmp 23) = _ := (sg.slot 0 (sg.anc 0 rfl))
      have sg23 := gt_of se23
      (try simp only [nth] at se23 sg23)
      exact op_val hwant hgo hst _ (by simp only [execOp, nth]; go_simp <;> omega) rfl
  · exact skips [] (by kernel_rfl) (fun _ h => by cases h)
  · intro xx ac1 wz hfr hsl hst
    exact hfin ac1 wz (hfr.size.trans hz) hfr.defers (fr_keep hfr [23, 24] (by kernel_rfl)) (hsl 1 (by decide)) (Lib.hid hst)
set_option maxRecDepth 20000 in
theorem goes_w_r5 (c : Cfg) (x : CallV) (ra : Option Addr) (rc : Nat) (zs : List Int) (b3 : Nat) (b4 : Nat) (b7 : Nat) {wa wb : World} (H : Hid (Hp [] wa wb [rB b7 26 [.int .i64 (((newV c x 1 2 3).1).id), .int .i64 (((newV c x 1 2 3).1).kind), .int .i64 (((newV c x 1 2 3).1).src), .int .i64 (((newV c x 1 2 3).1).dst), .int .i64 (((newV c x 1 2 3).1).car), .int .i64 (((newV c x 1 2 3).1).state), .int .i64 (((newV c x 1 2 3).1).owner), .int .i64 (((newV c x 1 2 3).1).born)], rB b4 26 [.int .i64 x.id, .int .i64 x.kind, .int .i64 x.src, .int .i64 x.dst, .int .i64 x.car, .int .i64 x.state, .int .i64 x.owner, .int .i64 x.born], rB b3 24 (cL c), rS ra rc 1 (zs.map intRow)])) (ac0 : Act) (hz : ac0.tmps.size = 203)  {QR : Exit → Act → World → Prop} (hfin : ∀ (ac1 : Act) (wz : World), ac1.tmps.size = 203 → ac1.defers = ac0.defers → (∀ t, ([6] : List Nat).contains t = false → ac1.eval (.tmp t) = ac0.eval (.tmp t)) → ac1.eval (.tmp 6) = .bool true →  Hid (Hp [] wa wz [rB b7 26 [.int .i64 (((newV c x 1 2 3).1).id), .int .i64 (((newV c x 1 2 3).1).kind), .int .i64 (((newV c x 1 2 3).1).src), .int .i64 (((newV c x 1 2 3).1).dst), .int .i64 (((newV c x 1 2 3).1).car), .int .i64 (((newV c x 1 2 3).1).state), .int .i64 (((newV c x 1 2 3).1).owner), .int .i64 (((newV c x 1 2 3).1).born)], rB b4 26 [.int .i64 x.id, .int .i64 x.kind, .int .i64 x.src, .int .i64 x.dst, .int .i64 x.car, .int .i64 x.state, .int .i64 x.owner, .int .i64 x.born], rB b3 24 (cL c), rS ra rc 1 (zs.map intRow)]) → QR .normal ac1 wz) : (regAt Try.f3 5).wp Try.prog QR ac0 wb := by
  refine wp_region_sq (by kernel_rfl) 203 hz (by kernel_rfl) (fun (xx : Unit) jx => nth [.bool true] jx) (fun (LL : Nat → Bool) (xx : Unit) ww => Hp [] wa ww [rB b7 26 [.int .i64 (((newV c x 1 2 3).1).id), .int .i64 (((newV c x 1 2 3).1).kind), .int .i64 (((newV c x 1 2 3).1).src), .int .i64 (((newV c x 1 2 3).1).dst), .int .i64 (((newV c x 1 2 3).1).car), .int .i64 (((newV c x 1 2 3).1).state), .int .i64 (((newV c x 1 2 3).1).owner), .int .i64 (((newV c x 1 2 3).1).born)], rB b4 26 [.int .i64 x.id, .int .i64 x.kind, .int .i64 x.src, .int .i64 x.dst, .int .i64 x.car, .int .i64 x.state, .int .i64 x.owner, .int .i64 x.born], rB b3 24 (cL c), rS ra rc 1 (zs.map intRow)]) () H.out ?_ (steps_al ?_) ?_ ?_
  · exact fun _ _ _ _ _ h => h
  · refine al_cons ?_ (al_nil)
    · intro LL xx ac wc sg hst hwant QQ hgo
      exact op_val hwant hgo hst _ (exec_assign rfl rfl) rfl
  · exact skips [] (by kernel_rfl) (fun _ h => by cases h)
  · intro xx ac1 wz hfr hsl hst
    exact hfin ac1 wz (hfr.size.trans hz) hfr.defers (fr_keep hfr [6] (by kernel_rfl)) (hsl 0 (by decide)) (Lib.hid hst)
set_option maxRecDepth 20000 in
theorem goes_w_r6 (c : Cfg) (x : CallV) (ra : Option Addr) (rc : Nat) (zs : List Int) (b3 : Nat) (b4 : Nat) (b7 : Nat) {wa wb : World} (H : Hid (Hp [] wa wb [rB b7 26 [.int .i64 (((newV c x 1 2 3).1).id), .int .i64 (((newV c x 1 2 3).1).kind), .int .i64 (((newV c x 1 2 3).1).src), .int .i64 (((newV c x 1 2 3).1).dst), .int .i64 (((newV c x 1 2 3).1).car), .int .i64 (((newV c x 1 2 3).1).state), .int .i64 (((newV c x 1 2 3).1).owner), .int .i64 (((newV c x 1 2 3).1).born)], rB b4 26 [.int .i64 x.id, .int .i64 x.kind, .int .i64 x.src, .int .i64 x.dst, .int .i64 x.car, .int .i64 x.state, .int .i64 x.owner, .int .i64 x.born], rB b3 24 (cL c), rS ra rc 1 (zs.map intRow)])) (ac0 : Act) (hz : ac0.tmps.size = 203)  {QR : Exit → Act → World → Prop} (hfin : ∀ (ac1 : Act) (wz : World), ac1.tmps.size = 203 → ac1.defers = ac0.defers → (∀ t, ([9] : List Nat).contains t = false → ac1.eval (.tmp t) = ac0.eval (.tmp t)) → ac1.eval (.tmp 9) = .bool false →  Hid (Hp [] wa wz [rB b7 26 [.int .i64 (((newV c x 1 2 3).1).id), .int .i64 (((newV c x 1 2 3).1).kind), .int .i64 (((newV c x 1 2 3).1).src), .int .i64 (((newV c x 1 2 3).1).dst), .int .i64 (((newV c x 1 2 3).1).car), .int .i64 (((newV c x 1 2 3).1).state), .int .i64 (((newV c x 1 2 3).1).owner), .int .i64 (((newV c x 1 2 3).1).born)], rB b4 26 [.int .i64 x.id, .int .i64 x.kind, .int .i64 x.src, .int .i64 x.dst, .int .i64 x.car, .int .i64 x.state, .int .i64 x.owner, .int .i64 x.born], rB b3 24 (cL c), rS ra rc 1 (zs.map intRow)]) → QR .normal ac1 wz) : (regAt Try.f3 6).wp Try.prog QR ac0 wb := by
  refine wp_region_sq (by kernel_rfl) 203 hz (by kernel_rfl) (fun (xx : Unit) jx => nth [.bool false] jx) (fun (LL : Nat → Bool) (xx : Unit) ww => Hp [] wa ww [rB b7 26 [.int .i64 (((newV c x 1 2 3).1).id), .int .i64 (((newV c x 1 2 3).1).kind), .int .i64 (((newV c x 1 2 3).1).src), .int .i64 (((newV c x 1 2 3).1).dst), .int .i64 (((newV c x 1 2 3).1).car), .int .i64 (((newV c x 1 2 3).1).state), .int .i64 (((newV c x 1 2 3).1).owner), .int .i64 (((newV c x 1 2 3).1).born)], rB b4 26 [.int .i64 x.id, .int .i64 x.kind, .int .i64 x.src, .int .i64 x.dst, .int .i64 x.car, .int .i64 x.state, .int .i64 x.owner, .int .i64 x.born], rB b3 24 (cL c), rS ra rc 1 (zs.map intRow)]) () H.out ?_ (steps_al ?_) ?_ ?_
  · exact fun _ _ _ _ _ h => h
  · refine al_cons ?_ (al_nil)
    · intro LL xx ac wc sg hst hwant QQ hgo
      exact op_val hwant hgo hst _ (exec_assign rfl rfl) rfl
  · exact skips [] (by kernel_rfl) (fun _ h => by cases h)
  · intro xx ac1 wz hfr hsl hst
    exact hfin ac1 wz (hfr.size.trans hz) hfr.defers (fr_keep hfr [9] (by kernel_rfl)) (hsl 0 (by decide)) (Lib.hid hst)
set_option maxRecDepth 20000 in
theorem goes_w_r7 (c : Cfg) (x : CallV) (ra : Option Addr) (rc : Nat) (zs : List Int) (b3 : Nat) (b4 : Nat) (b7 : Nat) {wa wb : World} (H : Hid (Hp [] wa wb [rB b7 26 [.int .i64 (((newV c x 1 2 3).1).id), .int .i64 (((newV c x 1 2 3).1).kind), .int .i64 (((newV c x 1 2 3).1).src), .int .i64 (((newV c x 1 2 3).1).dst), .int .i64 (((newV c x 1 2 3).1).car), .int .i64 (((newV c x 1 2 3).1).state), .int .i64 (((newV c x 1 2 3).1).owner), .int .i64 (((newV c x 1 2 3).1).born)], rB b4 26 [.int .i64 x.id, .int .i64 x.kind, .int .i64 x.src, .int .i64 x.dst, .int .i64 x.car, .int .i64 x.state, .int .i64 x.owner, .int .i64 x.born], rB b3 24 (cL c), rS ra rc 1 (zs.map intRow)])) (ac0 : Act) (hz : ac0.tmps.size = 203)  {QR : Exit → Act → World → Prop} (hfin : ∀ (ac1 : Act) (wz : World), ac1.tmps.size = 203 → ac1.defers = ac0.defers → (∀ t, ([10] : List Nat).contains t = false → ac1.eval (.tmp t) = ac0.eval (.tmp t)) → ac1.eval (.tmp 10) = .int .i64 0 →  Hid (Hp [] wa wz [rB b7 26 [.int .i64 (((newV c x 1 2 3).1).id), .int .i64 (((newV c x 1 2 3).1).kind), .int .i64 (((newV c x 1 2 3).1).src), .int .i64 (((newV c x 1 2 3).1).dst), .int .i64 (((newV c x 1 2 3).1).car), .int .i64 (((newV c x 1 2 3).1).state), .int .i64 (((newV c x 1 2 3).1).owner), .int .i64 (((newV c x 1 2 3).1).born)], rB b4 26 [.int .i64 x.id, .int .i64 x.kind, .int .i64 x.src, .int .i64 x.dst, .int .i64 x.car, .int .i64 x.state, .int .i64 x.owner, .int .i64 x.born], rB b3 24 (cL c), rS ra rc 1 (zs.map intRow)]) → QR .normal ac1 wz) : (regAt Try.f3 7).wp Try.prog QR ac0 wb := by
  refine wp_region_sq (by kernel_rfl) 203 hz (by kernel_rfl) (fun (xx : Unit) jx => nth [.int .i64 0] jx) (fun (LL : Nat → Bool) (xx : Unit) ww => Hp [] wa ww [rB b7 26 [.int .i64 (((newV c x 1 2 3).1).id), .int .i64 (((newV c x 1 2 3).1).kind), .int .i64 (((newV c x 1 2 3).1).src), .int .i64 (((newV c x 1 2 3).1).dst), .int .i64 (((newV c x 1 2 3).1).car), .int .i64 (((newV c x 1 2 3).1).state), .int .i64 (((newV c x 1 2 3).1).owner), .int .i64 (((newV c x 1 2 3).1).born)], rB b4 26 [.int .i64 x.id, .int .i64 x.kind, .int .i64 x.src, .int .i64 x.dst, .int .i64 x.car, .int .i64 x.state, .int .i64 x.owner, .int .i64 x.born], rB b3 24 (cL c), rS ra rc 1 (zs.map intRow)]) () H.out ?_ (steps_al ?_) ?_ ?_
  · exact fun _ _ _ _ _ h => h
  · refine al_cons ?_ (al_nil)
    · intro LL xx ac wc sg hst hwant QQ hgo
      exact op_val hwant hgo hst _ (exec_assign rfl rfl) rfl
  · exact skips [] (by kernel_rfl) (fun _ h => by cases h)
  · intro xx ac1 wz hfr hsl hst
    exact hfin ac1 wz (hfr.size.trans hz) hfr.defers (fr_keep hfr [10] (by kernel_rfl)) (hsl 0 (by decide)) (Lib.hid hst)
set_option maxRecDepth 20000 in
theorem goes_w_r8 (c : Cfg) (x : CallV) (ra : Option Addr) (rc : Nat) (zs : List Int) (b3 : Nat) (b4 : Nat) (b7 : Nat) (i : Nat) (y : CallV) (hi : i ≤ zs.length) (hi2 : i ≤ 60) {wa wb : World} (H : Hid (Hp [] wa wb [rB b7 26 [.int .i64 y.id, .int .i64 y.kind, .int .i64 y.src, .int .i64 y.dst, .int .i64 y.car, .int .i64 y.state, .int .i64 y.owner, .int .i64 y.born], rB b4 26 [.int .i64 x.id, .int .i64 x.kind, .int .i64 x.src, .int .i64 x.dst, .int .i64 x.car, .int .i64 x.state, .int .i64 x.owner, .int .i64 x.born], rB b3 24 (cL c), rS ra rc 1 (zs.map intRow)])) (ac0 : Act) (hz : ac0.tmps.size = 203) (so2 : ac0.eval (.tmp 2) = .slice ra zs.length rc) (so10 : ac0.eval (.tmp 10) = .int .i64 i) {QR : Exit → Act → World → Prop} (hfin : ∀ (ac1 : Act) (wz : World), ac1.tmps.size = 203 → ac1.defers = ac0.defers → (∀ t, ([25, 26, 27, 28, 29, 30, 31, 32] : List Nat).contains t = false → ac1.eval (.tmp t) = ac0.eval (.tmp t)) → ac1.eval (.tmp 32) = .bool ((decide (i < zs.length)) && (decide ((i : Int) < 60))) →  Hid (Hp [] wa wz [rB b7 26 [.int .i64 y.id, .int .i64 y.kind, .int .i64 y.src, .int .i64 y.dst, .int .i64 y.car, .int .i64 y.state, .int .i64 y.owner, .int .i64 y.born], rB b4 26 [.int .i64 x.id, .int .i64 x.kind, .int .i64 x.src, .int .i64 x.dst, .int .i64 x.car, .int .i64 x.state, .int .i64 x.owner, .int .i64 x.born], rB b3 24 (cL c), rS ra rc 1 (zs.map intRow)]) → QR .normal ac1 wz) : (regAt Try.f3 8).wp Try.prog QR ac0 wb := by
  refine wp_region_sq (by kernel_rfl) 203 hz (by kernel_rfl) (fun (xx : Unit) jx => nth [.int .i64 i, .slice ra zs.length rc, .int .i64 zs.length, .bool (decide (i < zs.length)), .bool (decide (i < zs.length)), bif (decide (i < zs.length)) then .int .i64 i else undef, bif (decide (i < zs.length)) then .bool (decide ((i : Int) < 60)) else undef, .bool ((decide (i < zs.length)) && (decide ((i : Int) < 60)))] jx) (fun (LL : Nat → Bool) (xx : Unit) ww => Hp [] wa ww [rB b7 26 [.int .i64 y.id, .int .i64 y.kind, .int .i64 y.src, .int .i64 y.dst, .int .i64 y.car, .int .i64 y.state, .int .i64 y.owner, .int .i64 y.born], rB b4 26 [.int .i64 x.id, .int .i64 x.kind, .int .i64 x.src, .int .i64 x.dst, .int .i64 x.car, .int .i64 x.state, .int .i64 x.owner, .int .i64 x.born], rB b3 24 (cL c), rS ra rc 1 (zs.map intRow)]) () H.out ?_ (steps_al ?_) ?_ ?_
  · exact fun _ _ _ _ _ h => h
  · refine al_cons ?_ (al_cons ?_ (al_cons ?_ (al_cons ?_ (al_cons ?_ (al_cons ?_ (al_cons ?_ (al_cons ?_ (al_nil))))))))
    · intro LL xx ac wc sg hst hwant QQ hgo
      exact op_val hwant hgo hst _ (exec_move rfl ((sg.free 10 (by kernel_rfl)).trans so10)) rfl
    · intro LL xx ac wc sg hst hwant QQ hgo
      exact op_val hwant hgo hst _ (exec_move rfl ((sg.free 2 (by kernel_rfl)).trans so2)) rfl
    · intro LL xx ac wc sg hst hwant QQ hgo
      have se26 : ac.eval (.tmp 26) = _ := (sg.slot 1 (sg.anc 1 rfl))
      have sg26 := gt_of se26
      (try simp only [nth] at se26 sg26)
      exact op_val hwant hgo hst _ (by simp only [execOp, nth]; go_simp <;> omega) rfl
    · intro LL xx ac wc sg hst hwant QQ hgo
      have se25 : ac.eval (.tmp 25) = _ := (sg.slot 0 (sg.anc 0 rfl))
      have sg25 := gt_of se25
      have se27 : ac.eval (.tmp 27) = _ := (sg.slot 2 (sg.anc 2 rfl))
      have sg27 := gt_of se27
      (try simp only [nth] at se25 sg25 se27 sg27)
      exact op_val hwant hgo hst _ (by simp only [execOp, nth]; go_simp <;> omega) rfl
    · intro LL xx ac wc sg hst hwant QQ hgo
      exact op_val hwant hgo hst _ (exec_move rfl (sg.slot 3 (sg.anc 3 rfl))) rfl
    · intro LL xx ac wc sg hst hwant QQ hgo
      have hG : (decide (i < zs.length)) = true := (want_t rfl rfl (sg.slot 4 (sg.anc 4 rfl))).symm.trans hwant
      exact op_val hwant hgo hst _ (exec_move rfl ((sg.free 10 (by kernel_rfl)).trans so10)) (cI hG)
    · intro LL xx ac wc sg hst hwant QQ hgo
      have hG : (decide (i < zs.length)) = true := (want_t rfl rfl (sg.slot 4 (sg.anc 4 rfl))).symm.trans hwant
      have se30 : ac.eval (.tmp 30) = _ := (cT (sg.slot 5 (sg.anc 5 rfl)) hG)
      have sg30 := gt_of se30
      (try simp only [nth] at se30 sg30)
      exact op_val hwant hgo hst _ (by simp only [execOp, nth]; go_simp <;> omega) (cI hG)
    · intro LL xx ac wc sg hst hwant QQ hgo
      exact op_val hwant hgo hst (.bool ((decide (i < zs.length)) && (decide ((i : Int) < 60)))) (exec_and (Y := decide ((i : Int) < 60)) rfl (sg.slot 4 (sg.anc 4 rfl)) (fun qq => cT (sg.slot 6 (sg.anc 6 rfl)) qq)) rfl
  · refine skips [5, 6] (by kernel_rfl) ?_
    refine List.forall_mem_cons.2 ⟨?_, List.forall_mem_cons.2 ⟨?_, fun _ h => by cases h⟩⟩
    · intro oo hop LL xx ac sg hwant
      cases Option.some.inj hop
      have hG : (decide (i < zs.length)) = false := (want_t rfl rfl (sg.slot 4 (sg.anc 4 rfl))).symm.trans hwant
      exact ⟨cF hG, fun _ h => h⟩
    · intro oo hop LL xx ac sg hwant
      cases Option.some.inj hop
      have hG : (decide (i < zs.length)) = false := (want_t rfl rfl (sg.slot 4 (sg.anc 4 rfl))).symm.trans hwant
      exact ⟨cF hG, fun _ h => h⟩
  · intro xx ac1 wz hfr hsl hst
    exact hfin ac1 wz (hfr.size.trans hz) hfr.defers (fr_keep hfr [25, 26, 27, 28, 29, 30, 31, 32] (by kernel_rfl)) (hsl 7 (by decide)) (Lib.hid hst)
set_option maxRecDepth 20000 in
theorem goes_w_r10 (c : Cfg) (x : CallV) (rc : Nat) (zs : List Int) (b3 : Nat) (b4 : Nat) (b7 : Nat) (i : Nat) (y : CallV) (hi : i ≤ zs.length) (hi2 : i ≤ 60) (z2ld : i < zs.length) (z2rd : (i : Int) < 60) (ya : Addr) (d : Int) (HRd : Hid ((zs.map intRow)[i]? = some [.int .i64 d])) (m : Nat) (hm1 : m ≤ 63) (hm : IntKind.i64.wrap ((IntKind.u64.wrap d).tmod 64) = (m : Int)) (r : Nat) (q : Nat) (p : Nat) (hr6 : r < 6) (hq11 : q < 11) (hp4 : p < 4) (hr : (m : Int).tmod 6 = (r : Int)) (hq : IntKind.i64.wrap ((m : Int).tdiv 6) = (q : Int)) (hp : (q : Int).tmod 4 = (p : Int)) (hq2 : IntKind.i64.wrap ((m : Int) / 6) = (q : Int)) {wa wb : World} (H : Hid (Hp [] wa wb [rB b7 26 [.int .i64 y.id, .int .i64 y.kind, .int .i64 y.src, .int .i64 y.dst, .int .i64 y.car, .int .i64 y.state, .int .i64 y.owner, .int .i64 y.born], rB b4 26 [.int .i64 x.id, .int .i64 x.kind, .int .i64 x.src, .int .i64 x.dst, .int .i64 x.car, .int .i64 x.state, .int .i64 x.owner, .int .i64 x.born], rB b3 24 (cL c), rS (some ya) rc 1 (zs.map intRow)])) (ac0 : Act) (hz : ac0.tmps.size = 203) (so2 : ac0.eval (.tmp 2) = .slice (some ya) zs.length rc) (so10 : ac0.eval (.tmp 10) = .int .i64 i) {QR : Exit → Act → World → Prop} (hfin : ∀ (ac1 : Act) (wz : World), ac1.tmps.size = 203 → ac1.defers = ac0.defers → (∀ t, ([11, 35, 36, 37, 38, 39, 40, 41] : List Nat).contains t = false → ac1.eval (.tmp t) = ac0.eval (.tmp t)) → ac1.eval (.tmp 11) = .int .i64 m →  Hid (Hp [] wa wz [rB b7 26 [.int .i64 y.id, .int .i64 y.kind, .int .i64 y.src, .int .i64 y.dst, .int .i64 y.car, .int .i64 y.state, .int .i64 y.owner, .int .i64 y.born], rB b4 26 [.int .i64 x.id, .int .i64 x.kind, .int .i64 x.src, .int .i64 x.dst, .int .i64 x.car, .int .i64 x.state, .int .i64 x.owner, .int .i64 x.born], rB b3 24 (cL c), rS (some ya) rc 1 (zs.map intRow)]) → QR .normal ac1 wz) : (regAt Try.f3 10).wp Try.prog QR ac0 wb := by
  refine wp_region_sq (by kernel_rfl) 203 hz (by kernel_rfl) (fun (xx : Unit) jx => nth [.slice (some ya) zs.length rc, .int .i64 i, .pointer (some (ya.add i)), .int .i64 d, .int .u64 (IntKind.u64.wrap d), .int .u64 ((IntKind.u64.wrap d).tmod 64), .int .i64 m, .int .i64 m] jx) (fun (LL : Nat → Bool) (xx : Unit) ww => Hp [] wa ww [rB b7 26 [.int .i64 y.id, .int .i64 y.kind, .int .i64 y.src, .int .i64 y.dst, .int .i64 y.car, .int .i64 y.state, .int .i64 y.owner, .int .i64 y.born], rB b4 26 [.int .i64 x.id, .int .i64 x.kind, .int .i64 x.src, .int .i64 x.dst, .int .i64 x.car, .int .i64 x.state, .int .i64 x.owner, .int .i64 x.born], rB b3 24 (cL c), rS (some ya) rc 1 (zs.map intRow)]) () H.out ?_ (steps_al ?_) ?_ ?_
  · exact fun _ _ _ _ _ h => h
  · refine al_cons ?_ (al_cons ?_ (al_cons ?_ (al_cons ?_ (al_cons ?_ (al_cons ?_ (al_cons ?_ (al_cons ?_ (al_nil))))))))
    · intro LL xx ac wc sg hst hwant QQ hgo
      exact op_val hwant hgo hst _ (exec_move rfl ((sg.free 2 (by kernel_rfl)).trans so2)) rfl
    · intro LL xx ac wc sg hst hwant QQ hgo
      exact op_val hwant hgo hst _ (exec_move rfl ((sg.free 10 (by kernel_rfl)).trans so10)) rfl
    · intro LL xx ac wc sg hst hwant QQ hgo
      have se35 : ac.eval (.tmp 35) = _ := (sg.slot 0 (sg.anc 0 rfl))
      have sg35 := gt_of se35
      have se36 : ac.eval (.tmp 36) = _ := (sg.slot 1 (sg.anc 1 rfl))
      have sg36 := gt_of se36
      (try simp only [nth] at se35 sg35 se36 sg36)
      exact op_val hwant hgo hst _ (by simp only [execOp, nth]; go_simp <;> omega) rfl
    · intro LL xx ac wc sg hst hwant QQ hgo
      have H := Lib.hid hst
      refine hpS_load1 0 tyint H (y := ya) rfl (sg.slot 2 (sg.anc 2 rfl)) hwant (by (repeat (first | exact List.Mem.head _ | apply List.Mem.tail))) HRd.out (by rfl) (by simp [Addr.add]) ?_
      exact hgo _ () _ (fun _ _ => rfl) rfl hst
    · intro LL xx ac wc sg hst hwant QQ hgo
      have se38 : ac.eval (.tmp 38) = _ := (sg.slot 3 (sg.anc 3 rfl))
      have sg38 := gt_of se38
      (try simp only [nth] at se38 sg38)
      exact op_val hwant hgo hst _ (by simp only [execOp, nth]; go_simp <;> omega) rfl
    · intro LL xx ac wc sg hst hwant QQ hgo
      have se39 : ac.eval (.tmp 39) = _ := (sg.slot 4 (sg.anc 4 rfl))
      have sg39 := gt_of se39
      (try simp only [nth] at se39 sg39)
      exact op_val hwant hgo hst _ (by simp only [execOp, nth]; go_simp <;> omega) rfl
    · intro LL xx ac wc sg hst hwant QQ hgo
      have se40 : ac.eval (.tmp 40) = _ := (sg.slot 5 (sg.anc 5 rfl))
      have sg40 := gt_of se40
      (try simp only [nth] at se40 sg40)
      exact op_val hwant hgo hst _ (by simp only [execOp, nth]; go_simp <;> omega) rfl
    · intro LL xx ac wc sg hst hwant QQ hgo
      exact op_val hwant hgo hst _ (exec_assign rfl (sg.slot 6 (sg.anc 6 rfl))) rfl
  · exact skips [] (by kernel_rfl) (fun _ h => by cases h)
  · intro xx ac1 wz hfr hsl hst
    exact hfin ac1 wz (hfr.size.trans hz) hfr.defers (fr_keep hfr [11, 35, 36, 37, 38, 39, 40, 41] (by kernel_rfl)) (hsl 7 (by decide)) (Lib.hid hst)
set_option maxRecDepth 20000 in
theorem goes_w_r11 (c : Cfg) (x : CallV) (rc : Nat) (zs : List Int) (b3 : Nat) (b4 : Nat) (b7 : Nat) (i : Nat) (y : CallV) (hi : i ≤ zs.length) (hi2 : i ≤ 60) (z2ld : i < zs.length) (z2rd : (i : Int) < 60) (ya : Addr) (d : Int) (m : Nat) (hm1 : m ≤ 63) (hm : IntKind.i64.wrap ((IntKind.u64.wrap d).tmod 64) = (m : Int)) (r : Nat) (q : Nat) (p : Nat) (hr6 : r < 6) (hq11 : q < 11) (hp4 : p < 4) (hr : (m : Int).tmod 6 = (r : Int)) (hq : IntKind.i64.wrap ((m : Int).tdiv 6) = (q : Int)) (hp : (q : Int).tmod 4 = (p : Int)) (hq2 : IntKind.i64.wrap ((m : Int) / 6) = (q : Int)) {wa wb : World} (H : Hid (Hp [] wa wb [rB b7 26 [.int .i64 y.id, .int .i64 y.kind, .int .i64 y.src, .int .i64 y.dst, .int .i64 y.car, .int .i64 y.state, .int .i64 y.owner, .int .i64 y.born], rB b4 26 [.int .i64 x.id, .int .i64 x.kind, .int .i64 x.src, .int .i64 x.dst, .int .i64 x.car, .int .i64 x.state, .int .i64 x.owner, .int .i64 x.born], rB b3 24 (cL c), rS (some ya) rc 1 (zs.map intRow)])) (ac0 : Act) (hz : ac0.tmps.size = 203) (so7 : ac0.eval (.tmp 7) = .pointer (some ⟨b7, 0, none⟩)) {QR : Exit → Act → World → Prop} (hfin : ∀ (b12 : Nat) (ac1 : Act) (wz : World), ac1.tmps.size = 203 → ac1.defers = ac0.defers → (∀ t, ([12, 42] : List Nat).contains t = false → ac1.eval (.tmp t) = ac0.eval (.tmp t)) → ac1.eval (.tmp 12) = .pointer (some ⟨b12, 0, none⟩) →  Hid (Hp [] wa wz [rB b12 26 [.int .i64 y.id, .int .i64 y.kind, .int .i64 y.src, .int .i64 y.dst, .int .i64 y.car, .int .i64 y.state, .int .i64 y.owner, .int .i64 y.born], rB b7 26 [.int .i64 y.id, .int .i64 y.kind, .int .i64 y.src, .int .i64 y.dst, .int .i64 y.car, .int .i64 y.state, .int .i64 y.owner, .int .i64 y.born], rB b4 26 [.int .i64 x.id, .int .i64 x.kind, .int .i64 x.src, .int .i64 x.dst, .int .i64 x.car, .int .i64 x.state, .int .i64 x.owner, .int .i64 x.born], rB b3 24 (cL c), rS (some ya) rc 1 (zs.map intRow)]) → QR .normal ac1 wz) : (regAt Try.f3 11).wp Try.prog QR ac0 wb := by
  refine wp_region_sq (by kernel_rfl) 203 hz (by kernel_rfl) (fun (xx : Nat) jx => match xx with | b12 => nth [.agg #[.int .i64 y.id, .int .i64 y.kind, .int .i64 y.src, .int .i64 y.dst, .int .i64 y.car, .int .i64 y.state, .int .i64 y.owner, .int .i64 y.born], .pointer (some ⟨b12, 0, none⟩), undef] jx) (fun (LL : Nat → Bool) (xx : Nat) ww => match xx with | b12 => Hp [] wa ww (bif LL 2 then [rB b12 26 [.int .i64 y.id, .int .i64 y.kind, .int .i64 y.src, .int .i64 y.dst, .int .i64 y.car, .int .i64 y.state, .int .i64 y.owner, .int .i64 y.born], rB b7 26 [.int .i64 y.id, .int .i64 y.kind, .int .i64 y.src, .int .i64 y.dst, .int .i64 y.car, .int .i64 y.state, .int .i64 y.owner, .int .i64 y.born], rB b4 26 [.int .i64 x.id, .int .i64 x.kind, .int .i64 x.src, .int .i64 x.dst, .int .i64 x.car, .int .i64 x.state, .int .i64 x.owner, .int .i64 x.born], rB b3 24 (cL c), rS (some ya) rc 1 (zs.map intRow)] else (bif LL 1 then [rB b12 26 [.int .i64 0, .int .i64 0, .int .i64 0, .int .i64 0, .int .i64 0, .int .i64 0, .int .i64 0, .int .i64 0], rB b7 26 [.int .i64 y.id, .int .i64 y.kind, .int .i64 y.src, .int .i64 y.dst, .int .i64 y.car, .int .i64 y.state, .int .i64 y.owner, .int .i64 y.born], rB b4 26 [.int .i64 x.id, .int .i64 x.kind, .int .i64 x.src, .int .i64 x.dst, .int .i64 x.car, .int .i64 x.state, .int .i64 x.owner, .int .i64 x.born], rB b3 24 (cL c), rS (some ya) rc 1 (zs.map intRow)] else [rB b7 26 [.int .i64 y.id, .int .i64 y.kind, .int .i64 y.src, .int .i64 y.dst, .int .i64 y.car, .int .i64 y.state, .int .i64 y.owner, .int .i64 y.born], rB b4 26 [.int .i64 x.id, .int .i64 x.kind, .int .i64 x.src, .int .i64 x.dst, .int .i64 x.car, .int .i64 x.state, .int .i64 x.owner, .int .i64 x.born], rB b3 24 (cL c), rS (some ya) rc 1 (zs.map intRow)]))) default H.out ?_ (steps_al ?_) ?_ ?_
  · intro L1 L2 xx ww hL sg
    have lh1 := hL 1 (by decide)
    have lh2 := hL 2 (by decide)
    simp only [lh1, lh2] at sg
    exact sg
  · refine al_cons ?_ (al_cons ?_ (al_cons ?_ (al_nil)))
    · intro LL xx ac wc sg hst hwant QQ hgo
      revert sg hst hgo; revert xx; intro b12 sg hst hgo
      have H := Lib.hid hst
      simp only [sg.des 1 rfl, sg.des 2 rfl, cond_true, cond_false] at H
      refine hpA_load tyapi_Call H rfl ((sg.free 7 (by kernel_rfl)).trans so7) hwant (by (repeat (first | exact List.Mem.head _ | apply List.Mem.tail))) (by rfl) rfl ?_
      exact hgo _ b12 _ (fun _ _ => rfl) rfl hst
    · intro LL xx ac wc sg hst hwant QQ hgo
      revert sg hst hgo; revert xx; intro xold sg hst hgo
      have H := Lib.hid hst
      simp only [sg.self, sg.des 2 rfl, cond_true, cond_false] at H
      refine hpA_alloc tyapi_Call H rfl rfl ?_
      intro wd b12 H2
      exact hgo _ b12 _ (sg.agree (x' := b12) (n := 3) rfl (by (iterate 3 (refine ix_cons (by first | exact fun _ => rfl | exact no sg.self | exact no (sg.des _ rfl)) ?_)); exact ix_nil)) rfl (by simp only [(show upd LL 1 1 = true from rfl), (show upd LL 1 2 = LL 2 from rfl), sg.des 2 rfl, cond_true, cond_false]; exact H2.out)
    · intro LL xx ac wc sg hst hwant QQ hgo
      revert sg hst hgo; revert xx; intro b12 sg hst hgo
      have H := Lib.hid hst
      simp only [sg.anc 1 rfl, sg.self, cond_true, cond_false] at H
      refine hpA_store tyapi_Call H rfl rfl (sg.slot 1 (sg.anc 1 rfl)) (sg.slot 0 (sg.anc 0 rfl)) rfl (by repeat (first | apply Put.head | apply Put.tail)) (by simp [cA, cL]) (by simp [cA, cL, Value.oneCell']) (by first | rfl | (simp only [spl]; rfl)) rfl ?_
      intro wd H2
      exact hgo _ b12 _ (sg.agree (x' := b12) (n := 3) rfl (by (iterate 3 (refine ix_cons (by first | exact fun _ => rfl | exact no sg.self | exact no (sg.des _ rfl)) ?_)); exact ix_nil)) rfl (by simp only [(show upd LL 2 1 = LL 1 from rfl), sg.anc 1 rfl, (show upd LL 2 2 = true from rfl), cond_true, cond_false]; exact H2.out)
  · exact skips [] (by kernel_rfl) (fun _ h => by cases h)
  · intro xx ac1 wz hfr hsl hst
    revert hsl hst; revert xx; intro b12 hsl hst
    exact hfin b12 ac1 wz (hfr.size.trans hz) hfr.defers (fr_keep hfr [12, 42] (by kernel_rfl)) (hsl 1 (by decide)) (Lib.hid hst)
set_option maxRecDepth 20000 in
theorem goes_w_r12 (c : Cfg) (x : CallV) (rc : Nat) (zs : List Int) (b3 : Nat) (b4 : Nat) (b7 : Nat) (i : Nat) (y : CallV) (hi : i ≤ zs.length) (hi2 : i ≤ 60) (z2ld : i < zs.length) (z2rd : (i : Int) < 60) (ya : Addr) (d : Int) (m : Nat) (hm1 : m ≤ 63) (hm : IntKind.i64.wrap ((IntKind.u64.wrap d).tmod 64) = (m : Int)) (r : Nat) (q : Nat) (p : Nat) (hr6 : r < 6) (hq11 : q < 11) (hp4 : p < 4) (hr : (m : Int).tmod 6 = (r : Int)) (hq : IntKind.i64.wrap ((m : Int).tdiv 6) = (q : Int)) (hp : (q : Int).tmod 4 = (p : Int)) (hq2 : IntKind.i64.wrap ((m : Int) / 6) = (q : Int)) (b12 : Nat) {wa wb : World} (H : Hid (Hp [] wa wb [rB b12 26 [.int .i64 y.id, .int .i64 y.kind, .int .i64 y.src, .int .i64 y.dst, .int .i64 y.car, .int .i64 y.state, .int .i64 y.owner, .int .i64 y.born], rB b7 26 [.int .i64 y.id, .int .i64 y.kind, .int .i64 y.src, .int .i64 y.dst, .int .i64 y.car, .int .i64 y.state, .int .i64 y.owner, .int .i64 y.born], rB b4 26 [.int .i64 x.id, .int .i64 x.kind, .int .i64 x.src, .int .i64 x.dst, .int .i64 x.car, .int .i64 x.state, .int .i64 x.owner, .int .i64 x.born], rB b3 24 (cL c), rS (some ya) rc 1 (zs.map intRow)])) (ac0 : Act) (hz : ac0.tmps.size = 203)  {QR : Exit → Act → World → Prop} (hfin : ∀ (ac1 : Act) (wz : World), ac1.tmps.size = 203 → ac1.defers = ac0.defers → (∀ t, ([13] : List Nat).contains t = false → ac1.eval (.tmp t) = ac0.eval (.tmp t)) → ac1.eval (.tmp 13) = .int .i64 0 →  Hid (Hp [] wa wz [rB b12 26 [.int .i64 y.id, .int .i64 y.kind, .int .i64 y.src, .int .i64 y.dst, .int .i64 y.car, .int .i64 y.state, .int .i64 y.owner, .int .i64 y.born], rB b7 26 [.int .i64 y.id, .int .i64 y.kind, .int .i64 y.src, .int .i64 y.dst, .int .i64 y.car, .int .i64 y.state, .int .i64 y.owner, .int .i64 y.born], rB b4 26 [.int .i64 x.id, .int .i64 x.kind, .int .i64 x.src, .int .i64 x.dst, .int .i64 x.car, .int .i64 x.state, .int .i64 x.owner, .int .i64 x.born], rB b3 24 (cL c), rS (some ya) rc 1 (zs.map intRow)]) → QR .normal ac1 wz) : (regAt Try.f3 12).wp Try.prog QR ac0 wb := by
  refine wp_region_sq (by kernel_rfl) 203 hz (by kernel_rfl) (fun (xx : Unit) jx => nth [.int .i64 0] jx) (fun (LL : Nat → Bool) (xx : Unit) ww => Hp [] wa ww [rB b12 26 [.int .i64 y.id, .int .i64 y.kind, .int .i64 y.src, .int .i64 y.dst, .int .i64 y.car, .int .i64 y.state, .int .i64 y.owner, .int .i64 y.born], rB b7 26 [.int .i64 y.id, .int .i64 y.kind, .int .i64 y.src, .int .i64 y.dst, .int .i64 y.car, .int .i64 y.state, .int .i64 y.owner, .int .i64 y.born], rB b4 26 [.int .i64 x.id, .int .i64 x.kind, .int .i64 x.src, .int .i64 x.dst, .int .i64 x.car, .int .i64 x.state, .int .i64 x.owner, .int .i64 x.born], rB b3 24 (cL c), rS (some ya) rc 1 (zs.map intRow)]) () H.out ?_ (steps_al ?_) ?_ ?_
  · exact fun _ _ _ _ _ h => h
  · refine al_cons ?_ (al_nil)
    · intro LL xx ac wc sg hst hwant QQ hgo
      exact op_val hwant hgo hst _ (exec_assign rfl rfl) rfl
  · exact skips [] (by kernel_rfl) (fun _ h => by cases h)
  · intro xx ac1 wz hfr hsl hst
    exact hfin ac1 wz (hfr.size.trans hz) hfr.defers (fr_keep hfr [13] (by kernel_rfl)) (hsl 0 (by decide)) (Lib.hid hst)
set_option maxRecDepth 20000 in
theorem goes_w_r13 (c : Cfg) (x : CallV) (rc : Nat) (zs : List Int) (b3 : Nat) (b4 : Nat) (b7 : Nat) (i : Nat) (y : CallV) (hi : i ≤ zs.length) (hi2 : i ≤ 60) (z2ld : i < zs.length) (z2rd : (i : Int) < 60) (ya : Addr) (d : Int) (m : Nat) (hm1 : m ≤ 63) (hm : IntKind.i64.wrap ((IntKind.u64.wrap d).tmod 64) = (m : Int)) (r : Nat) (q : Nat) (p : Nat) (hr6 : r < 6) (hq11 : q < 11) (hp4 : p < 4) (hr : (m : Int).tmod 6 = (r : Int)) (hq : IntKind.i64.wrap ((m : Int).tdiv 6) = (q : Int)) (hp : (q : Int).tmod 4 = (p : Int)) (hq2 : IntKind.i64.wrap ((m : Int) / 6) = (q : Int)) (b12 : Nat) {wa wb : World} (H : Hid (Hp [] wa wb [rB b12 26 [.int .i64 y.id, .int .i64 y.kind, .int .i64 y.src, .int .i64 y.dst, .int .i64 y.car, .int .i64 y.state, .int .i64 y.owner, .int .i64 y.born], rB b7 26 [.int .i64 y.id, .int .i64 y.kind, .int .i64 y.src, .int .i64 y.dst, .int .i64 y.car, .int .i64 y.state, .int .i64 y.owner, .int .i64 y.born], rB b4 26 [.int .i64 x.id, .int .i64 x.kind, .int .i64 x.src, .int .i64 x.dst, .int .i64 x.car, .int .i64 x.state, .int .i64 x.owner, .int .i64 x.born], rB b3 24 (cL c), rS (some ya) rc 1 (zs.map intRow)])) (ac0 : Act) (hz : ac0.tmps.size = 203) (so11 : ac0.eval (.tmp 11) = .int .i64 m) {QR : Exit → Act → World → Prop} (hfin : ∀ (ac1 : Act) (wz : World), ac1.tmps.size = 203 → ac1.defers = ac0.defers → (∀ t, ([43, 44] : List Nat).contains t = false → ac1.eval (.tmp t) = ac0.eval (.tmp t)) → ac1.eval (.tmp 44) = .int .i64 r →  Hid (Hp [] wa wz [rB b12 26 [.int .i64 y.id, .int .i64 y.kind, .int .i64 y.src, .int .i64 y.dst, .int .i64 y.car, .int .i64 y.state, .int .i64 y.owner, .int .i64 y.born], rB b7 26 [.int .i64 y.id, .int .i64 y.kind, .int .i64 y.src, .int .i64 y.dst, .int .i64 y.car, .int .i64 y.state, .int .i64 y.owner, .int .i64 y.born], rB b4 26 [.int .i64 x.id, .int .i64 x.kind, .int .i64 x.src, .int .i64 x.dst, .int .i64 x.car, .int .i64 x.state, .int .i64 x.owner, .int .i64 x.born], rB b3 24 (cL c), rS (some ya) rc 1 (zs.map intRow)]) → QR .normal ac1 wz) : (regAt Try.f3 13).wp Try.prog QR ac0 wb := by
  refine wp_region_sq (by kernel_rfl) 203 hz (by kernel_rfl) (fun (xx : Unit) jx => nth [.int .i64 m, .int .i64 r] jx) (fun (LL : Nat → Bool) (xx : Unit) ww => Hp [] wa ww [rB b12 26 [.int .i64 y.id, .int .i64 y.kind, .int .i64 y.src, .int .i64 y.dst, .int .i64 y.car, .int .i64 y.state, .int .i64 y.owner, .int .i64 y.born], rB b7 26 [.int .i64 y.id, .int .i64 y.kind, .int .i64 y.src, .int .i64 y.dst, .int .i64 y.car, .int .i64 y.state, .int .i64 y.owner, .int .i64 y.born], rB b4 26 [.int .i64 x.id, .int .i64 x.kind, .int .i64 x.src, .int .i64 x.dst, .int .i64 x.car, .int .i64 x.state, .int .i64 x.owner, .int .i64 x.born], rB b3 24 (cL c), rS (some ya) rc 1 (zs.map intRow)]) () H.out ?_ (steps_al ?_) ?_ ?_
  · exact fun _ _ _ _ _ h => h
  · refine al_cons ?_ (al_cons ?_ (al_nil))
    · intro LL xx ac wc sg hst hwant QQ hgo
      exact op_val hwant hgo hst _ (exec_move rfl ((sg.free 11 (by kernel_rfl)).trans so11)) rfl
    · intro LL xx ac wc sg hst hwant QQ hgo
      have se43 : ac.eval (.tmp 43) = _ := (sg.slot 0 (sg.anc 0 rfl))
      have sg43 := gt_of se43
      (try simp only [nth] at se43 sg43)
      exact op_val hwant hgo hst _ (by simp only [execOp, nth]; go_simp <;> omega) rfl
  · exact skips [] (by kernel_rfl) (fun _ h => by cases h)
  · intro xx ac1 wz hfr hsl hst
    exact hfin ac1 wz (hfr.size.trans hz) hfr.defers (fr_keep hfr [43, 44] (by kernel_rfl)) (hsl 1 (by decide)) (Lib.hid hst)
set_option maxRecDepth 20000 in
theorem goes_w_r14 (c : Cfg) (x : CallV) (rc : Nat) (zs : List Int) (b3 : Nat) (b4 : Nat) (b7 : Nat) (i : Nat) (y : CallV) (hi : i ≤ zs.length) (hi2 : i ≤ 60) (z2ld : i < zs.length) (z2rd : (i : Int) < 60) (ya : Addr) (d : Int) (m : Nat) (hm1 : m ≤ 63) (hm : IntKind.i64.wrap ((IntKind.u64.wrap d).tmod 64) = (m : Int)) (r : Nat) (q : Nat) (p : Nat) (hr6 : r < 6) (hq11 : q < 11) (hp4 : p < 4) (hr : (m : Int).tmod 6 = (r : Int)) (hq : IntKind.i64.wrap ((m : Int).tdiv 6) = (q : Int)) (hp : (q : Int).tmod 4 = (p : Int)) (hq2 : IntKind.i64.wrap ((m : Int) / 6) = (q : Int)) (b12 : Nat) {wa wb : World} (H : Hid (Hp [] wa wb [rB b12 26 [.int .i64 y.id, .int .i64 y.kind, .int .i64 y.src, .int .i64 y.dst, .int .i64 y.car, .int .i64 y.state, .int .i64 y.owner, .int .i64 y.born], rB b7 26 [.int .i64 y.id, .int .i64 y.kind, .int .i64 y.src, .int .i64 y.dst, .int .i64 y.car, .int .i64 y.state, .int .i64 y.owner, .int .i64 y.born], rB b4 26 [.int .i64 x.id, .int .i64 x.kind, .int .i64 x.src, .int .i64 x.dst, .int .i64 x.car, .int .i64 x.state, .int .i64 x.owner, .int .i64 x.born], rB b3 24 (cL c), rS (some ya) rc 1 (zs.map intRow)])) (ac0 : Act) (hz : ac0.tmps.size = 203) (so44 : ac0.eval (.tmp 44) = .int .i64 r) {QR : Exit → Act → World → Prop} (hfin : ∀ (ac1 : Act) (wz : World), ac1.tmps.size = 203 → ac1.defers = ac0.defers → (∀ t, ([45, 46] : List Nat).contains t = false → ac1.eval (.tmp t) = ac0.eval (.tmp t)) → ac1.eval (.tmp 45) = .bool ((r : Int) == 0) →  Hid (Hp [] wa wz [rB b12 26 [.int .i64 y.id, .int .i64 y.kind, .int .i64 y.src, .int .i64 y.dst, .int .i64 y.car, .int .i64 y.state, .int .i64 y.owner, .int .i64 y.born], rB b7 26 [.int .i64 y.id, .int .i64 y.kind, .int .i64 y.src, .int .i64 y.dst, .int .i64 y.car, .int .i64 y.state, .int .i64 y.owner, .int .i64 y.born], rB b4 26 [.int .i64 x.id, .int .i64 x.kind, .int .i64 x.src, .int .i64 x.dst, .int .i64 x.car, .int .i64 x.state, .int .i64 x.owner, .int .i64 x.born], rB b3 24 (cL c), rS (some ya) rc 1 (zs.map intRow)]) → QR .normal ac1 wz) : (regAt Try.f3 14).wp Try.prog QR ac0 wb := by
  refine wp_region_sq (by kernel_rfl) 203 hz (by kernel_rfl) (fun (xx : Unit) jx => nth [.bool ((r : Int) == 0), .bool ((r : Int) == 0)] jx) (fun (LL : Nat → Bool) (xx : Unit) ww => Hp [] wa ww [rB b12 26 [.int .i64 y.id, .int .i64 y.kind, .int .i64 y.src, .int .i64 y.dst, .int .i64 y.car, .int .i64 y.state, .int .i64 y.owner, .int .i64 y.born], rB b7 26 [.int .i64 y.id, .int .i64 y.kind, .int .i64 y.src, .int .i64 y.dst, .int .i64 y.car, .int .i64 y.state, .int .i64 y.owner, .int .i64 y.born], rB b4 26 [.int .i64 x.id, .int .i64 x.kind, .int .i64 x.src, .int .i64 x.dst, .int .i64 x.car, .int .i64 x.state, .int .i64 x.owner, .int .i64 x.born], rB b3 24 (cL c), rS (some ya) rc 1 (zs.map intRow)]) () H.out ?_ (steps_al ?_) ?_ ?_
  · exact fun _ _ _ _ _ h => h
  · refine al_cons ?_ (al_cons ?_ (al_nil))
    · intro LL xx ac wc sg hst hwant QQ hgo
      have se44 : ac.eval (.tmp 44) = _ := ((sg.free 44 (by kernel_rfl)).trans so44)
      have sg44 := gt_of se44
      exact op_val hwant hgo hst _ (by simp only [execOp, nth]; go_simp <;> omega) rfl
    · intro LL xx ac wc sg hst hwant QQ hgo
      exact op_val hwant hgo hst _ (exec_assign rfl (sg.slot 0 (sg.anc 0 rfl))) rfl
  · exact skips [] (by kernel_rfl) (fun _ h => by cases h)
  · intro xx ac1 wz hfr hsl hst
    exact hfin ac1 wz (hfr.size.trans hz) hfr.defers (fr_keep hfr [45, 46] (by kernel_rfl)) (hsl 1 (by decide)) (Lib.hid hst)
set_option maxRecDepth 20000 in
theorem goes_w_r26 (c : Cfg) (x : CallV) (rc : Nat) (zs : List Int) (b3 : Nat) (b4 : Nat) (b7 : Nat) (i : Nat) (y : CallV) (hi : i ≤ zs.length) (hi2 : i ≤ 60) (z2ld : i < zs.length) (z2rd : (i : Int) < 60) (ya : Addr) (d : Int) (m : Nat) (hm1 : m ≤ 63) (hm : IntKind.i64.wrap ((IntKind.u64.wrap d).tmod 64) = (m : Int)) (r : Nat) (q : Nat) (p : Nat) (hr6 : r < 6) (hq11 : q < 11) (hp4 : p < 4) (hr : (m : Int).tmod 6 = (r : Int)) (hq : IntKind.i64.wrap ((m : Int).tdiv 6) = (q : Int)) (hp : (q : Int).tmod 4 = (p : Int)) (hq2 : IntKind.i64.wrap ((m : Int) / 6) = (q : Int)) (b12 : Nat) (z : CallV) (f : Int) (hst : Hid (Stp c x y z f)) {wa wb : World} (H : Hid (Hp [] wa wb [rB b12 26 [.int .i64 z.id, .int .i64 z.kind, .int .i64 z.src, .int .i64 z.dst, .int .i64 z.car, .int .i64 z.state, .int .i64 z.owner, .int .i64 z.born], rB b7 26 [.int .i64 y.id, .int .i64 y.kind, .int .i64 y.src, .int .i64 y.dst, .int .i64 y.car, .int .i64 y.state, .int .i64 y.owner, .int .i64 y.born], rB b4 26 [.int .i64 x.id, .int .i64 x.kind, .int .i64 x.src, .int .i64 x.dst, .int .i64 x.car, .int .i64 x.state, .int .i64 x.owner, .int .i64 x.born], rB b3 24 (cL c), rS (some ya) rc 1 (zs.map intRow)])) (ac0 : Act) (hz : ac0.tmps.size = 203) (so13 : ac0.eval (.tmp 13) = .int .i64 f) {QR : Exit → Act → World → Prop} (hfin : ∀ (ac1 : Act) (wz : World), ac1.tmps.size = 203 → ac1.defers = ac0.defers → (∀ t, ([96, 97] : List Nat).contains t = false → ac1.eval (.tmp t) = ac0.eval (.tmp t)) → ac1.eval (.tmp 97) = .bool (f != 0) →  Hid (Hp [] wa wz [rB b12 26 [.int .i64 z.id, .int .i64 z.kind, .int .i64 z.src, .int .i64 z.dst, .int .i64 z.car, .int .i64 z.state, .int .i64 z.owner, .int .i64 z.born], rB b7 26 [.int .i64 y.id, .int .i64 y.kind, .int .i64 y.src, .int .i64 y.dst, .int .i64 y.car, .int .i64 y.state, .int .i64 y.owner, .int .i64 y.born], rB b4 26 [.int .i64 x.id, .int .i64 x.kind, .int .i64 x.src, .int .i64 x.dst, .int .i64 x.car, .int .i64 x.state, .int .i64 x.owner, .int .i64 x.born], rB b3 24 (cL c), rS (some ya) rc 1 (zs.map intRow)]) → QR .normal ac1 wz) : (regAt Try.f3 26).wp Try.prog QR ac0 wb := by
  refine wp_region_sq (by kernel_rfl) 203 hz (by kernel_rfl) (fun (xx : Unit) jx => nth [.int .i64 f, .bool (f != 0)] jx) (fun (LL : Nat → Bool) (xx : Unit) ww => Hp [] wa ww [rB b12 26 [.int .i64 z.id, .int .i64 z.kind, .int .i64 z.src, .int .i64 z.dst, .int .i64 z.car, .int .i64 z.state, .int .i64 z.owner, .int .i64 z.born], rB b7 26 [.int .i64 y.id, .int .i64 y.kind, .int .i64 y.src, .int .i64 y.dst, .int .i64 y.car, .int .i64 y.state, .int .i64 y.owner, .int .i64 y.born], rB b4 26 [.int .i64 x.id, .int .i64 x.kind, .int .i64 x.src, .int .i64 x.dst, .int .i64 x.car, .int .i64 x.state, .int .i64 x.owner, .int .i64 x.born], rB b3 24 (cL c), rS (some ya) rc 1 (zs.map intRow)]) () H.out ?_ (steps_al ?_) ?_ ?_
  · exact fun _ _ _ _ _ h => h
  · refine al_cons ?_ (al_cons ?_ (al_nil))
    · intro LL xx ac wc sg hst hwant QQ hgo
      exact op_val hwant hgo hst _ (exec_move rfl ((sg.free 13 (by kernel_rfl)).trans so13)) rfl
    · intro LL xx ac wc sg hst hwant QQ hgo
      have se96 : ac.eval (.tmp 96) = _ := (sg.slot 0 (sg.anc 0 rfl))
      have sg96 := gt_of se96
      (try simp only [nth] at se96 sg96)
      exact op_val hwant hgo hst _ (by simp only [execOp, nth]; go_simp <;> omega) rfl
  · exact skips [] (by kernel_rfl) (fun _ h => by cases h)
  · intro xx ac1 wz hfr hsl hst
    exact hfin ac1 wz (hfr.size.trans hz) hfr.defers (fr_keep hfr [96, 97] (by kernel_rfl)) (hsl 1 (by decide)) (Lib.hid hst)
set_option maxRecDepth 20000 in
theorem goes_w_r27 (c : Cfg) (x : CallV) (rc : Nat) (zs : List Int) (b3 : Nat) (b4 : Nat) (b7 : Nat) (i : Nat) (y : CallV) (hi : i ≤ zs.length) (hi2 : i ≤ 60) (z2ld : i < zs.length) (z2rd : (i : Int) < 60) (ya : Addr) (d : Int) (m : Nat) (hm1 : m ≤ 63) (hm : IntKind.i64.wrap ((IntKind.u64.wrap d).tmod 64) = (m : Int)) (r : Nat) (q : Nat) (p : Nat) (hr6 : r < 6) (hq11 : q < 11) (hp4 : p < 4) (hr : (m : Int).tmod 6 = (r : Int)) (hq : IntKind.i64.wrap ((m : Int).tdiv 6) = (q : Int)) (hp : (q : Int).tmod 4 = (p : Int)) (hq2 : IntKind.i64.wrap ((m : Int) / 6) = (q : Int)) (b12 : Nat) (z : CallV) (f : Int) (hst : Hid (Stp c x y z f)) (hz0 : (sameV z (⟨0, 0, 0, 0, 0, 0, 0, 0⟩ : CallV)) = true) {wa wb : World} (H : Hid (Hp [] wa wb [rB b12 26 [.int .i64 z.id, .int .i64 z.kind, .int .i64 z.src, .int .i64 z.dst, .int .i64 z.car, .int .i64 z.state, .int .i64 z.owner, .int .i64 z.born], rB b7 26 [.int .i64 y.id, .int .i64 y.kind, .int .i64 y.src, .int .i64 y.dst, .int .i64 y.car, .int .i64 y.state, .int .i64 y.owner, .int .i64 y.born], rB b4 26 [.int .i64 x.id, .int .i64 x.kind, .int .i64 x.src, .int .i64 x.dst, .int .i64 x.car, .int .i64 x.state, .int .i64 x.owner, .int .i64 x.born], rB b3 24 (cL c), rS (some ya) rc 1 (zs.map intRow)])) (ac0 : Act) (hz : ac0.tmps.size = 203) (so12 : ac0.eval (.tmp 12) = .pointer (some ⟨b12, 0, none⟩)) {QR : Exit → Act → World → Prop} (hfin : ∀ (ac1 : Act) (wz : World), ac1.tmps.size = 203 → ac1.defers = ac0.defers → (∀ t, ([98, 99, 100] : List Nat).contains t = false → ac1.eval (.tmp t) = ac0.eval (.tmp t)) → ac1.eval (.tmp 100) = .bool false →  Hid (Hp [] wa wz [rB b12 26 [.int .i64 z.id, .int .i64 z.kind, .int .i64 z.src, .int .i64 z.dst, .int .i64 z.car, .int .i64 z.state, .int .i64 z.owner, .int .i64 z.born], rB b7 26 [.int .i64 y.id, .int .i64 y.kind, .int .i64 y.src, .int .i64 y.dst, .int .i64 y.car, .int .i64 y.state, .int .i64 y.owner, .int .i64 y.born], rB b4 26 [.int .i64 x.id, .int .i64 x.kind, .int .i64 x.src, .int .i64 x.dst, .int .i64 x.car, .int .i64 x.state, .int .i64 x.owner, .int .i64 x.born], rB b3 24 (cL c), rS (some ya) rc 1 (zs.map intRow)]) → QR .normal ac1 wz) : (regAt Try.f3 27).wp Try.prog QR ac0 wb := by
  refine wp_region_sq (by kernel_rfl) 203 hz (by kernel_rfl) (fun (xx : Unit) jx => nth [.agg #[.int .i64 z.id, .int .i64 z.kind, .int .i64 z.src, .int .i64 z.dst, .int .i64 z.car, .int .i64 z.state, .int .i64 z.owner, .int .i64 z.born], .agg #[.int .i64 0, .int .i64 0, .int .i64 0, .int .i64 0, .int .i64 0, .int .i64 0, .int .i64 0, .int .i64 0], .bool false] jx) (fun (LL : Nat → Bool) (xx : Unit) ww => Hp [] wa ww [rB b12 26 [.int .i64 z.id, .int .i64 z.kind, .int .i64 z.src, .int .i64 z.dst, .int .i64 z.car, .int .i64 z.state, .int .i64 z.owner, .int .i64 z.born], rB b7 26 [.int .i64 y.id, .int .i64 y.kind, .int .i64 y.src, .int .i64 y.dst, .int .i64 y.car, .int .i64 y.state, .int .i64 y.owner, .int .i64 y.born], rB b4 26 [.int .i64 x.id, .int .i64 x.kind, .int .i64 x.src, .int .i64 x.dst, .int .i64 x.car, .int .i64 x.state, .int .i64 x.owner, .int .i64 x.born], rB b3 24 (cL c), rS (some ya) rc 1 (zs.map intRow)]) () H.out ?_ (steps_al ?_) ?_ ?_
  · exact fun _ _ _ _ _ h => h
  · refine al_cons ?_ (al_cons ?_ (al_cons ?_ (al_nil)))
    · intro LL xx ac wc sg hst hwant QQ hgo
      have H := Lib.hid hst
      refine hpA_load tyapi_Call H rfl ((sg.free 12 (by kernel_rfl)).trans so12) hwant (by (repeat (first | exact List.Mem.head _ | apply List.Mem.tail))) (by rfl) rfl ?_
      exact hgo _ () _ (fun _ _ => rfl) rfl hst
    · intro LL xx ac wc sg hst hwant QQ hgo
      exact op_val hwant hgo hst _ (by simp only [execOp, nth, cA, cL]; go_simp <;> omega) rfl
    · intro LL xx ac wc sg hst hwant QQ hgo
      exact op_val hwant hgo hst (.bool (!(sameV z (⟨0, 0, 0, 0, 0, 0, 0, 0⟩ : CallV)))) (exec_neq rfl (sg.slot 0 (sg.anc 0 rfl)) (sg.slot 1 (sg.anc 1 rfl)) (by kernel_rfl) (run_eql_call z (⟨0, 0, 0, 0, 0, 0, 0, 0⟩ : CallV) wc)) (congrArg Value.bool (by simp [hz0]))
  · exact skips [] (by kernel_rfl) (fun _ h => by cases h)
  · intro xx ac1 wz hfr hsl hst
    exact hfin ac1 wz (hfr.size.trans hz) hfr.defers (fr_keep hfr [98, 99, 100] (by kernel_rfl)) (hsl 2 (by decide)) (Lib.hid hst)
set_option maxRecDepth 20000 in
theorem goes_w_r9 (c : Cfg) (x : CallV) (rc : Nat) (zs : List Int) (b3 : Nat) (b4 : Nat) (b7 : Nat) (i : Nat) (y : CallV) (hi : i ≤ zs.length) (hi2 : i ≤ 60) (z2ld : i < zs.length) (z2rd : (i : Int) < 60) (ya : Addr) (d : Int) (m : Nat) (hm1 : m ≤ 63) (hm : IntKind.i64.wrap ((IntKind.u64.wrap d).tmod 64) = (m : Int)) (r : Nat) (q : Nat) (p : Nat) (hr6 : r < 6) (hq11 : q < 11) (hp4 : p < 4) (hr : (m : Int).tmod 6 = (r : Int)) (hq : IntKind.i64.wrap ((m : Int).tdiv 6) = (q : Int)) (hp : (q : Int).tmod 4 = (p : Int)) (hq2 : IntKind.i64.wrap ((m : Int) / 6) = (q : Int)) (b12 : Nat) (z : CallV) (f : Int) (hst : Hid (Stp c x y z f)) (hz0 : (sameV z (⟨0, 0, 0, 0, 0, 0, 0, 0⟩ : CallV)) = true) {wa wb : World} (H : Hid (Hp [] wa wb [rB b12 26 [.int .i64 z.id, .int .i64 z.kind, .int .i64 z.src, .int .i64 z.dst, .int .i64 z.car, .int .i64 z.state, .int .i64 z.owner, .int .i64 z.born], rB b7 26 [.int .i64 y.id, .int .i64 y.kind, .int .i64 y.src, .int .i64 y.dst, .int .i64 y.car, .int .i64 y.state, .int .i64 y.owner, .int .i64 y.born], rB b4 26 [.int .i64 x.id, .int .i64 x.kind, .int .i64 x.src, .int .i64 x.dst, .int .i64 x.car, .int .i64 x.state, .int .i64 x.owner, .int .i64 x.born], rB b3 24 (cL c), rS (some ya) rc 1 (zs.map intRow)])) (ac0 : Act) (hz : ac0.tmps.size = 203) (so10 : ac0.eval (.tmp 10) = .int .i64 i) {QR : Exit → Act → World → Prop} (hfin : ∀ (ac1 : Act) (wz : World), ac1.tmps.size = 203 → ac1.defers = ac0.defers → (∀ t, ([10, 33, 34] : List Nat).contains t = false → ac1.eval (.tmp t) = ac0.eval (.tmp t)) → ac1.eval (.tmp 10) = .int .i64 (i + 1) →  Hid (Hp [] wa wz [rB b12 26 [.int .i64 z.id, .int .i64 z.kind, .int .i64 z.src, .int .i64 z.dst, .int .i64 z.car, .int .i64 z.state, .int .i64 z.owner, .int .i64 z.born], rB b7 26 [.int .i64 y.id, .int .i64 y.kind, .int .i64 y.src, .int .i64 y.dst, .int .i64 y.car, .int .i64 y.state, .int .i64 y.owner, .int .i64 y.born], rB b4 26 [.int .i64 x.id, .int .i64 x.kind, .int .i64 x.src, .int .i64 x.dst, .int .i64 x.car, .int .i64 x.state, .int .i64 x.owner, .int .i64 x.born], rB b3 24 (cL c), rS (some ya) rc 1 (zs.map intRow)]) → QR .normal ac1 wz) : (regAt Try.f3 9).wp Try.prog QR ac0 wb := by
  refine wp_region_sq (by kernel_rfl) 203 hz (by kernel_rfl) (fun (xx : Unit) jx => nth [.int .i64 i, .int .i64 (i + 1), .int .i64 (i + 1)] jx) (fun (LL : Nat → Bool) (xx : Unit) ww => Hp [] wa ww [rB b12 26 [.int .i64 z.id, .int .i64 z.kind, .int .i64 z.src, .int .i64 z.dst, .int .i64 z.car, .int .i64 z.state, .int .i64 z.owner, .int .i64 z.born], rB b7 26 [.int .i64 y.id, .int .i64 y.kind, .int .i64 y.src, .int .i64 y.dst, .int .i64 y.car, .int .i64 y.state, .int .i64 y.owner, .int .i64 y.born], rB b4 26 [.int .i64 x.id, .int .i64 x.kind, .int .i64 x.src, .int .i64 x.dst, .int .i64 x.car, .int .i64 x.state, .int .i64 x.owner, .int .i64 x.born], rB b3 24 (cL c), rS (some ya) rc 1 (zs.map intRow)]) () H.out ?_ (steps_al ?_) ?_ ?_
  · exact fun _ _ _ _ _ h => h
  · refine al_cons ?_ (al_cons ?_ (al_cons ?_ (al_nil)))
    · intro LL xx ac wc sg hst hwant QQ hgo
      exact op_val hwant hgo hst _ (exec_move rfl ((sg.yet 10 2 (sg.des 2 rfl) (by kernel_rfl)).trans so10)) rfl
    · intro LL xx ac wc sg hst hwant QQ hgo
      have se33 : ac.eval (.tmp 33) = _ := (sg.slot 0 (sg.anc 0 rfl))
      have sg33 := gt_of se33
      (try simp only [nth] at se33 sg33)
      have hnw : IntKind.i64.wrap (i + 1 : Int) = i + 1 := IntWalk.i64_in _ (by omega)
      exact op_val hwant hgo hst _ (by simp only [execOp, nth]; go_simp <;> omega) rfl
    · intro LL xx ac wc sg hst hwant QQ hgo
      exact op_val hwant hgo hst _ (exec_assign rfl (sg.slot 1 (sg.anc 1 rfl))) rfl
  · exact skips [] (by kernel_rfl) (fun _ h => by cases h)
  · intro xx ac1 wz hfr hsl hst
    exact hfin ac1 wz (hfr.size.trans hz) hfr.defers (fr_keep hfr [10, 33, 34] (by kernel_rfl)) (hsl 2 (by decide)) (Lib.hid hst)
set_option maxRecDepth 20000 in
theorem goes_w_r29 (c : Cfg) (x : CallV) (rc : Nat) (zs : List Int) (b3 : Nat) (b4 : Nat) (b7 : Nat) (i : Nat) (y : CallV) (hi : i ≤ zs.length) (hi2 : i ≤ 60) (z2ld : i < zs.length) (z2rd : (i : Int) < 60) (ya : Addr) (d : Int) (m : Nat) (hm1 : m ≤ 63) (hm : IntKind.i64.wrap ((IntKind.u64.wrap d).tmod 64) = (m : Int)) (r : Nat) (q : Nat) (p : Nat) (hr6 : r < 6) (hq11 : q < 11) (hp4 : p < 4) (hr : (m : Int).tmod 6 = (r : Int)) (hq : IntKind.i64.wrap ((m : Int).tdiv 6) = (q : Int)) (hp : (q : Int).tmod 4 = (p : Int)) (hq2 : IntKind.i64.wrap ((m : Int) / 6) = (q : Int)) (b12 : Nat) (z : CallV) (f : Int) (hl : (livesV y) = true) (hmy : (mayV c y z) = true) (i1 : (z.id != 1) = false) (i2 : (z.kind != x.kind) = false) (i3 : (z.owner != 2) = false) (i4 : (z.born != 3) = false) (i5 : (z.dst != x.dst) = false) (g1 : (decide (goalV z < 1)) = false) (g2 : (decide (c.floors < goalV z)) = false) (hlv : ((livesV z) == (((z.state == 4) || (z.state == 5)) || (z.state == 6))) = false) (hcr : ((((z.state == 2) || (z.state == 3)) && ((decide (z.car < 1)) || (decide (c.cars < z.car)))) || (((z.state == 1) && (z.kind != 3)) && (z.car != 0))) = false) {wa wb : World} (H : Hid (Hp [] wa wb [rB b12 26 [.int .i64 z.id, .int .i64 z.kind, .int .i64 z.src, .int .i64 z.dst, .int .i64 z.car, .int .i64 z.state, .int .i64 z.owner, .int .i64 z.born], rB b7 26 [.int .i64 y.id, .int .i64 y.kind, .int .i64 y.src, .int .i64 y.dst, .int .i64 y.car, .int .i64 y.state, .int .i64 y.owner, .int .i64 y.born], rB b4 26 [.int .i64 x.id, .int .i64 x.kind, .int .i64 x.src, .int .i64 x.dst, .int .i64 x.car, .int .i64 x.state, .int .i64 x.owner, .int .i64 x.born], rB b3 24 (cL c), rS (some ya) rc 1 (zs.map intRow)])) (ac0 : Act) (hz : ac0.tmps.size = 203) (so3 : ac0.eval (.tmp 3) = .pointer (some ⟨b3, 0, none⟩)) (so4 : ac0.eval (.tmp 4) = .pointer (some ⟨b4, 0, none⟩)) (so7 : ac0.eval (.tmp 7) = .pointer (some ⟨b7, 0, none⟩)) (so9 : ac0.eval (.tmp 9) = .bool false) (so12 : ac0.eval (.tmp 12) = .pointer (some ⟨b12, 0, none⟩)) {QR : Exit → Act → World → Prop} (hfin : ∀ (ac1 : Act) (wz : World), ac1.tmps.size = 203 → ac1.defers = ac0.defers → (∀ t, ([101, 102, 103, 104, 105, 106, 107, 108, 109, 110, 111, 112, 113, 114, 115, 116, 117, 118, 119, 120, 121, 122, 123, 124, 125, 126, 127, 128, 129, 130, 131, 132, 133, 134, 135, 136, 137] : List Nat).contains t = false → ac1.eval (.tmp t) = ac0.eval (.tmp t)) → ac1.eval (.tmp 137) = .bool false →  Hid (Hp [] wa wz [rB b12 26 [.int .i64 z.id, .int .i64 z.kind, .int .i64 z.src, .int .i64 z.dst, .int .i64 z.car, .int .i64 z.state, .int .i64 z.owner, .int .i64 z.born], rB b7 26 [.int .i64 y.id, .int .i64 y.kind, .int .i64 y.src, .int .i64 y.dst, .int .i64 y.car, .int .i64 y.state, .int .i64 y.owner, .int .i64 y.born], rB b4 26 [.int .i64 x.id, .int .i64 x.kind, .int .i64 x.src, .int .i64 x.dst, .int .i64 x.car, .int .i64 x.state, .int .i64 x.owner, .int .i64 x.born], rB b3 24 (cL c), rS (some ya) rc 1 (zs.map intRow)]) → QR .normal ac1 wz) : (regAt Try.f3 29).wp Try.prog QR ac0 wb := by
  refine wp_region_sq (by kernel_rfl) 203 hz (by kernel_rfl) (fun (xx : Unit) jx => nth [.bool false, .bool false, .agg (cA c), .agg #[.int .i64 y.id, .int .i64 y.kind, .int .i64 y.src, .int .i64 y.dst, .int .i64 y.car, .int .i64 y.state, .int .i64 y.owner, .int .i64 y.born], .agg #[.int .i64 z.id, .int .i64 z.kind, .int .i64 z.src, .int .i64 z.dst, .int .i64 z.car, .int .i64 z.state, .int .i64 z.owner, .int .i64 z.born], .bool true, .bool false, .bool false, .bool false, .pointer (some ⟨b12, 0, none⟩), .int .i64 z.id, .bool false, .bool false, .bool false, .pointer (some ⟨b12, 1, none⟩), .int .i64 z.kind, .pointer (some ⟨b4, 1, none⟩), .int .i64 x.kind, .bool false, .bool false, .bool false, .pointer (some ⟨b12, 6, none⟩), .int .i64 z.owner, .bool false, .bool false, .bool false, .pointer (some ⟨b12, 7, none⟩), .int .i64 z.born, .bool false, .bool false, .bool false, .pointer (some ⟨b12, 3, none⟩), .int .i64 z.dst, .pointer (some ⟨b4, 3, none⟩), .int .i64 x.dst, .bool false, .bool false] jx) (fun (LL : Nat → Bool) (xx : Unit) ww => Hp [] wa ww [rB b12 26 [.int .i64 z.id, .int .i64 z.kind, .int .i64 z.src, .int .i64 z.dst, .int .i64 z.car, .int .i64 z.state, .int .i64 z.owner, .int .i64 z.born], rB b7 26 [.int .i64 y.id, .int .i64 y.kind, .int .i64 y.src, .int .i64 y.dst, .int .i64 y.car, .int .i64 y.state, .int .i64 y.owner, .int .i64 y.born], rB b4 26 [.int .i64 x.id, .int .i64 x.kind, .int .i64 x.src, .int .i64 x.dst, .int .i64 x.car, .int .i64 x.state, .int .i64 x.owner, .int .i64 x.born], rB b3 24 (cL c), rS (some ya) rc 1 (zs.map intRow)]) () H.out ?_ (steps_al ?_) ?_ ?_
  · exact fun _ _ _ _ _ h => h
  · refine al_cons ?_ (al_cons ?_ (al_cons ?_ (al_cons ?_ (al_cons ?_ (al_cons ?_ (al_cons ?_ (al_cons ?_ (al_cons ?_ (al_cons ?_ (al_cons ?_ (al_cons ?_ (al_cons ?_ (al_cons ?_ (al_cons ?_ (al_cons ?_ (al_cons ?_ (al_cons ?_ (al_cons ?_ (al_cons ?_ (al_cons ?_ (al_cons ?_ (al_cons ?_ (al_cons ?_ (al_cons ?_ (al_cons ?_ (al_cons ?_ (al_cons ?_ (al_cons ?_ (al_cons ?_ (al_cons ?_ (al_cons ?_ (al_cons ?_ (al_cons ?_ (al_cons ?_ (al_cons ?_ (al_cons ?_ (al_nil)))))))))))))))))))))))))))))))))))))
    · intro LL xx ac wc sg hst hwant QQ hgo
      exact op_val hwant hgo hst _ (exec_move rfl ((sg.free 9 (by kernel_rfl)).trans so9)) rfl
    · intro LL xx ac wc sg hst hwant QQ hgo
      exact op_val hwant hgo hst _ (exec_move rfl (sg.slot 0 (sg.anc 0 rfl))) rfl
    · intro LL xx ac wc sg hst hwant QQ hgo
      have H := Lib.hid hst
      refine hpA_load tyapi_Config H rfl ((sg.free 3 (by kernel_rfl)).trans so3) hwant (by (repeat (first | exact List.Mem.head _ | apply List.Mem.tail))) (by rfl) rfl ?_
      exact hgo _ () _ (fun _ _ => rfl) rfl hst
    · intro LL xx ac wc sg hst hwant QQ hgo
      have H := Lib.hid hst
      refine hpA_load tyapi_Call H rfl ((sg.free 7 (by kernel_rfl)).trans so7) hwant (by (repeat (first | exact List.Mem.head _ | apply List.Mem.tail))) (by rfl) rfl ?_
      exact hgo _ () _ (fun _ _ => rfl) rfl hst
    · intro LL xx ac wc sg hst hwant QQ hgo
      have H := Lib.hid hst
      refine hpA_load tyapi_Call H rfl ((sg.free 12 (by kernel_rfl)).trans so12) hwant (by (repeat (first | exact List.Mem.head _ | apply List.Mem.tail))) (by rfl) rfl ?_
      exact hgo _ () _ (fun _ _ => rfl) rfl hst
    · intro LL xx ac wc sg hst hwant QQ hgo
      have se103 : ac.eval (.tmp 103) = _ := (sg.slot 2 (sg.anc 2 rfl))
      have sg103 := gt_of se103
      have se104 : ac.eval (.tmp 104) = _ := (sg.slot 3 (sg.anc 3 rfl))
      have sg104 := gt_of se104
      have se105 : ac.eval (.tmp 105) = _ := (sg.slot 4 (sg.anc 4 rfl))
      have sg105 := gt_of se105
      (try simp only [nth] at se103 sg103 se104 sg104 se105 sg105)
      refine op_call hwant hgo 21 #[.agg (cA c), .agg #[.int .i64 y.id, .int .i64 y.kind, .int .i64 y.src, .int .i64 y.dst, .int .i64 y.car, .int .i64 y.state, .int .i64 y.owner, .int .i64 y.born], .agg #[.int .i64 z.id, .int .i64 z.kind, .int .i64 z.src, .int .i64 z.dst, .int .i64 z.car, .int .i64 z.state, .int .i64 z.owner, .int .i64 z.born]] (by simp only [execOp]; go_simp) (by have h := callMay c y z wc; simp only [hmy] at h; exact h) ?_
      rintro er wd ⟨rfl, hof⟩
      exact ⟨_, (), rfl, fun _ _ => rfl, rfl, Hp.quiet hst hof⟩
    · intro LL xx ac wc sg hst hwant QQ hgo
      have se106 : ac.eval (.tmp 106) = _ := (sg.slot 5 (sg.anc 5 rfl))
      have sg106 := gt_of se106
      (try simp only [nth] at se106 sg106)
      exact op_val hwant hgo hst _ (by simp only [execOp, nth]; go_simp <;> omega) rfl
    · intro LL xx ac wc sg hst hwant QQ hgo
      exact op_val hwant hgo hst (.bool false) (exec_pick (B := false) (U := undef) (V := .bool false) rfl (sg.slot 1 (sg.anc 1 rfl)) (fun h => by cases h) (fun _ => (sg.slot 6 (sg.anc 6 rfl)))) rfl
    · intro LL xx ac wc sg hst hwant QQ hgo
      exact op_val hwant hgo hst _ (exec_move rfl (sg.slot 7 (sg.anc 7 rfl))) rfl
    · intro LL xx ac wc sg hst hwant QQ hgo
      have se12 : ac.eval (.tmp 12) = _ := ((sg.free 12 (by kernel_rfl)).trans so12)
      have sg12 := gt_of se12
      exact op_val hwant hgo hst _ (by simp only [execOp, nth]; go_simp <;> omega) rfl
    · intro LL xx ac wc sg hst hwant QQ hgo
      have H := Lib.hid hst
      refine hpA_load1 tyint H rfl (sg.slot 9 (sg.anc 9 rfl)) hwant (by (repeat (first | exact List.Mem.head _ | apply List.Mem.tail))) (by rfl) ?_
      exact hgo _ () _ (fun _ _ => rfl) rfl hst
    · intro LL xx ac wc sg hst hwant QQ hgo
      have se111 : ac.eval (.tmp 111) = _ := (sg.slot 10 (sg.anc 10 rfl))
      have sg111 := gt_of se111
      (try simp only [nth] at se111 sg111)
      exact op_val hwant hgo hst _ (by simp only [execOp, nth]; go_simp <;> omega) rfl
    · intro LL xx ac wc sg hst hwant QQ hgo
      exact op_val hwant hgo hst (.bool false) (exec_pick (B := false) (U := undef) (V := .bool false) rfl (sg.slot 8 (sg.anc 8 rfl)) (fun h => by cases h) (fun _ => (sg.slot 11 (sg.anc 11 rfl)))) rfl
    · intro LL xx ac wc sg hst hwant QQ hgo
      exact op_val hwant hgo hst _ (exec_move rfl (sg.slot 12 (sg.anc 12 rfl))) rfl
    · intro LL xx ac wc sg hst hwant QQ hgo
      have se12 : ac.eval (.tmp 12) = _ := ((sg.free 12 (by kernel_rfl)).trans so12)
      have sg12 := gt_of se12
      exact op_val hwant hgo hst _ (by simp only [execOp, nth]; go_simp <;> omega) rfl
    · intro LL xx ac wc sg hst hwant QQ hgo
      have H := Lib.hid hst
      refine hpA_load1 tyint H rfl (sg.slot 14 (sg.anc 14 rfl)) hwant (by (repeat (first | exact List.Mem.head _ | apply List.Mem.tail))) (by rfl) ?_
      exact hgo _ () _ (fun _ _ => rfl) rfl hst
    · intro LL xx ac wc sg hst hwant QQ hgo
      have se4 : ac.eval (.tmp 4) = _ := ((sg.free 4 (by kernel_rfl)).trans so4)
      have sg4 := gt_of se4
      exact op_val hwant hgo hst _ (by simp only [execOp, nth]; go_simp <;> omega) rfl
    · intro LL xx ac wc sg hst hwant QQ hgo
      have H := Lib.hid hst
      refine hpA_load1 tyint H rfl (sg.slot 16 (sg.anc 16 rfl)) hwant (by (repeat (first | exact List.Mem.head _ | apply List.Mem.tail))) (by rfl) ?_
      exact hgo _ () _ (fun _ _ => rfl) rfl hst
    · intro LL xx ac wc sg hst hwant QQ hgo
      have se116 : ac.eval (.tmp 116) = _ := (sg.slot 15 (sg.anc 15 rfl))
      have sg116 := gt_of se116
      have se118 : ac.eval (.tmp 118) = _ := (sg.slot 17 (sg.anc 17 rfl))
      have sg118 := gt_of se118
      (try simp only [nth] at se116 sg116 se118 sg118)
      exact op_val hwant hgo hst _ (by simp only [execOp, nth]; go_simp <;> omega) rfl
    · intro LL xx ac wc sg hst hwant QQ hgo
      exact op_val hwant hgo hst (.bool false) (exec_pick (B := false) (U := undef) (V := .bool false) rfl (sg.slot 13 (sg.anc 13 rfl)) (fun h => by cases h) (fun _ => (sg.slot 18 (sg.anc 18 rfl)))) rfl
    · intro LL xx ac wc sg hst hwant QQ hgo
      exact op_val hwant hgo hst _ (exec_move rfl (sg.slot 19 (sg.anc 19 rfl))) rfl
    · intro LL xx ac wc sg hst hwant QQ hgo
      have se12 : ac.eval (.tmp 12) = _ := ((sg.free 12 (by kernel_rfl)).trans so12)
      have sg12 := gt_of se12
      exact op_val hwant hgo hst _ (by simp only [execOp, nth]; go_simp <;> omega) rfl
    · intro LL xx ac wc sg hst hwant QQ hgo
      have H := Lib.hid hst
      refine hpA_load1 tyint H rfl (sg.slot 21 (sg.anc 21 rfl)) hwant (by (repeat (first | exact List.Mem.head _ | apply List.Mem.tail))) (by rfl) ?_
      exact hgo _ () _ (fun _ _ => rfl) rfl hst
    · intro LL xx ac wc sg hst hwant QQ hgo
      have se123 : ac.eval (.tmp 123) = _ := (sg.slot 22 (sg.anc 22 rfl))
      have sg123 := gt_of se123
      (try simp only [nth] at se123 sg123)
      exact op_val hwant hgo hst _ (by simp only [execOp, nth]; go_simp <;> omega) rfl
    · intro LL xx ac wc sg hst hwant QQ hgo
      exact op_val hwant hgo hst (.bool false) (exec_pick (B := false) (U := undef) (V := .bool false) rfl (sg.slot 20 (sg.anc 20 rfl)) (fun h => by cases h) (fun _ => (sg.slot 23 (sg.anc 23 rfl)))) rfl
    · intro LL xx ac wc sg hst hwant QQ hgo
      exact op_val hwant hgo hst _ (exec_move rfl (sg.slot 24 (sg.anc 24 rfl))) rfl
    · intro LL xx ac wc sg hst hwant QQ hgo
      have se12 : ac.eval (.tmp 12) = _ := ((sg.free 12 (by kernel_rfl)).trans so12)
      have sg12 := gt_of se12
      exact op_val hwant hgo hst _ (by simp only [execOp, nth]; go_simp <;> omega) rfl
    · intro LL xx ac wc sg hst hwant QQ hgo
      have H := Lib.hid hst
      refine hpA_load1 tyint H rfl (sg.slot 26 (sg.anc 26 rfl)) hwant (by (repeat (first | exact List.Mem.head _ | apply List.Mem.tail))) (by rfl) ?_
      exact hgo _ () _ (fun _ _ => rfl) rfl hst
    · intro LL xx ac wc sg hst hwant QQ hgo
      have se128 : ac.eval (.tmp 128) = _ := (sg.slot 27 (sg.anc 27 rfl))
      have sg128 := gt_of se128
      (try simp only [nth] at se128 sg128)
      exact op_val hwant hgo hst _ (by simp only [execOp, nth]; go_simp <;> omega) rfl
    · intro LL xx ac wc sg hst hwant QQ hgo
      exact op_val hwant hgo hst (.bool false) (exec_pick (B := false) (U := undef) (V := .bool false) rfl (sg.slot 25 (sg.anc 25 rfl)) (fun h => by cases h) (fun _ => (sg.slot 28 (sg.anc 28 rfl)))) rfl
    · intro LL xx ac wc sg hst hwant QQ hgo
      exact op_val hwant hgo hst _ (exec_move rfl (sg.slot 29 (sg.anc 29 rfl))) rfl
    · intro LL xx ac wc sg hst hwant QQ hgo
      have se12 : ac.eval (.tmp 12) = _ := ((sg.free 12 (by kernel_rfl)).trans so12)
      have sg12 := gt_of se12
      exact op_val hwant hgo hst _ (by simp only [execOp, nth]; go_simp <;> omega) rfl
    · intro LL xx ac wc sg hst hwant QQ hgo
      have H := Lib.hid hst
      refine hpA_load1 tyint H rfl (sg.slot 31 (sg.anc 31 rfl)) hwant (by (repeat (first | exact List.Mem.head _ | apply List.Mem.tail))) (by rfl) ?_
      exact hgo _ () _ (fun _ _ => rfl) rfl hst
    · intro LL xx ac wc sg hst hwant QQ hgo
      have se4 : ac.eval (.tmp 4) = _ := ((sg.free 4 (by kernel_rfl)).trans so4)
      have sg4 := gt_of se4
      exact op_val hwant hgo hst _ (by simp only [execOp, nth]; go_simp <;> omega) rfl
    · intro LL xx ac wc sg hst hwant QQ hgo
      have H := Lib.hid hst
      refine hpA_load1 tyint H rfl (sg.slot 33 (sg.anc 33 rfl)) hwant (by (repeat (first | exact List.Mem.head _ | apply List.Mem.tail))) (by rfl) ?_
      exact hgo _ () _ (fun _ _ => rfl) rfl hst
    · intro LL xx ac wc sg hst hwant QQ hgo
      have se133 : ac.eval (.tmp 133) = _ := (sg.slot 32 (sg.anc 32 rfl))
      have sg133 := gt_of se133
      have se135 : ac.eval (.tmp 135) = _ := (sg.slot 34 (sg.anc 34 rfl))
      have sg135 := gt_of se135
      (try simp only [nth] at se133 sg133 se135 sg135)
      exact op_val hwant hgo hst _ (by simp only [execOp, nth]; go_simp <;> omega) rfl
    · intro LL xx ac wc sg hst hwant QQ hgo
      exact op_val hwant hgo hst (.bool false) (exec_pick (B := false) (U := undef) (V := .bool false) rfl (sg.slot 30 (sg.anc 30 rfl)) (fun h => by cases h) (fun _ => (sg.slot 35 (sg.anc 35 rfl)))) rfl
  · refine skips [2, 3, 4, 5, 6, 9, 10, 11, 14, 15, 16, 17, 18, 21, 22, 23, 26, 27, 28, 31, 32, 33, 34, 35] (by kernel_rfl) ?_
    refine List.forall_mem_cons.2 ⟨?_, List.forall_mem_cons.2 ⟨?_, List.forall_mem_cons.2 ⟨?_, List.forall_mem_cons.2 ⟨?_, List.forall_mem_cons.2 ⟨?_, List.forall_mem_cons.2 ⟨?_, List.forall_mem_cons.2 ⟨?_, List.forall_mem_cons.2 ⟨?_, List.forall_mem_cons.2 ⟨?_, List.forall_mem_cons.2 ⟨?_, List.forall_mem_cons.2 ⟨?_, List.forall_mem_cons.2 ⟨?_, List.forall_mem_cons.2 ⟨?_, List.forall_mem_cons.2 ⟨?_, List.forall_mem_cons.2 ⟨?_, List.forall_mem_cons.2 ⟨?_, List.forall_mem_cons.2 ⟨?_, List.forall_mem_cons.2 ⟨?_, List.forall_mem_cons.2 ⟨?_, List.forall_mem_cons.2 ⟨?_, List.forall_mem_cons.2 ⟨?_, List.forall_mem_cons.2 ⟨?_, List.forall_mem_cons.2 ⟨?_, List.forall_mem_cons.2 ⟨?_, fun _ h => by cases h⟩⟩⟩⟩⟩⟩⟩⟩⟩⟩⟩⟩⟩⟩⟩⟩⟩⟩⟩⟩⟩⟩⟩⟩
    · intro oo hop LL xx ac sg hwant
      cases Option.some.inj hop
      exact absurd ((want_f rfl rfl (sg.slot 1 (sg.anc 1 rfl))).symm.trans hwant) (by decide)
    · intro oo hop LL xx ac sg hwant
      cases Option.some.inj hop
      exact absurd ((want_f rfl rfl (sg.slot 1 (sg.anc 1 rfl))).symm.trans hwant) (by decide)
    · intro oo hop LL xx ac sg hwant
      cases Option.some.inj hop
      exact absurd ((want_f rfl rfl (sg.slot 1 (sg.anc 1 rfl))).symm.trans hwant) (by decide)
    · intro oo hop LL xx ac sg hwant
      cases Option.some.inj hop
      exact absurd ((want_f rfl rfl (sg.slot 1 (sg.anc 1 rfl))).symm.trans hwant) (by decide)
    · intro oo hop LL xx ac sg hwant
      cases Option.some.inj hop
      exact absurd ((want_f rfl rfl (sg.slot 1 (sg.anc 1 rfl))).symm.trans hwant) (by decide)
    · intro oo hop LL xx ac sg hwant
      cases Option.some.inj hop
      exact absurd ((want_f rfl rfl (sg.slot 8 (sg.anc 8 rfl))).symm.trans hwant) (by decide)
    · intro oo hop LL xx ac sg hwant
      cases Option.some.inj hop
      exact absurd ((want_f rfl rfl (sg.slot 8 (sg.anc 8 rfl))).symm.trans hwant) (by decide)
    · intro oo hop LL xx ac sg hwant
      cases Option.some.inj hop
      exact absurd ((want_f rfl rfl (sg.slot 8 (sg.anc 8 rfl))).symm.trans hwant) (by decide)
    · intro oo hop LL xx ac sg hwant
      cases Option.some.inj hop
      exact absurd ((want_f rfl rfl (sg.slot 13 (sg.anc 13 rfl))).symm.trans hwant) (by decide)
    · intro oo hop LL xx ac sg hwant
      cases Option.some.inj hop
      exact absurd ((want_f rfl rfl (sg.slot 13 (sg.anc 13 rfl))).symm.trans hwant) (by decide)
    · intro oo hop LL xx ac sg hwant
      cases Option.some.inj hop
      exact absurd ((want_f rfl rfl (sg.slot 13 (sg.anc 13 rfl))).symm.trans hwant) (by decide)
    · intro oo hop LL xx ac sg hwant
      cases Option.some.inj hop
      exact absurd ((want_f rfl rfl (sg.slot 13 (sg.anc 13 rfl))).symm.trans hwant) (by decide)
    · intro oo hop LL xx ac sg hwant
      cases Option.some.inj hop
      exact absurd ((want_f rfl rfl (sg.slot 13 (sg.anc 13 rfl))).symm.trans hwant) (by decide)
    · intro oo hop LL xx ac sg hwant
      cases Option.some.inj hop
      exact absurd ((want_f rfl rfl (sg.slot 20 (sg.anc 20 rfl))).symm.trans hwant) (by decide)
    · intro oo hop LL xx ac sg hwant
      cases Option.some.inj hop
      exact absurd ((want_f rfl rfl (sg.slot 20 (sg.anc 20 rfl))).symm.trans hwant) (by decide)
    · intro oo hop LL xx ac sg hwant
      cases Option.some.inj hop
      exact absurd ((want_f rfl rfl (sg.slot 20 (sg.anc 20 rfl))).symm.trans hwant) (by decide)
    · intro oo hop LL xx ac sg hwant
      cases Option.some.inj hop
      exact absurd ((want_f rfl rfl (sg.slot 25 (sg.anc 25 rfl))).symm.trans hwant) (by decide)
    · intro oo hop LL xx ac sg hwant
      cases Option.some.inj hop
      exact absurd ((want_f rfl rfl (sg.slot 25 (sg.anc 25 rfl))).symm.trans hwant) (by decide)
    · intro oo hop LL xx ac sg hwant
      cases Option.some.inj hop
      exact absurd ((want_f rfl rfl (sg.slot 25 (sg.anc 25 rfl))).symm.trans hwant) (by decide)
    · intro oo hop LL xx ac sg hwant
      cases Option.some.inj hop
      exact absurd ((want_f rfl rfl (sg.slot 30 (sg.anc 30 rfl))).symm.trans hwant) (by decide)
    · intro oo hop LL xx ac sg hwant
      cases Option.some.inj hop
      exact absurd ((want_f rfl rfl (sg.slot 30 (sg.anc 30 rfl))).symm.trans hwant) (by decide)
    · intro oo hop LL xx ac sg hwant
      cases Option.some.inj hop
      exact absurd ((want_f rfl rfl (sg.slot 30 (sg.anc 30 rfl))).symm.trans hwant) (by decide)
    · intro oo hop LL xx ac sg hwant
      cases Option.some.inj hop
      exact absurd ((want_f rfl rfl (sg.slot 30 (sg.anc 30 rfl))).symm.trans hwant) (by decide)
    · intro oo hop LL xx ac sg hwant
      cases Option.some.inj hop
      exact absurd ((want_f rfl rfl (sg.slot 30 (sg.anc 30 rfl))).symm.trans hwant) (by decide)
  · intro xx ac1 wz hfr hsl hst
    exact hfin ac1 wz (hfr.size.trans hz) hfr.defers (fr_keep hfr [101, 102, 103, 104, 105, 106, 107, 108, 109, 110, 111, 112, 113, 114, 115, 116, 117, 118, 119, 120, 121, 122, 123, 124, 125, 126, 127, 128, 129, 130, 131, 132, 133, 134, 135, 136, 137] (by kernel_rfl)) (hsl 36 (by decide)) (Lib.hid hst)
set_option maxRecDepth 20000 in
theorem goes_w_r31 (c : Cfg) (x : CallV) (rc : Nat) (zs : List Int) (b3 : Nat) (b4 : Nat) (b7 : Nat) (i : Nat) (y : CallV) (hi : i ≤ zs.length) (hi2 : i ≤ 60) (z2ld : i < zs.length) (z2rd : (i : Int) < 60) (ya : Addr) (d : Int) (m : Nat) (hm1 : m ≤ 63) (hm : IntKind.i64.wrap ((IntKind.u64.wrap d).tmod 64) = (m : Int)) (r : Nat) (q : Nat) (p : Nat) (hr6 : r < 6) (hq11 : q < 11) (hp4 : p < 4) (hr : (m : Int).tmod 6 = (r : Int)) (hq : IntKind.i64.wrap ((m : Int).tdiv 6) = (q : Int)) (hp : (q : Int).tmod 4 = (p : Int)) (hq2 : IntKind.i64.wrap ((m : Int) / 6) = (q : Int)) (b12 : Nat) (z : CallV) (f : Int) (hl : (livesV y) = true) (hmy : (mayV c y z) = true) (i1 : (z.id != 1) = false) (i2 : (z.kind != x.kind) = false) (i3 : (z.owner != 2) = false) (i4 : (z.born != 3) = false) (i5 : (z.dst != x.dst) = false) (g1 : (decide (goalV z < 1)) = false) (g2 : (decide (c.floors < goalV z)) = false) (hlv : ((livesV z) == (((z.state == 4) || (z.state == 5)) || (z.state == 6))) = false) (hcr : ((((z.state == 2) || (z.state == 3)) && ((decide (z.car < 1)) || (decide (c.cars < z.car)))) || (((z.state == 1) && (z.kind != 3)) && (z.car != 0))) = false) {wa wb : World} (H : Hid (Hp [] wa wb [rB b12 26 [.int .i64 z.id, .int .i64 z.kind, .int .i64 z.src, .int .i64 z.dst, .int .i64 z.car, .int .i64 z.state, .int .i64 z.owner, .int .i64 z.born], rB b7 26 [.int .i64 y.id, .int .i64 y.kind, .int .i64 y.src, .int .i64 y.dst, .int .i64 y.car, .int .i64 y.state, .int .i64 y.owner, .int .i64 y.born], rB b4 26 [.int .i64 x.id, .int .i64 x.kind, .int .i64 x.src, .int .i64 x.dst, .int .i64 x.car, .int .i64 x.state, .int .i64 x.owner, .int .i64 x.born], rB b3 24 (cL c), rS (some ya) rc 1 (zs.map intRow)])) (ac0 : Act) (hz : ac0.tmps.size = 203) (so12 : ac0.eval (.tmp 12) = .pointer (some ⟨b12, 0, none⟩)) {QR : Exit → Act → World → Prop} (hfin : ∀ (ac1 : Act) (wz : World), ac1.tmps.size = 203 → ac1.defers = ac0.defers → (∀ t, ([14, 138, 139] : List Nat).contains t = false → ac1.eval (.tmp t) = ac0.eval (.tmp t)) → ac1.eval (.tmp 14) = .int .i64 (goalV z) →  Hid (Hp [] wa wz [rB b12 26 [.int .i64 z.id, .int .i64 z.kind, .int .i64 z.src, .int .i64 z.dst, .int .i64 z.car, .int .i64 z.state, .int .i64 z.owner, .int .i64 z.born], rB b7 26 [.int .i64 y.id, .int .i64 y.kind, .int .i64 y.src, .int .i64 y.dst, .int .i64 y.car, .int .i64 y.state, .int .i64 y.owner, .int .i64 y.born], rB b4 26 [.int .i64 x.id, .int .i64 x.kind, .int .i64 x.src, .int .i64 x.dst, .int .i64 x.car, .int .i64 x.state, .int .i64 x.owner, .int .i64 x.born], rB b3 24 (cL c), rS (some ya) rc 1 (zs.map intRow)]) → QR .normal ac1 wz) : (regAt Try.f3 31).wp Try.prog QR ac0 wb := by
  refine wp_region_sq (by kernel_rfl) 203 hz (by kernel_rfl) (fun (xx : Unit) jx => nth [.agg #[.int .i64 z.id, .int .i64 z.kind, .int .i64 z.src, .int .i64 z.dst, .int .i64 z.car, .int .i64 z.state, .int .i64 z.owner, .int .i64 z.born], .int .i64 (goalV z), .int .i64 (goalV z)] jx) (fun (LL : Nat → Bool) (xx : Unit) ww => Hp [] wa ww [rB b12 26 [.int .i64 z.id, .int .i64 z.kind, .int .i64 z.src, .int .i64 z.dst, .int .i64 z.car, .int .i64 z.state, .int .i64 z.owner, .int .i64 z.born], rB b7 26 [.int .i64 y.id, .int .i64 y.kind, .int .i64 y.src, .int .i64 y.dst, .int .i64 y.car, .int .i64 y.state, .int .i64 y.owner, .int .i64 y.born], rB b4 26 [.int .i64 x.id, .int .i64 x.kind, .int .i64 x.src, .int .i64 x.dst, .int .i64 x.car, .int .i64 x.state, .int .i64 x.owner, .int .i64 x.born], rB b3 24 (cL c), rS (some ya) rc 1 (zs.map intRow)]) () H.out ?_ (steps_al ?_) ?_ ?_
  · exact fun _ _ _ _ _ h => h
  · refine al_cons ?_ (al_cons ?_ (al_cons ?_ (al_nil)))
    · intro LL xx ac wc sg hst hwant QQ hgo
      have H := Lib.hid hst
      refine hpA_load tyapi_Call H rfl ((sg.free 12 (by kernel_rfl)).trans so12) hwant (by (repeat (first | exact List.Mem.head _ | apply List.Mem.tail))) (by rfl) rfl ?_
      exact hgo _ () _ (fun _ _ => rfl) rfl hst
    · intro LL xx ac wc sg hst hwant QQ hgo
      have se138 : ac.eval (.tmp 138) = _ := (sg.slot 0 (sg.anc 0 rfl))
      have sg138 := gt_of se138
      (try simp only [nth] at se138 sg138)
      refine op_call hwant hgo 22 _ (by simp only [execOp]; go_simp) (callGoal z wc) ?_
      rintro er wd ⟨rfl, hof⟩
      exact ⟨_, (), rfl, fun _ _ => rfl, rfl, Hp.quiet hst hof⟩
    · intro LL xx ac wc sg hst hwant QQ hgo
      exact op_val hwant hgo hst _ (exec_assign rfl (sg.slot 1 (sg.anc 1 rfl))) rfl
  · exact skips [] (by kernel_rfl) (fun _ h => by cases h)
  · intro xx ac1 wz hfr hsl hst
    exact hfin ac1 wz (hfr.size.trans hz) hfr.defers (fr_keep hfr [14, 138, 139] (by kernel_rfl)) (hsl 2 (by decide)) (Lib.hid hst)
set_option maxRecDepth 20000 in
theorem goes_w_r32 (c : Cfg) (x : CallV) (rc : Nat) (zs : List Int) (b3 : Nat) (b4 : Nat) (b7 : Nat) (i : Nat) (y : CallV) (hi : i ≤ zs.length) (hi2 : i ≤ 60) (z2ld : i < zs.length) (z2rd : (i : Int) < 60) (ya : Addr) (d : Int) (m : Nat) (hm1 : m ≤ 63) (hm : IntKind.i64.wrap ((IntKind.u64.wrap d).tmod 64) = (m : Int)) (r : Nat) (q : Nat) (p : Nat) (hr6 : r < 6) (hq11 : q < 11) (hp4 : p < 4) (hr : (m : Int).tmod 6 = (r : Int)) (hq : IntKind.i64.wrap ((m : Int).tdiv 6) = (q : Int)) (hp : (q : Int).tmod 4 = (p : Int)) (hq2 : IntKind.i64.wrap ((m : Int) / 6) = (q : Int)) (b12 : Nat) (z : CallV) (f : Int) (hl : (livesV y) = true) (hmy : (mayV c y z) = true) (i1 : (z.id != 1) = false) (i2 : (z.kind != x.kind) = false) (i3 : (z.owner != 2) = false) (i4 : (z.born != 3) = false) (i5 : (z.dst != x.dst) = false) (g1 : (decide (goalV z < 1)) = false) (g2 : (decide (c.floors < goalV z)) = false) (hlv : ((livesV z) == (((z.state == 4) || (z.state == 5)) || (z.state == 6))) = false) (hcr : ((((z.state == 2) || (z.state == 3)) && ((decide (z.car < 1)) || (decide (c.cars < z.car)))) || (((z.state == 1) && (z.kind != 3)) && (z.car != 0))) = false) {wa wb : World} (H : Hid (Hp [] wa wb [rB b12 26 [.int .i64 z.id, .int .i64 z.kind, .int .i64 z.src, .int .i64 z.dst, .int .i64 z.car, .int .i64 z.state, .int .i64 z.owner, .int .i64 z.born], rB b7 26 [.int .i64 y.id, .int .i64 y.kind, .int .i64 y.src, .int .i64 y.dst, .int .i64 y.car, .int .i64 y.state, .int .i64 y.owner, .int .i64 y.born], rB b4 26 [.int .i64 x.id, .int .i64 x.kind, .int .i64 x.src, .int .i64 x.dst, .int .i64 x.car, .int .i64 x.state, .int .i64 x.owner, .int .i64 x.born], rB b3 24 (cL c), rS (some ya) rc 1 (zs.map intRow)])) (ac0 : Act) (hz : ac0.tmps.size = 203) (so3 : ac0.eval (.tmp 3) = .pointer (some ⟨b3, 0, none⟩)) (so14 : ac0.eval (.tmp 14) = .int .i64 (goalV z)) {QR : Exit → Act → World → Prop} (hfin : ∀ (ac1 : Act) (wz : World), ac1.tmps.size = 203 → ac1.defers = ac0.defers → (∀ t, ([140, 141, 142, 143, 144, 145, 146, 147] : List Nat).contains t = false → ac1.eval (.tmp t) = ac0.eval (.tmp t)) → ac1.eval (.tmp 147) = .bool false →  Hid (Hp [] wa wz [rB b12 26 [.int .i64 z.id, .int .i64 z.kind, .int .i64 z.src, .int .i64 z.dst, .int .i64 z.car, .int .i64 z.state, .int .i64 z.owner, .int .i64 z.born], rB b7 26 [.int .i64 y.id, .int .i64 y.kind, .int .i64 y.src, .int .i64 y.dst, .int .i64 y.car, .int .i64 y.state, .int .i64 y.owner, .int .i64 y.born], rB b4 26 [.int .i64 x.id, .int .i64 x.kind, .int .i64 x.src, .int .i64 x.dst, .int .i64 x.car, .int .i64 x.state, .int .i64 x.owner, .int .i64 x.born], rB b3 24 (cL c), rS (some ya) rc 1 (zs.map intRow)]) → QR .normal ac1 wz) : (regAt Try.f3 32).wp Try.prog QR ac0 wb := by
  refine wp_region_sq (by kernel_rfl) 203 hz (by kernel_rfl) (fun (xx : Unit) jx => nth [.int .i64 (goalV z), .bool false, .bool false, .int .i64 (goalV z), .pointer (some ⟨b3, 0, none⟩), .int .i64 c.floors, .bool false, .bool false] jx) (fun (LL : Nat → Bool) (xx : Unit) ww => Hp [] wa ww [rB b12 26 [.int .i64 z.id, .int .i64 z.kind, .int .i64 z.src, .int .i64 z.dst, .int .i64 z.car, .int .i64 z.state, .int .i64 z.owner, .int .i64 z.born], rB b7 26 [.int .i64 y.id, .int .i64 y.kind, .int .i64 y.src, .int .i64 y.dst, .int .i64 y.car, .int .i64 y.state, .int .i64 y.owner, .int .i64 y.born], rB b4 26 [.int .i64 x.id, .int .i64 x.kind, .int .i64 x.src, .int .i64 x.dst, .int .i64 x.car, .int .i64 x.state, .int .i64 x.owner, .int .i64 x.born], rB b3 24 (cL c), rS (some ya) rc 1 (zs.map intRow)]) () H.out ?_ (steps_al ?_) ?_ ?_
  · exact fun _ _ _ _ _ h => h
  · refine al_cons ?_ (al_cons ?_ (al_cons ?_ (al_cons ?_ (al_cons ?_ (al_cons ?_ (al_cons ?_ (al_cons ?_ (al_nil))))))))
    · intro LL xx ac wc sg hst hwant QQ hgo
      exact op_val hwant hgo hst _ (exec_move rfl ((sg.free 14 (by kernel_rfl)).trans so14)) rfl
    · intro LL xx ac wc sg hst hwant QQ hgo
      have se140 : ac.eval (.tmp 140) = _ := (sg.slot 0 (sg.anc 0 rfl))
      have sg140 := gt_of se140
      (try simp only [nth] at se140 sg140)
      exact op_val hwant hgo hst _ (by simp only [execOp, nth]; go_simp <;> omega) rfl
    · intro LL xx ac wc sg hst hwant QQ hgo
      exact op_val hwant hgo hst _ (exec_move rfl (sg.slot 1 (sg.anc 1 rfl))) rfl
    · intro LL xx ac wc sg hst hwant QQ hgo
      exact op_val hwant hgo hst _ (exec_move rfl ((sg.free 14 (by kernel_rfl)).trans so14)) rfl
    · intro LL xx ac wc sg hst hwant QQ hgo
      have se3 : ac.eval (.tmp 3) = _ := ((sg.free 3 (by kernel_rfl)).trans so3)
      have sg3 := gt_of se3
      exact op_val hwant hgo hst _ (by simp only [execOp, nth]; go_simp <;> omega) rfl
    · intro LL xx ac wc sg hst hwant QQ hgo
      have H := Lib.hid hst
      refine hpA_load1 tyint H rfl (sg.slot 4 (sg.anc 4 rfl)) hwant (by (repeat (first | exact List.Mem.head _ | apply List.Mem.tail))) (by rfl) ?_
      exact hgo _ () _ (fun _ _ => rfl) rfl hst
    · intro LL xx ac wc sg hst hwant QQ hgo
      have se143 : ac.eval (.tmp 143) = _ := (sg.slot 3 (sg.anc 3 rfl))
      have sg143 := gt_of se143
      have se145 : ac.eval (.tmp 145) = _ := (sg.slot 5 (sg.anc 5 rfl))
      have sg145 := gt_of se145
      (try simp only [nth] at se143 sg143 se145 sg145)
      exact op_val hwant hgo hst _ (by simp only [execOp, nth]; go_simp <;> omega) rfl
    · intro LL xx ac wc sg hst hwant QQ hgo
      exact op_val hwant hgo hst (.bool false) (exec_pick (B := false) (U := undef) (V := .bool false) rfl (sg.slot 2 (sg.anc 2 rfl)) (fun h => by cases h) (fun _ => (sg.slot 6 (sg.anc 6 rfl)))) rfl
  · refine skips [3, 4, 5, 6] (by kernel_rfl) ?_
    refine List.forall_mem_cons.2 ⟨?_, List.forall_mem_cons.2 ⟨?_, List.forall_mem_cons.2 ⟨?_, List.forall_mem_cons.2 ⟨?_, fun _ h => by cases h⟩⟩⟩⟩
    · intro oo hop LL xx ac sg hwant
      cases Option.some.inj hop
      exact absurd ((want_f rfl rfl (sg.slot 2 (sg.anc 2 rfl))).symm.trans hwant) (by decide)
    · intro oo hop LL xx ac sg hwant
      cases Option.some.inj hop
      exact absurd ((want_f rfl rfl (sg.slot 2 (sg.anc 2 rfl))).symm.trans hwant) (by decide)
    · intro oo hop LL xx ac sg hwant
      cases Option.some.inj hop
      exact absurd ((want_f rfl rfl (sg.slot 2 (sg.anc 2 rfl))).symm.trans hwant) (by decide)
    · intro oo hop LL xx ac sg hwant
      cases Option.some.inj hop
      exact absurd ((want_f rfl rfl (sg.slot 2 (sg.anc 2 rfl))).symm.trans hwant) (by decide)
  · intro xx ac1 wz hfr hsl hst
    exact hfin ac1 wz (hfr.size.trans hz) hfr.defers (fr_keep hfr [140, 141, 142, 143, 144, 145, 146, 147] (by kernel_rfl)) (hsl 7 (by decide)) (Lib.hid hst)
set_option maxRecDepth 20000 in
theorem goes_w_r34 (c : Cfg) (x : CallV) (rc : Nat) (zs : List Int) (b3 : Nat) (b4 : Nat) (b7 : Nat) (i : Nat) (y : CallV) (hi : i ≤ zs.length) (hi2 : i ≤ 60) (z2ld : i < zs.length) (z2rd : (i : Int) < 60) (ya : Addr) (d : Int) (m : Nat) (hm1 : m ≤ 63) (hm : IntKind.i64.wrap ((IntKind.u64.wrap d).tmod 64) = (m : Int)) (r : Nat) (q : Nat) (p : Nat) (hr6 : r < 6) (hq11 : q < 11) (hp4 : p < 4) (hr : (m : Int).tmod 6 = (r : Int)) (hq : IntKind.i64.wrap ((m : Int).tdiv 6) = (q : Int)) (hp : (q : Int).tmod 4 = (p : Int)) (hq2 : IntKind.i64.wrap ((m : Int) / 6) = (q : Int)) (b12 : Nat) (z : CallV) (f : Int) (hl : (livesV y) = true) (hmy : (mayV c y z) = true) (i1 : (z.id != 1) = false) (i2 : (z.kind != x.kind) = false) (i3 : (z.owner != 2) = false) (i4 : (z.born != 3) = false) (i5 : (z.dst != x.dst) = false) (g1 : (decide (goalV z < 1)) = false) (g2 : (decide (c.floors < goalV z)) = false) (hlv : ((livesV z) == (((z.state == 4) || (z.state == 5)) || (z.state == 6))) = false) (hcr : ((((z.state == 2) || (z.state == 3)) && ((decide (z.car < 1)) || (decide (c.cars < z.car)))) || (((z.state == 1) && (z.kind != 3)) && (z.car != 0))) = false) {wa wb : World} (H : Hid (Hp [] wa wb [rB b12 26 [.int .i64 z.id, .int .i64 z.kind, .int .i64 z.src, .int .i64 z.dst, .int .i64 z.car, .int .i64 z.state, .int .i64 z.owner, .int .i64 z.born], rB b7 26 [.int .i64 y.id, .int .i64 y.kind, .int .i64 y.src, .int .i64 y.dst, .int .i64 y.car, .int .i64 y.state, .int .i64 y.owner, .int .i64 y.born], rB b4 26 [.int .i64 x.id, .int .i64 x.kind, .int .i64 x.src, .int .i64 x.dst, .int .i64 x.car, .int .i64 x.state, .int .i64 x.owner, .int .i64 x.born], rB b3 24 (cL c), rS (some ya) rc 1 (zs.map intRow)])) (ac0 : Act) (hz : ac0.tmps.size = 203) (so12 : ac0.eval (.tmp 12) = .pointer (some ⟨b12, 0, none⟩)) {QR : Exit → Act → World → Prop} (hfin : ∀ (ac1 : Act) (wz : World), ac1.tmps.size = 203 → ac1.defers = ac0.defers → (∀ t, ([148, 149, 150, 151, 152, 153, 154, 155, 156, 157, 158, 159, 160, 161, 162, 163] : List Nat).contains t = false → ac1.eval (.tmp t) = ac0.eval (.tmp t)) → ac1.eval (.tmp 163) = .bool false →  Hid (Hp [] wa wz [rB b12 26 [.int .i64 z.id, .int .i64 z.kind, .int .i64 z.src, .int .i64 z.dst, .int .i64 z.car, .int .i64 z.state, .int .i64 z.owner, .int .i64 z.born], rB b7 26 [.int .i64 y.id, .int .i64 y.kind, .int .i64 y.src, .int .i64 y.dst, .int .i64 y.car, .int .i64 y.state, .int .i64 y.owner, .int .i64 y.born], rB b4 26 [.int .i64 x.id, .int .i64 x.kind, .int .i64 x.src, .int .i64 x.dst, .int .i64 x.car, .int .i64 x.state, .int .i64 x.owner, .int .i64 x.born], rB b3 24 (cL c), rS (some ya) rc 1 (zs.map intRow)]) → QR .normal ac1 wz) : (regAt Try.f3 34).wp Try.prog QR ac0 wb := by
  refine wp_region_st mixedP ⟨[0, 1, 0, 1, 2, 3, 4, 5, 6, 7, 8, 9, 10, 11, 12, 13], by kernel_rfl⟩ [[], [0], [], [2], [2, 3], [0, 1, 2, 3, 4], [0, 1, 2, 3, 4, 5], [0, 1, 2, 3, 4, 5, 6], [0, 1, 2, 3, 4, 5, 6, 7], [0, 1, 2, 3, 4, 5, 6, 7, 8], [0, 1, 2, 3, 4, 5, 6, 7, 8, 9], [0, 1, 2, 3, 4, 5, 6, 7, 8, 9, 10], [0, 1, 2, 3, 4, 5, 6, 7, 8, 9, 10, 11], [0, 1, 2, 3, 4, 5, 6, 7, 8, 9, 10, 11, 12], [0, 1, 2, 3, 4, 5, 6, 7, 8, 9, 10, 11, 12, 13], [0, 1, 2, 3, 4, 5, 6, 7, 8, 9, 10, 11, 12, 13, 14]] (by kernel_rfl) (by kernel_rfl) 203 hz (by kernel_rfl) (fun (xx : Unit) jx => nth [.agg #[.int .i64 z.id, .int .i64 z.kind, .int .i64 z.src, .int .i64 z.dst, .int .i64 z.car, .int .i64 z.state, .int .i64 z.owner, .int .i64 z.born], .bool (livesV z), .pointer (some ⟨b12, 5, none⟩), .int .i64 z.state, .bool (z.state == 4), .bool (z.state == 4), bif !(z.state == 4) then .pointer (some ⟨b12, 5, none⟩) else undef, bif !(z.state == 4) then .int .i64 z.state else undef, bif !(z.state == 4) then .bool (z.state == 5) else undef, .bool ((z.state == 4) || (z.state == 5)), .bool ((z.state == 4) || (z.state == 5)), bif !((z.state == 4) || (z.state == 5)) then .pointer (some ⟨b12, 5, none⟩) else undef, bif !((z.state == 4) || (z.state == 5)) then .int .i64 z.state else undef, bif !((z.state == 4) || (z.state == 5)) then .bool (z.state == 6) else undef, .bool (((z.state == 4) || (z.state == 5)) || (z.state == 6)), .bool false] jx) (fun (LL : Nat → Bool) (xx : Unit) ww => Hp [] wa ww [rB b12 26 [.int .i64 z.id, .int .i64 z.kind, .int .i64 z.src, .int .i64 z.dst, .int .i64 z.car, .int .i64 z.state, .int .i64 z.owner, .int .i64 z.born], rB b7 26 [.int .i64 y.id, .int .i64 y.kind, .int .i64 y.src, .int .i64 y.dst, .int .i64 y.car, .int .i64 y.state, .int .i64 y.owner, .int .i64 y.born], rB b4 26 [.int .i64 x.id, .int .i64 x.kind, .int .i64 x.src, .int .i64 x.dst, .int .i64 x.car, .int .i64 x.state, .int .i64 x.owner, .int .i64 x.born], rB b3 24 (cL c), rS (some ya) rc 1 (zs.map intRow)]) () H.out.drew ?_ (steps_al ?_) ?_ ?_
  · exact fun _ _ _ _ _ h => h
  · refine al_cons ?_ (al_cons ?_ (al_cons ?_ (al_cons ?_ (al_cons ?_ (al_cons ?_ (al_cons ?_ (al_cons ?_ (al_cons ?_ (al_cons ?_ (al_cons ?_ (al_cons ?_ (al_cons ?_ (al_cons ?_ (al_cons ?_ (al_cons ?_ (al_nil))))))))))))))))
    · intro LL xx ac wc sg hst hwant QQ hgo
      have H := Lib.hid hst
      refine hpA_load tyapi_Call H rfl ((sg.free 12 (by kernel_rfl)).trans so12) hwant (by (repeat (first | exact List.Mem.head _ | apply List.Mem.tail))) (by rfl) rfl ?_
      exact hgo _ () _ (fun _ _ => rfl) rfl hst
    · intro LL xx ac wc sg hst hwant QQ hgo
      have se148 : ac.eval (.tmp 148) = _ := (sg.slot 0 (sg.anc 0 rfl))
      have sg148 := gt_of se148
      (try simp only [nth] at se148 sg148)
      refine op_call hwant hgo 23 _ (by simp only [execOp]; go_simp) (callLives z wc) ?_
      rintro er wd ⟨rfl, hof⟩
      exact ⟨_, (), rfl, fun _ _ => rfl, rfl, Hp.quiet hst hof⟩
    · intro LL xx ac wc sg hst hwant QQ hgo
      have se12 : ac.eval (.tmp 12) = _ := ((sg.free 12 (by kernel_rfl)).trans so12)
      have sg12 := gt_of se12
      exact op_val hwant hgo hst _ (by simp only [execOp, nth]; go_simp <;> omega) rfl
    · intro LL xx ac wc sg hst hwant QQ hgo
      have H := Lib.hid hst
      refine hpA_load1 tyint H rfl (sg.slot 2 (sg.anc 2 rfl)) hwant (by (repeat (first | exact List.Mem.head _ | apply List.Mem.tail))) (by rfl) ?_
      exact hgo _ () _ (fun _ _ => rfl) rfl hst
    · intro LL xx ac wc sg hst hwant QQ hgo
      have se151 : ac.eval (.tmp 151) = _ := (sg.slot 3 (sg.anc 3 rfl))
      have sg151 := gt_of se151
      (try simp only [nth] at se151 sg151)
      exact op_val hwant hgo hst _ (by simp only [execOp, nth]; go_simp <;> omega) rfl
    · intro LL xx ac wc sg hst hwant QQ hgo
      exact op_val hwant hgo hst _ (exec_move rfl (sg.slot 4 (sg.anc 4 rfl))) rfl
    · intro LL xx ac wc sg hst hwant QQ hgo
      have hG : (!(z.state == 4)) = true := (want_f rfl rfl (sg.slot 5 (sg.anc 5 rfl))).symm.trans hwant
      have se12 : ac.eval (.tmp 12) = _ := ((sg.free 12 (by kernel_rfl)).trans so12)
      have sg12 := gt_of se12
      exact op_val hwant hgo hst _ (by simp only [execOp, nth]; go_simp <;> omega) (cI hG)
    · intro LL xx ac wc sg hst hwant QQ hgo
      have hG : (!(z.state == 4)) = true := (want_f rfl rfl (sg.slot 5 (sg.anc 5 rfl))).symm.trans hwant
      have H := Lib.hid hst
      refine hpA_load1 tyint H rfl (cT (sg.slot 6 (sg.anc 6 rfl)) hG) hwant (by (repeat (first | exact List.Mem.head _ | apply List.Mem.tail))) (by rfl) ?_
      exact hgo _ () _ (fun _ _ => rfl) (cI hG) hst
    · intro LL xx ac wc sg hst hwant QQ hgo
      have hG : (!(z.state == 4)) = true := (want_f rfl rfl (sg.slot 5 (sg.anc 5 rfl))).symm.trans hwant
      have se155 : ac.eval (.tmp 155) = _ := (cT (sg.slot 7 (sg.anc 7 rfl)) hG)
      have sg155 := gt_of se155
      (try simp only [nth] at se155 sg155)
      exact op_val hwant hgo hst _ (by simp only [execOp, nth]; go_simp <;> omega) (cI hG)
    · intro LL xx ac wc sg hst hwant QQ hgo
      exact op_val hwant hgo hst (.bool ((z.state == 4) || (z.state == 5))) (exec_or (Y := z.state == 5) rfl (sg.slot 5 (sg.anc 5 rfl)) (fun qq => cT (sg.slot 8 (sg.anc 8 rfl)) (bk qq))) rfl
    · intro LL xx ac wc sg hst hwant QQ hgo
      exact op_val hwant hgo hst _ (exec_move rfl (sg.slot 9 (sg.anc 9 rfl))) rfl
    · intro LL xx ac wc sg hst hwant QQ hgo
      have hG : (!((z.state == 4) || (z.state == 5))) = true := (want_f rfl rfl (sg.slot 10 (sg.anc 10 rfl))).symm.trans hwant
      have se12 : ac.eval (.tmp 12) = _ := ((sg.free 12 (by kernel_rfl)).trans so12)
      have sg12 := gt_of se12
      exact op_val hwant hgo hst _ (by simp only [execOp, nth]; go_simp <;> omega) (cI hG)
    · intro LL xx ac wc sg hst hwant QQ hgo
      have hG : (!((z.state == 4) || (z.state == 5))) = true := (want_f rfl rfl (sg.slot 10 (sg.anc 10 rfl))).symm.trans hwant
      have H := Lib.hid hst
      refine hpA_load1 tyint H rfl (cT (sg.slot 11 (sg.anc 11 rfl)) hG) hwant (by (repeat (first | exact List.Mem.head _ | apply List.Mem.tail))) (by rfl) ?_
      exact hgo _ () _ (fun _ _ => rfl) (cI hG) hst
    · intro LL xx ac wc sg hst hwant QQ hgo
      have hG : (!((z.state == 4) || (z.state == 5))) = true := (want_f rfl rfl (sg.slot 10 (sg.anc 10 rfl))).symm.trans hwant
      have se160 : ac.eval (.tmp 160) = _ := (cT (sg.slot 12 (sg.anc 12 rfl)) hG)
      have sg160 := gt_of se160
      (try simp only [nth] at se160 sg160)
      exact op_val hwant hgo hst _ (by simp only [execOp, nth]; go_simp <;> omega) (cI hG)
    · intro LL xx ac wc sg hst hwant QQ hgo
      exact op_val hwant hgo hst (.bool (((z.state == 4) || (z.state == 5)) || (z.state == 6))) (exec_or (Y := z.state == 6) rfl (sg.slot 10 (sg.anc 10 rfl)) (fun qq => cT (sg.slot 13 (sg.anc 13 rfl)) (bk qq))) rfl
    · intro LL xx ac wc sg hst hwant QQ hgo
      have se149 : ac.eval (.tmp 149) = _ := (sg.slot 1 (sg.anc 1 rfl))
      have sg149 := gt_of se149
      have se162 : ac.eval (.tmp 162) = _ := (sg.slot 14 (sg.anc 14 rfl))
      have sg162 := gt_of se162
      (try simp only [nth] at se149 sg149 se162 sg162)
      exact op_val hwant hgo hst _ (by simp only [execOp, nth]; go_simp <;> omega) rfl
  · refine skips [6, 7, 8, 11, 12, 13] (by kernel_rfl) ?_
    refine List.forall_mem_cons.2 ⟨?_, List.forall_mem_cons.2 ⟨?_, List.forall_mem_cons.2 ⟨?_, List.forall_mem_cons.2 ⟨?_, List.forall_mem_cons.2 ⟨?_, List.forall_mem_cons.2 ⟨?_, fun _ h => by cases h⟩⟩⟩⟩⟩⟩
    · intro oo hop LL xx ac sg hwant
      cases Option.some.inj hop
      have hG : (!(z.state == 4)) = false := (want_f rfl rfl (sg.slot 5 (sg.anc 5 rfl))).symm.trans hwant
      exact ⟨cF hG, fun _ h => h⟩
    · intro oo hop LL xx ac sg hwant
      cases Option.some.inj hop
      have hG : (!(z.state == 4)) = false := (want_f rfl rfl (sg.slot 5 (sg.anc 5 rfl))).symm.trans hwant
      exact ⟨cF hG, fun _ h => h⟩
    · intro oo hop LL xx ac sg hwant
      cases Option.some.inj hop
      have hG : (!(z.state == 4)) = false := (want_f rfl rfl (sg.slot 5 (sg.anc 5 rfl))).symm.trans hwant
      exact ⟨cF hG, fun _ h => h⟩
    · intro oo hop LL xx ac sg hwant
      cases Option.some.inj hop
      have hG : (!((z.state == 4) || (z.state == 5))) = false := (want_f rfl rfl (sg.slot 10 (sg.anc 10 rfl))).symm.trans hwant
      exact ⟨cF hG, fun _ h => h⟩
    · intro oo hop LL xx ac sg hwant
      cases Option.some.inj hop
      have hG : (!((z.state == 4) || (z.state == 5))) = false := (want_f rfl rfl (sg.slot 10 (sg.anc 10 rfl))).symm.trans hwant
      exact ⟨cF hG, fun _ h => h⟩
    · intro oo hop LL xx ac sg hwant
      cases Option.some.inj hop
      have hG : (!((z.state == 4) || (z.state == 5))) = false := (want_f rfl rfl (sg.slot 10 (sg.anc 10 rfl))).symm.trans hwant
      exact ⟨cF hG, fun _ h => h⟩
  · intro xx ac1 wz hfr hsl hst
    exact hfin ac1 wz (hfr.size.trans hz) hfr.defers (fr_keep hfr [148, 149, 150, 151, 152, 153, 154, 155, 156, 157, 158, 159, 160, 161, 162, 163] (by kernel_rfl)) (hsl 15 (by decide)) (Lib.hid hst)
set_option maxRecDepth 20000 in
theorem goes_w_r36 (c : Cfg) (x : CallV) (rc : Nat) (zs : List Int) (b3 : Nat) (b4 : Nat) (b7 : Nat) (i : Nat) (y : CallV) (hi : i ≤ zs.length) (hi2 : i ≤ 60) (z2ld : i < zs.length) (z2rd : (i : Int) < 60) (ya : Addr) (d : Int) (m : Nat) (hm1 : m ≤ 63) (hm : IntKind.i64.wrap ((IntKind.u64.wrap d).tmod 64) = (m : Int)) (r : Nat) (q : Nat) (p : Nat) (hr6 : r < 6) (hq11 : q < 11) (hp4 : p < 4) (hr : (m : Int).tmod 6 = (r : Int)) (hq : IntKind.i64.wrap ((m : Int).tdiv 6) = (q : Int)) (hp : (q : Int).tmod 4 = (p : Int)) (hq2 : IntKind.i64.wrap ((m : Int) / 6) = (q : Int)) (b12 : Nat) (z : CallV) (f : Int) (hl : (livesV y) = true) (hmy : (mayV c y z) = true) (i1 : (z.id != 1) = false) (i2 : (z.kind != x.kind) = false) (i3 : (z.owner != 2) = false) (i4 : (z.born != 3) = false) (i5 : (z.dst != x.dst) = false) (g1 : (decide (goalV z < 1)) = false) (g2 : (decide (c.floors < goalV z)) = false) (hlv : ((livesV z) == (((z.state == 4) || (z.state == 5)) || (z.state == 6))) = false) (hcr : ((((z.state == 2) || (z.state == 3)) && ((decide (z.car < 1)) || (decide (c.cars < z.car)))) || (((z.state == 1) && (z.kind != 3)) && (z.car != 0))) = false) {wa wb : World} (H : Hid (Hp [] wa wb [rB b12 26 [.int .i64 z.id, .int .i64 z.kind, .int .i64 z.src, .int .i64 z.dst, .int .i64 z.car, .int .i64 z.state, .int .i64 z.owner, .int .i64 z.born], rB b7 26 [.int .i64 y.id, .int .i64 y.kind, .int .i64 y.src, .int .i64 y.dst, .int .i64 y.car, .int .i64 y.state, .int .i64 y.owner, .int .i64 y.born], rB b4 26 [.int .i64 x.id, .int .i64 x.kind, .int .i64 x.src, .int .i64 x.dst, .int .i64 x.car, .int .i64 x.state, .int .i64 x.owner, .int .i64 x.born], rB b3 24 (cL c), rS (some ya) rc 1 (zs.map intRow)])) (ac0 : Act) (hz : ac0.tmps.size = 203) (so3 : ac0.eval (.tmp 3) = .pointer (some ⟨b3, 0, none⟩)) (so12 : ac0.eval (.tmp 12) = .pointer (some ⟨b12, 0, none⟩)) {QR : Exit → Act → World → Prop} (hfin : ∀ (ac1 : Act) (wz : World), ac1.tmps.size = 203 → ac1.defers = ac0.defers → (∀ t, ([164, 165, 166, 167, 168, 169, 170, 171, 172, 173, 174, 175, 176, 177, 178, 179, 180, 181, 182, 183, 184, 185, 186, 187, 188, 189, 190, 191, 192, 193, 194, 195, 196, 197, 198] : List Nat).contains t = false → ac1.eval (.tmp t) = ac0.eval (.tmp t)) → ac1.eval (.tmp 198) = .bool false →  Hid (Hp [] wa wz [rB b12 26 [.int .i64 z.id, .int .i64 z.kind, .int .i64 z.src, .int .i64 z.dst, .int .i64 z.car, .int .i64 z.state, .int .i64 z.owner, .int .i64 z.born], rB b7 26 [.int .i64 y.id, .int .i64 y.kind, .int .i64 y.src, .int .i64 y.dst, .int .i64 y.car, .int .i64 y.state, .int .i64 y.owner, .int .i64 y.born], rB b4 26 [.int .i64 x.id, .int .i64 x.kind, .int .i64 x.src, .int .i64 x.dst, .int .i64 x.car, .int .i64 x.state, .int .i64 x.owner, .int .i64 x.born], rB b3 24 (cL c), rS (some ya) rc 1 (zs.map intRow)]) → QR .normal ac1 wz) : (regAt Try.f3 36).wp Try.prog QR ac0 wb := by
  refine wp_region_sq (by kernel_rfl) 203 hz (by kernel_rfl) (fun (xx : Unit) jx => nth [.pointer (some ⟨b12, 5, none⟩), .int .i64 z.state, .bool (z.state == 2), .bool (z.state == 2), bif !(z.state == 2) then .pointer (some ⟨b12, 5, none⟩) else undef, bif !(z.state == 2) then .int .i64 z.state else undef, bif !(z.state == 2) then .bool (z.state == 3) else undef, .bool ((z.state == 2) || (z.state == 3)), .bool ((z.state == 2) || (z.state == 3)), bif ((z.state == 2) || (z.state == 3)) then .pointer (some ⟨b12, 4, none⟩) else undef, bif ((z.state == 2) || (z.state == 3)) then .int .i64 z.car else undef, bif ((z.state == 2) || (z.state == 3)) then .bool (decide (z.car < 1)) else undef, bif ((z.state == 2) || (z.state == 3)) then .bool (decide (z.car < 1)) else undef, bif (((z.state == 2) || (z.state == 3)) && !(decide (z.car < 1))) then .pointer (some ⟨b12, 4, none⟩) else undef, bif (((z.state == 2) || (z.state == 3)) && !(decide (z.car < 1))) then .int .i64 z.car else undef, bif (((z.state == 2) || (z.state == 3)) && !(decide (z.car < 1))) then .pointer (some ⟨b3, 1, none⟩) else undef, bif (((z.state == 2) || (z.state == 3)) && !(decide (z.car < 1))) then .int .i64 c.cars else undef, bif (((z.state == 2) || (z.state == 3)) && !(decide (z.car < 1))) then .bool (decide (c.cars < z.car)) else undef, bif ((z.state == 2) || (z.state == 3)) then .bool ((decide (z.car < 1)) || (decide (c.cars < z.car))) else undef, .bool (((z.state == 2) || (z.state == 3)) && ((decide (z.car < 1)) || (decide (c.cars < z.car)))), .bool (((z.state == 2) || (z.state == 3)) && ((decide (z.car < 1)) || (decide (c.cars < z.car)))), bif !(((z.state == 2) || (z.state == 3)) && ((decide (z.car < 1)) || (decide (c.cars < z.car)))) then .pointer (some ⟨b12, 5, none⟩) else undef, bif !(((z.state == 2) || (z.state == 3)) && ((decide (z.car < 1)) || (decide (c.cars < z.car)))) then .int .i64 z.state else undef, bif !(((z.state == 2) || (z.state == 3)) && ((decide (z.car < 1)) || (decide (c.cars < z.car)))) then .bool (z.state == 1) else undef, bif !(((z.state == 2) || (z.state == 3)) && ((decide (z.car < 1)) || (decide (c.cars < z.car)))) then .bool (z.state == 1) else undef, bif (!(((z.state == 2) || (z.state == 3)) && ((decide (z.car < 1)) || (decide (c.cars < z.car)))) && (z.state == 1)) then .pointer (some ⟨b12, 1, none⟩) else undef, bif (!(((z.state == 2) || (z.state == 3)) && ((decide (z.car < 1)) || (decide (c.cars < z.car)))) && (z.state == 1)) then .int .i64 z.kind else undef, bif (!(((z.state == 2) || (z.state == 3)) && ((decide (z.car < 1)) || (decide (c.cars < z.car)))) && (z.state == 1)) then .bool (z.kind != 3) else undef, bif !(((z.state == 2) || (z.state == 3)) && ((decide (z.car < 1)) || (decide (c.cars < z.car)))) then .bool ((z.state == 1) && (z.kind != 3)) else undef, bif !(((z.state == 2) || (z.state == 3)) && ((decide (z.car < 1)) || (decide (c.cars < z.car)))) then .bool ((z.state == 1) && (z.kind != 3)) else undef, bif (!(((z.state == 2) || (z.state == 3)) && ((decide (z.car < 1)) || (decide (c.cars < z.car)))) && ((z.state == 1) && (z.kind != 3))) then .pointer (some ⟨b12, 4, none⟩) else undef, bif (!(((z.state == 2) || (z.state == 3)) && ((decide (z.car < 1)) || (decide (c.cars < z.car)))) && ((z.state == 1) && (z.kind != 3))) then .int .i64 z.car else undef, bif (!(((z.state == 2) || (z.state == 3)) && ((decide (z.car < 1)) || (decide (c.cars < z.car)))) && ((z.state == 1) && (z.kind != 3))) then .bool (z.car != 0) else undef, bif !(((z.state == 2) || (z.state == 3)) && ((decide (z.car < 1)) || (decide (c.cars < z.car)))) then .bool (((z.state == 1) && (z.kind != 3)) && (z.car != 0)) else undef, .bool false] jx) (fun (LL : Nat → Bool) (xx : Unit) ww => Hp [] wa ww [rB b12 26 [.int .i64 z.id, .int .i64 z.kind, .int .i64 z.src, .int .i64 z.dst, .int .i64 z.car, .int .i64 z.state, .int .i64 z.owner, .int .i64 z.born], rB b7 26 [.int .i64 y.id, .int .i64 y.kind, .int .i64 y.src, .int .i64 y.dst, .int .i64 y.car, .int .i64 y.state, .int .i64 y.owner, .int .i64 y.born], rB b4 26 [.int .i64 x.id, .int .i64 x.kind, .int .i64 x.src, .int .i64 x.dst, .int .i64 x.car, .int .i64 x.state, .int .i64 x.owner, .int .i64 x.born], rB b3 24 (cL c), rS (some ya) rc 1 (zs.map intRow)]) () H.out ?_ (steps_al ?_) ?_ ?_
  · exact fun _ _ _ _ _ h => h
  · refine al_cons ?_ (al_cons ?_ (al_cons ?_ (al_cons ?_ (al_cons ?_ (al_cons ?_ (al_cons ?_ (al_cons ?_ (al_cons ?_ (al_cons ?_ (al_cons ?_ (al_cons ?_ (al_cons ?_ (al_cons ?_ (al_cons ?_ (al_cons ?_ (al_cons ?_ (al_cons ?_ (al_cons ?_ (al_cons ?_ (al_cons ?_ (al_cons ?_ (al_cons ?_ (al_cons ?_ (al_cons ?_ (al_cons ?_ (al_cons ?_ (al_cons ?_ (al_cons ?_ (al_cons ?_ (al_cons ?_ (al_cons ?_ (al_cons ?_ (al_cons ?_ (al_cons ?_ (al_nil)))))))))))))))))))))))))))))))))))
    · intro LL xx ac wc sg hst hwant QQ hgo
      have se12 : ac.eval (.tmp 12) = _ := ((sg.free 12 (by kernel_rfl)).trans so12)
      have sg12 := gt_of se12
      exact op_val hwant hgo hst _ (by simp only [execOp, nth]; go_simp <;> omega) rfl
    · intro LL xx ac wc sg hst hwant QQ hgo
      have H := Lib.hid hst
      refine hpA_load1 tyint H rfl (sg.slot 0 (sg.anc 0 rfl)) hwant (by (repeat (first | exact List.Mem.head _ | apply List.Mem.tail))) (by rfl) ?_
      exact hgo _ () _ (fun _ _ => rfl) rfl hst
    · intro LL xx ac wc sg hst hwant QQ hgo
      have se165 : ac.eval (.tmp 165) = _ := (sg.slot 1 (sg.anc 1 rfl))
      have sg165 := gt_of se165
      (try simp only [nth] at se165 sg165)
      exact op_val hwant hgo hst _ (by simp only [execOp, nth]; go_simp <;> omega) rfl
    · intro LL xx ac wc sg hst hwant QQ hgo
      exact op_val hwant hgo hst _ (exec_move rfl (sg.slot 2 (sg.anc 2 rfl))) rfl
    · intro LL xx ac wc sg hst hwant QQ hgo
      have hG : (!(z.state == 2)) = true := (want_f rfl rfl (sg.slot 3 (sg.anc 3 rfl))).symm.trans hwant
      have se12 : ac.eval (.tmp 12) = _ := ((sg.free 12 (by kernel_rfl)).trans so12)
      have sg12 := gt_of se12
      exact op_val hwant hgo hst _ (by simp only [execOp, nth]; go_simp <;> omega) (cI hG)
    · intro LL xx ac wc sg hst hwant QQ hgo
      have hG : (!(z.state == 2)) = true := (want_f rfl rfl (sg.slot 3 (sg.anc 3 rfl))).symm.trans hwant
      have H := Lib.hid hst
      refine hpA_load1 tyint H rfl (cT (sg.slot 4 (sg.anc 4 rfl)) hG) hwant (by (repeat (first | exact List.Mem.head _ | apply List.Mem.tail))) (by rfl) ?_
      exact hgo _ () _ (fun _ _ => rfl) (cI hG) hst
    · intro LL xx ac wc sg hst hwant QQ hgo
      have hG : (!(z.state == 2)) = true := (want_f rfl rfl (sg.slot 3 (sg.anc 3 rfl))).symm.trans hwant
      have se169 : ac.eval (.tmp 169) = _ := (cT (sg.slot 5 (sg.anc 5 rfl)) hG)
      have sg169 := gt_of se169
      (try simp only [nth] at se169 sg169)
      exact op_val hwant hgo hst _ (by simp only [execOp, nth]; go_simp <;> omega) (cI hG)
    · intro LL xx ac wc sg hst hwant QQ hgo
      exact op_val hwant hgo hst (.bool ((z.state == 2) || (z.state == 3))) (exec_or (Y := z.state == 3) rfl (sg.slot 3 (sg.anc 3 rfl)) (fun qq => cT (sg.slot 6 (sg.anc 6 rfl)) (bk qq))) rfl
    · intro LL xx ac wc sg hst hwant QQ hgo
      exact op_val hwant hgo hst _ (exec_move rfl (sg.slot 7 (sg.anc 7 rfl))) rfl
    · intro LL xx ac wc sg hst hwant QQ hgo
      have hG : ((z.state == 2) || (z.state == 3)) = true := (want_t rfl rfl (sg.slot 8 (sg.anc 8 rfl))).symm.trans hwant
      have se12 : ac.eval (.tmp 12) = _ := ((sg.free 12 (by kernel_rfl)).trans so12)
      have sg12 := gt_of se12
      exact op_val hwant hgo hst _ (by simp only [execOp, nth]; go_simp <;> omega) (cI hG)
    · intro LL xx ac wc sg hst hwant QQ hgo
      have hG : ((z.state == 2) || (z.state == 3)) = true := (want_t rfl rfl (sg.slot 8 (sg.anc 8 rfl))).symm.trans hwant
      have H := Lib.hid hst
      refine hpA_load1 tyint H rfl (cT (sg.slot 9 (sg.anc 9 rfl)) hG) hwant (by (repeat (first | exact List.Mem.head _ | apply List.Mem.tail))) (by rfl) ?_
      exact hgo _ () _ (fun _ _ => rfl) (cI hG) hst
    · intro LL xx ac wc sg hst hwant QQ hgo
      have hG : ((z.state == 2) || (z.state == 3)) = true := (want_t rfl rfl (sg.slot 8 (sg.anc 8 rfl))).symm.trans hwant
      have se174 : ac.eval (.tmp 174) = _ := (cT (sg.slot 10 (sg.anc 10 rfl)) hG)
      have sg174 := gt_of se174
      (try simp only [nth] at se174 sg174)
      exact op_val hwant hgo hst _ (by simp only [execOp, nth]; go_simp <;> omega) (cI hG)
    · intro LL xx ac wc sg hst hwant QQ hgo
      have hG : ((z.state == 2) || (z.state == 3)) = true := (want_t rfl rfl (sg.slot 8 (sg.anc 8 rfl))).symm.trans hwant
      exact op_val hwant hgo hst _ (exec_move rfl (cT (sg.slot 11 (sg.anc 11 rfl)) hG)) (cI hG)
    · intro LL xx ac wc sg hst hwant QQ hgo
      have hG : (((z.state == 2) || (z.state == 3)) && !(decide (z.car < 1))) = true := (want_gf rfl rfl (sg.slot 12 (sg.anc 12 rfl))).symm.trans hwant
      have se12 : ac.eval (.tmp 12) = _ := ((sg.free 12 (by kernel_rfl)).trans so12)
      have sg12 := gt_of se12
      exact op_val hwant hgo hst _ (by simp only [execOp, nth]; go_simp <;> omega) (cI hG)
    · intro LL xx ac wc sg hst hwant QQ hgo
      have hG : (((z.state == 2) || (z.state == 3)) && !(decide (z.car < 1))) = true := (want_gf rfl rfl (sg.slot 12 (sg.anc 12 rfl))).symm.trans hwant
      have H := Lib.hid hst
      refine hpA_load1 tyint H rfl (cT (sg.slot 13 (sg.anc 13 rfl)) hG) hwant (by (repeat (first | exact List.Mem.head _ | apply List.Mem.tail))) (by rfl) ?_
      exact hgo _ () _ (fun _ _ => rfl) (cI hG) hst
    · intro LL xx ac wc sg hst hwant QQ hgo
      have hG : (((z.state == 2) || (z.state == 3)) && !(decide (z.car < 1))) = true := (want_gf rfl rfl (sg.slot 12 (sg.anc 12 rfl))).symm.trans hwant
      have se3 : ac.eval (.tmp 3) = _ := ((sg.free 3 (by kernel_rfl)).trans so3)
      have sg3 := gt_of se3
      exact op_val hwant hgo hst _ (by simp only [execOp, nth]; go_simp <;> omega) (cI hG)
    · intro LL xx ac wc sg hst hwant QQ hgo
      have hG : (((z.state == 2) || (z.state == 3)) && !(decide (z.car < 1))) = true := (want_gf rfl rfl (sg.slot 12 (sg.anc 12 rfl))).symm.trans hwant
      have H := Lib.hid hst
      refine hpA_load1 tyint H rfl (cT (sg.slot 15 (sg.anc 15 rfl)) hG) hwant (by (repeat (first | exact List.Mem.head _ | apply List.Mem.tail))) (by rfl) ?_
      exact hgo _ () _ (fun _ _ => rfl) (cI hG) hst
    · intro LL xx ac wc sg hst hwant QQ hgo
      have hG : (((z.state == 2) || (z.state == 3)) && !(decide (z.car < 1))) = true := (want_gf rfl rfl (sg.slot 12 (sg.anc 12 rfl))).symm.trans hwant
      have se178 : ac.eval (.tmp 178) = _ := (cT (sg.slot 14 (sg.anc 14 rfl)) hG)
      have sg178 := gt_of se178
      have se180 : ac.eval (.tmp 180) = _ := (cT (sg.slot 16 (sg.anc 16 rfl)) hG)
      have sg180 := gt_of se180
      (try simp only [nth] at se178 sg178 se180 sg180)
      exact op_val hwant hgo hst _ (by simp only [execOp, nth]; go_simp <;> omega) (cI hG)
    · intro LL xx ac wc sg hst hwant QQ hgo
      have hG : ((z.state == 2) || (z.state == 3)) = true := (want_t rfl rfl (sg.slot 8 (sg.anc 8 rfl))).symm.trans hwant
      exact op_val hwant hgo hst (.bool ((decide (z.car < 1)) || (decide (c.cars < z.car)))) (exec_or (Y := decide (c.cars < z.car)) rfl (cT (sg.slot 12 (sg.anc 12 rfl)) hG) (fun qq => cT (sg.slot 17 (sg.anc 17 rfl)) (bj hG (bk qq)))) (cI hG)
    · intro LL xx ac wc sg hst hwant QQ hgo
      exact op_val hwant hgo hst (.bool (((z.state == 2) || (z.state == 3)) && ((decide (z.car < 1)) || (decide (c.cars < z.car))))) (exec_and (Y := (decide (z.car < 1)) || (decide (c.cars < z.car))) rfl (sg.slot 8 (sg.anc 8 rfl)) (fun qq => cT (sg.slot 18 (sg.anc 18 rfl)) qq)) rfl
    · intro LL xx ac wc sg hst hwant QQ hgo
      exact op_val hwant hgo hst _ (exec_move rfl (sg.slot 19 (sg.anc 19 rfl))) rfl
    · intro LL xx ac wc sg hst hwant QQ hgo
      have hG : (!(((z.state == 2) || (z.state == 3)) && ((decide (z.car < 1)) || (decide (c.cars < z.car))))) = true := (want_f rfl rfl (sg.slot 20 (sg.anc 20 rfl))).symm.trans hwant
      have se12 : ac.eval (.tmp 12) = _ := ((sg.free 12 (by kernel_rfl)).trans so12)
      have sg12 := gt_of se12
      exact op_val hwant hgo hst _ (by simp only [execOp, nth]; go_simp <;> omega) (cI hG)
    · intro LL xx ac wc sg hst hwant QQ hgo
      have hG : (!(((z.state == 2) || (z.state == 3)) && ((decide (z.car < 1)) || (decide (c.cars < z.car))))) = true := (want_f rfl rfl (sg.slot 20 (sg.anc 20 rfl))).symm.trans hwant
      have H := Lib.hid hst
      refine hpA_load1 tyint H rfl (cT (sg.slot 21 (sg.anc 21 rfl)) hG) hwant (by (repeat (first | exact List.Mem.head _ | apply List.Mem.tail))) (by rfl) ?_
      exact hgo _ () _ (fun _ _ => rfl) (cI hG) hst
    · intro LL xx ac wc sg hst hwant QQ hgo
      have hG : (!(((z.state == 2) || (z.state == 3)) && ((decide (z.car < 1)) || (decide (c.cars < z.car))))) = true := (want_f rfl rfl (sg.slot 20 (sg.anc 20 rfl))).symm.trans hwant
      have se186 : ac.eval (.tmp 186) = _ := (cT (sg.slot 22 (sg.anc 22 rfl)) hG)
      have sg186 := gt_of se186
      (try simp only [nth] at se186 sg186)
      exact op_val hwant hgo hst _ (by simp only [execOp, nth]; go_simp <;> omega) (cI hG)
    · intro LL xx ac wc sg hst hwant QQ hgo
      have hG : (!(((z.state == 2) || (z.state == 3)) && ((decide (z.car < 1)) || (decide (c.cars < z.car))))) = true := (want_f rfl rfl (sg.slot 20 (sg.anc 20 rfl))).symm.trans hwant
      exact op_val hwant hgo hst _ (exec_move rfl (cT (sg.slot 23 (sg.anc 23 rfl)) hG)) (cI hG)
    · intro LL xx ac wc sg hst hwant QQ hgo
      have hG : (!(((z.state == 2) || (z.state == 3)) && ((decide (z.car < 1)) || (decide (c.cars < z.car)))) && (z.state == 1)) = true := (want_gt rfl rfl (sg.slot 24 (sg.anc 24 rfl))).symm.trans hwant
      have se12 : ac.eval (.tmp 12) = _ := ((sg.free 12 (by kernel_rfl)).trans so12)
      have sg12 := gt_of se12
      exact op_val hwant hgo hst _ (by simp only [execOp, nth]; go_simp <;> omega) (cI hG)
    · intro LL xx ac wc sg hst hwant QQ hgo
      have hG : (!(((z.state == 2) || (z.state == 3)) && ((decide (z.car < 1)) || (decide (c.cars < z.car)))) && (z.state == 1)) = true := (want_gt rfl rfl (sg.slot 24 (sg.anc 24 rfl))).symm.trans hwant
      have H := Lib.hid hst
      refine hpA_load1 tyint H rfl (cT (sg.slot 25 (sg.anc 25 rfl)) hG) hwant (by (repeat (first | exact List.Mem.head _ | apply List.Mem.tail))) (by rfl) ?_
      exact hgo _ () _ (fun _ _ => rfl) (cI hG) hst
    · intro LL xx ac wc sg hst hwant QQ hgo
      have hG : (!(((z.state == 2) || (z.state == 3)) && ((decide (z.car < 1)) || (decide (c.cars < z.car)))) && (z.state == 1)) = true := (want_gt rfl rfl (sg.slot 24 (sg.anc 24 rfl))).symm.trans hwant
      have se190 : ac.eval (.tmp 190) = _ := (cT (sg.slot 26 (sg.anc 26 rfl)) hG)
      have sg190 := gt_of se190
      (try simp only [nth] at se190 sg190)
      exact op_val hwant hgo hst _ (by simp only [execOp, nth]; go_simp <;> omega) (cI hG)
    · intro LL xx ac wc sg hst hwant QQ hgo
      have hG : (!(((z.state == 2) || (z.state == 3)) && ((decide (z.car < 1)) || (decide (c.cars < z.car))))) = true := (want_f rfl rfl (sg.slot 20 (sg.anc 20 rfl))).symm.trans hwant
      exact op_val hwant hgo hst (.bool ((z.state == 1) && (z.kind != 3))) (exec_and (Y := z.kind != 3) rfl (cT (sg.slot 24 (sg.anc 24 rfl)) hG) (fun qq => cT (sg.slot 27 (sg.anc 27 rfl)) (bj hG qq))) (cI hG)
    · intro LL xx ac wc sg hst hwant QQ hgo
      have hG : (!(((z.state == 2) || (z.state == 3)) && ((decide (z.car < 1)) || (decide (c.cars < z.car))))) = true := (want_f rfl rfl (sg.slot 20 (sg.anc 20 rfl))).symm.trans hwant
      exact op_val hwant hgo hst _ (exec_move rfl (cT (sg.slot 28 (sg.anc 28 rfl)) hG)) (cI hG)
    · intro LL xx ac wc sg hst hwant QQ hgo
      have hG : (!(((z.state == 2) || (z.state == 3)) && ((decide (z.car < 1)) || (decide (c.cars < z.car)))) && ((z.state == 1) && (z.kind != 3))) = true := (want_gt rfl rfl (sg.slot 29 (sg.anc 29 rfl))).symm.trans hwant
      have se12 : ac.eval (.tmp 12) = _ := ((sg.free 12 (by kernel_rfl)).trans so12)
      have sg12 := gt_of se12
      exact op_val hwant hgo hst _ (by simp only [execOp, nth]; go_simp <;> omega) (cI hG)
    · intro LL xx ac wc sg hst hwant QQ hgo
      have hG : (!(((z.state == 2) || (z.state == 3)) && ((decide (z.car < 1)) || (decide (c.cars < z.car)))) && ((z.state == 1) && (z.kind != 3))) = true := (want_gt rfl rfl (sg.slot 29 (sg.anc 29 rfl))).symm.trans hwant
      have H := Lib.hid hst
      refine hpA_load1 tyint H rfl (cT (sg.slot 30 (sg.anc 30 rfl)) hG) hwant (by (repeat (first | exact List.Mem.head _ | apply List.Mem.tail))) (by rfl) ?_
      exact hgo _ () _ (fun _ _ => rfl) (cI hG) hst
    · intro LL xx ac wc sg hst hwant QQ hgo
      have hG : (!(((z.state == 2) || (z.state == 3)) && ((decide (z.car < 1)) || (decide (c.cars < z.car)))) && ((z.state == 1) && (z.kind != 3))) = true := (want_gt rfl rfl (sg.slot 29 (sg.anc 29 rfl))).symm.trans hwant
      have se195 : ac.eval (.tmp 195) = _ := (cT (sg.slot 31 (sg.anc 31 rfl)) hG)
      have sg195 := gt_of se195
      (try simp only [nth] at se195 sg195)
      exact op_val hwant hgo hst _ (by simp only [execOp, nth]; go_simp <;> omega) (cI hG)
    · intro LL xx ac wc sg hst hwant QQ hgo
      have hG : (!(((z.state == 2) || (z.state == 3)) && ((decide (z.car < 1)) || (decide (c.cars < z.car))))) = true := (want_f rfl rfl (sg.slot 20 (sg.anc 20 rfl))).symm.trans hwant
      exact op_val hwant hgo hst (.bool (((z.state == 1) && (z.kind != 3)) && (z.car != 0))) (exec_and (Y := z.car != 0) rfl (cT (sg.slot 29 (sg.anc 29 rfl)) hG) (fun qq => cT (sg.slot 32 (sg.anc 32 rfl)) (bj hG qq))) (cI hG)
    · intro LL xx ac wc sg hst hwant QQ hgo
      exact op_val hwant hgo hst (.bool ((((z.state == 2) || (z.state == 3)) && ((decide (z.car < 1)) || (decide (c.cars < z.car)))) || (((z.state == 1) && (z.kind != 3)) && (z.car != 0)))) (exec_or (Y := ((z.state == 1) && (z.kind != 3)) && (z.car != 0)) rfl (sg.slot 20 (sg.anc 20 rfl)) (fun qq => cT (sg.slot 33 (sg.anc 33 rfl)) (bk qq))) (congrArg Value.bool (by first | assumption | (simp; done)))
  · refine skips [4, 5, 6, 9, 10, 11, 12, 13, 14, 15, 16, 17, 18, 21, 22, 23, 24, 25, 26, 27, 28, 29, 30, 31, 32, 33] (by kernel_rfl) ?_
    refine List.forall_mem_cons.2 ⟨?_, List.forall_mem_cons.2 ⟨?_, List.forall_mem_cons.2 ⟨?_, List.forall_mem_cons.2 ⟨?_, List.forall_mem_cons.2 ⟨?_, List.forall_mem_cons.2 ⟨?_, List.forall_mem_cons.2 ⟨?_, List.forall_mem_cons.2 ⟨?_, List.forall_mem_cons.2 ⟨?_, List.forall_mem_cons.2 ⟨?_, List.forall_mem_cons.2 ⟨?_, List.forall_mem_cons.2 ⟨?_, List.forall_mem_cons.2 ⟨?_, List.forall_mem_cons.2 ⟨?_, List.forall_mem_cons.2 ⟨?_, List.forall_mem_cons.2 ⟨?_, List.forall_mem_cons.2 ⟨?_, List.forall_mem_cons.2 ⟨?_, List.forall_mem_cons.2 ⟨?_, List.forall_mem_cons.2 ⟨?_, List.forall_mem_cons.2 ⟨?_, List.forall_mem_cons.2 ⟨?_, List.forall_mem_cons.2 ⟨?_, List.forall_mem_cons.2 ⟨?_, List.forall_mem_cons.2 ⟨?_, List.forall_mem_cons.2 ⟨?_, fun _ h => by cases h⟩⟩⟩⟩⟩⟩⟩⟩⟩⟩⟩⟩⟩⟩⟩⟩⟩⟩⟩⟩⟩⟩⟩⟩⟩⟩
    · intro oo hop LL xx ac sg hwant
      cases Option.some.inj hop
      have hG : (!(z.state == 2)) = false := (want_f rfl rfl (sg.slot 3 (sg.anc 3 rfl))).symm.trans hwant
      exact ⟨cF hG, fun _ h => h⟩
    · intro oo hop LL xx ac sg hwant
      cases Option.some.inj hop
      have hG : (!(z.state == 2)) = false := (want_f rfl rfl (sg.slot 3 (sg.anc 3 rfl))).symm.trans hwant
      exact ⟨cF hG, fun _ h => h⟩
    · intro oo hop LL xx ac sg hwant
      cases Option.some.inj hop
      have hG : (!(z.state == 2)) = false := (want_f rfl rfl (sg.slot 3 (sg.anc 3 rfl))).symm.trans hwant
      exact ⟨cF hG, fun _ h => h⟩
    · intro oo hop LL xx ac sg hwant
      cases Option.some.inj hop
      have hG : ((z.state == 2) || (z.state == 3)) = false := (want_t rfl rfl (sg.slot 8 (sg.anc 8 rfl))).symm.trans hwant
      exact ⟨cF hG, fun _ h => h⟩
    · intro oo hop LL xx ac sg hwant
      cases Option.some.inj hop
      have hG : ((z.state == 2) || (z.state == 3)) = false := (want_t rfl rfl (sg.slot 8 (sg.anc 8 rfl))).symm.trans hwant
      exact ⟨cF hG, fun _ h => h⟩
    · intro oo hop LL xx ac sg hwant
      cases Option.some.inj hop
      have hG : ((z.state == 2) || (z.state == 3)) = false := (want_t rfl rfl (sg.slot 8 (sg.anc 8 rfl))).symm.trans hwant
      exact ⟨cF hG, fun _ h => h⟩
    · intro oo hop LL xx ac sg hwant
      cases Option.some.inj hop
      have hG : ((z.state == 2) || (z.state == 3)) = false := (want_t rfl rfl (sg.slot 8 (sg.anc 8 rfl))).symm.trans hwant
      exact ⟨cF hG, fun _ h => h⟩
    · intro oo hop LL xx ac sg hwant
      cases Option.some.inj hop
      have hG : (((z.state == 2) || (z.state == 3)) && !(decide (z.car < 1))) = false := (want_gf rfl rfl (sg.slot 12 (sg.anc 12 rfl))).symm.trans hwant
      exact ⟨cF hG, fun _ h => h⟩
    · intro oo hop LL xx ac sg hwant
      cases Option.some.inj hop
      have hG : (((z.state == 2) || (z.state == 3)) && !(decide (z.car < 1))) = false := (want_gf rfl rfl (sg.slot 12 (sg.anc 12 rfl))).symm.trans hwant
      exact ⟨cF hG, fun _ h => h⟩
    · intro oo hop LL xx ac sg hwant
      cases Option.some.inj hop
      have hG : (((z.state == 2) || (z.state == 3)) && !(decide (z.car < 1))) = false := (want_gf rfl rfl (sg.slot 12 (sg.anc 12 rfl))).symm.trans hwant
      exact ⟨cF hG, fun _ h => h⟩
    · intro oo hop LL xx ac sg hwant
      cases Option.some.inj hop
      have hG : (((z.state == 2) || (z.state == 3)) && !(decide (z.car < 1))) = false := (want_gf rfl rfl (sg.slot 12 (sg.anc 12 rfl))).symm.trans hwant
      exact ⟨cF hG, fun _ h => h⟩
    · intro oo hop LL xx ac sg hwant
      cases Option.some.inj hop
      have hG : (((z.state == 2) || (z.state == 3)) && !(decide (z.car < 1))) = false := (want_gf rfl rfl (sg.slot 12 (sg.anc 12 rfl))).symm.trans hwant
      exact ⟨cF hG, fun _ h => h⟩
    · intro oo hop LL xx ac sg hwant
      cases Option.some.inj hop
      have hG : ((z.state == 2) || (z.state == 3)) = false := (want_t rfl rfl (sg.slot 8 (sg.anc 8 rfl))).symm.trans hwant
      exact ⟨cF hG, fun _ h => h⟩
    · intro oo hop LL xx ac sg hwant
      cases Option.some.inj hop
      have hG : (!(((z.state == 2) || (z.state == 3)) && ((decide (z.car < 1)) || (decide (c.cars < z.car))))) = false := (want_f rfl rfl (sg.slot 20 (sg.anc 20 rfl))).symm.trans hwant
      exact ⟨cF hG, fun _ h => h⟩
    · intro oo hop LL xx ac sg hwant
      cases Option.some.inj hop
      have hG : (!(((z.state == 2) || (z.state == 3)) && ((decide (z.car < 1)) || (decide (c.cars < z.car))))) = false := (want_f rfl rfl (sg.slot 20 (sg.anc 20 rfl))).symm.trans hwant
      exact ⟨cF hG, fun _ h => h⟩
    · intro oo hop LL xx ac sg hwant
      cases Option.some.inj hop
      have hG : (!(((z.state == 2) || (z.state == 3)) && ((decide (z.car < 1)) || (decide (c.cars < z.car))))) = false := (want_f rfl rfl (sg.slot 20 (sg.anc 20 rfl))).symm.trans hwant
      exact ⟨cF hG, fun _ h => h⟩
    · intro oo hop LL xx ac sg hwant
      cases Option.some.inj hop
      have hG : (!(((z.state == 2) || (z.state == 3)) && ((decide (z.car < 1)) || (decide (c.cars < z.car))))) = false := (want_f rfl rfl (sg.slot 20 (sg.anc 20 rfl))).symm.trans hwant
      exact ⟨cF hG, fun _ h => h⟩
    · intro oo hop LL xx ac sg hwant
      cases Option.some.inj hop
      have hG : (!(((z.state == 2) || (z.state == 3)) && ((decide (z.car < 1)) || (decide (c.cars < z.car)))) && (z.state == 1)) = false := (want_gt rfl rfl (sg.slot 24 (sg.anc 24 rfl))).symm.trans hwant
      exact ⟨cF hG, fun _ h => h⟩
    · intro oo hop LL xx ac sg hwant
      cases Option.some.inj hop
      have hG : (!(((z.state == 2) || (z.state == 3)) && ((decide (z.car < 1)) || (decide (c.cars < z.car)))) && (z.state == 1)) = false := (want_gt rfl rfl (sg.slot 24 (sg.anc 24 rfl))).symm.trans hwant
      exact ⟨cF hG, fun _ h => h⟩
    · intro oo hop LL xx ac sg hwant
      cases Option.some.inj hop
      have hG : (!(((z.state == 2) || (z.state == 3)) && ((decide (z.car < 1)) || (decide (c.cars < z.car)))) && (z.state == 1)) = false := (want_gt rfl rfl (sg.slot 24 (sg.anc 24 rfl))).symm.trans hwant
      exact ⟨cF hG, fun _ h => h⟩
    · intro oo hop LL xx ac sg hwant
      cases Option.some.inj hop
      have hG : (!(((z.state == 2) || (z.state == 3)) && ((decide (z.car < 1)) || (decide (c.cars < z.car))))) = false := (want_f rfl rfl (sg.slot 20 (sg.anc 20 rfl))).symm.trans hwant
      exact ⟨cF hG, fun _ h => h⟩
    · intro oo hop LL xx ac sg hwant
      cases Option.some.inj hop
      have hG : (!(((z.state == 2) || (z.state == 3)) && ((decide (z.car < 1)) || (decide (c.cars < z.car))))) = false := (want_f rfl rfl (sg.slot 20 (sg.anc 20 rfl))).symm.trans hwant
      exact ⟨cF hG, fun _ h => h⟩
    · intro oo hop LL xx ac sg hwant
      cases Option.some.inj hop
      have hG : (!(((z.state == 2) || (z.state == 3)) && ((decide (z.car < 1)) || (decide (c.cars < z.car)))) && ((z.state == 1) && (z.kind != 3))) = false := (want_gt rfl rfl (sg.slot 29 (sg.anc 29 rfl))).symm.trans hwant
      exact ⟨cF hG, fun _ h => h⟩
    · intro oo hop LL xx ac sg hwant
      cases Option.some.inj hop
      have hG : (!(((z.state == 2) || (z.state == 3)) && ((decide (z.car < 1)) || (decide (c.cars < z.car)))) && ((z.state == 1) && (z.kind != 3))) = false := (want_gt rfl rfl (sg.slot 29 (sg.anc 29 rfl))).symm.trans hwant
      exact ⟨cF hG, fun _ h => h⟩
    · intro oo hop LL xx ac sg hwant
      cases Option.some.inj hop
      have hG : (!(((z.state == 2) || (z.state == 3)) && ((decide (z.car < 1)) || (decide (c.cars < z.car)))) && ((z.state == 1) && (z.kind != 3))) = false := (want_gt rfl rfl (sg.slot 29 (sg.anc 29 rfl))).symm.trans hwant
      exact ⟨cF hG, fun _ h => h⟩
    · intro oo hop LL xx ac sg hwant
      cases Option.some.inj hop
      have hG : (!(((z.state == 2) || (z.state == 3)) && ((decide (z.car < 1)) || (decide (c.cars < z.car))))) = false := (want_f rfl rfl (sg.slot 20 (sg.anc 20 rfl))).symm.trans hwant
      exact ⟨cF hG, fun _ h => h⟩
  · intro xx ac1 wz hfr hsl hst
    exact hfin ac1 wz (hfr.size.trans hz) hfr.defers (fr_keep hfr [164, 165, 166, 167, 168, 169, 170, 171, 172, 173, 174, 175, 176, 177, 178, 179, 180, 181, 182, 183, 184, 185, 186, 187, 188, 189, 190, 191, 192, 193, 194, 195, 196, 197, 198] (by kernel_rfl)) (hsl 34 (by decide)) (Lib.hid hst)
set_option maxRecDepth 20000 in
theorem goes_w_r38 (c : Cfg) (x : CallV) (rc : Nat) (zs : List Int) (b3 : Nat) (b4 : Nat) (b7 : Nat) (i : Nat) (y : CallV) (hi : i ≤ zs.length) (hi2 : i ≤ 60) (z2ld : i < zs.length) (z2rd : (i : Int) < 60) (ya : Addr) (d : Int) (m : Nat) (hm1 : m ≤ 63) (hm : IntKind.i64.wrap ((IntKind.u64.wrap d).tmod 64) = (m : Int)) (r : Nat) (q : Nat) (p : Nat) (hr6 : r < 6) (hq11 : q < 11) (hp4 : p < 4) (hr : (m : Int).tmod 6 = (r : Int)) (hq : IntKind.i64.wrap ((m : Int).tdiv 6) = (q : Int)) (hp : (q : Int).tmod 4 = (p : Int)) (hq2 : IntKind.i64.wrap ((m : Int) / 6) = (q : Int)) (b12 : Nat) (z : CallV) (f : Int) (hl : (livesV y) = true) (hmy : (mayV c y z) = true) (i1 : (z.id != 1) = false) (i2 : (z.kind != x.kind) = false) (i3 : (z.owner != 2) = false) (i4 : (z.born != 3) = false) (i5 : (z.dst != x.dst) = false) (g1 : (decide (goalV z < 1)) = false) (g2 : (decide (c.floors < goalV z)) = false) (hlv : ((livesV z) == (((z.state == 4) || (z.state == 5)) || (z.state == 6))) = false) (hcr : ((((z.state == 2) || (z.state == 3)) && ((decide (z.car < 1)) || (decide (c.cars < z.car)))) || (((z.state == 1) && (z.kind != 3)) && (z.car != 0))) = false) {wa wb : World} (H : Hid (Hp [] wa wb [rB b12 26 [.int .i64 z.id, .int .i64 z.kind, .int .i64 z.src, .int .i64 z.dst, .int .i64 z.car, .int .i64 z.state, .int .i64 z.owner, .int .i64 z.born], rB b7 26 [.int .i64 y.id, .int .i64 y.kind, .int .i64 y.src, .int .i64 y.dst, .int .i64 y.car, .int .i64 y.state, .int .i64 y.owner, .int .i64 y.born], rB b4 26 [.int .i64 x.id, .int .i64 x.kind, .int .i64 x.src, .int .i64 x.dst, .int .i64 x.car, .int .i64 x.state, .int .i64 x.owner, .int .i64 x.born], rB b3 24 (cL c), rS (some ya) rc 1 (zs.map intRow)])) (ac0 : Act) (hz : ac0.tmps.size = 203) (so12 : ac0.eval (.tmp 12) = .pointer (some ⟨b12, 0, none⟩)) {QR : Exit → Act → World → Prop} (hfin : ∀ (ac1 : Act) (wz : World), ac1.tmps.size = 203 → ac1.defers = ac0.defers → (∀ t, ([9, 199, 200, 201] : List Nat).contains t = false → ac1.eval (.tmp t) = ac0.eval (.tmp t)) → ac1.eval (.tmp 9) = .bool (!(livesV z)) →  Hid (Hp [] wa wz [rB b12 26 [.int .i64 z.id, .int .i64 z.kind, .int .i64 z.src, .int .i64 z.dst, .int .i64 z.car, .int .i64 z.state, .int .i64 z.owner, .int .i64 z.born], rB b7 26 [.int .i64 y.id, .int .i64 y.kind, .int .i64 y.src, .int .i64 y.dst, .int .i64 y.car, .int .i64 y.state, .int .i64 y.owner, .int .i64 y.born], rB b4 26 [.int .i64 x.id, .int .i64 x.kind, .int .i64 x.src, .int .i64 x.dst, .int .i64 x.car, .int .i64 x.state, .int .i64 x.owner, .int .i64 x.born], rB b3 24 (cL c), rS (some ya) rc 1 (zs.map intRow)]) → QR .normal ac1 wz) : (regAt Try.f3 38).wp Try.prog QR ac0 wb := by
  refine wp_region_sq (by kernel_rfl) 203 hz (by kernel_rfl) (fun (xx : Unit) jx => nth [.agg #[.int .i64 z.id, .int .i64 z.kind, .int .i64 z.src, .int .i64 z.dst, .int .i64 z.car, .int .i64 z.state, .int .i64 z.owner, .int .i64 z.born], .bool (livesV z), .bool (!(livesV z)), .bool (!(livesV z))] jx) (fun (LL : Nat → Bool) (xx : Unit) ww => Hp [] wa ww [rB b12 26 [.int .i64 z.id, .int .i64 z.kind, .int .i64 z.src, .int .i64 z.dst, .int .i64 z.car, .int .i64 z.state, .int .i64 z.owner, .int .i64 z.born], rB b7 26 [.int .i64 y.id, .int .i64 y.kind, .int .i64 y.src, .int .i64 y.dst, .int .i64 y.car, .int .i64 y.state, .int .i64 y.owner, .int .i64 y.born], rB b4 26 [.int .i64 x.id, .int .i64 x.kind, .int .i64 x.src, .int .i64 x.dst, .int .i64 x.car, .int .i64 x.state, .int .i64 x.owner, .int .i64 x.born], rB b3 24 (cL c), rS (some ya) rc 1 (zs.map intRow)]) () H.out ?_ (steps_al ?_) ?_ ?_
  · exact fun _ _ _ _ _ h => h
  · refine al_cons ?_ (al_cons ?_ (al_cons ?_ (al_cons ?_ (al_nil))))
    · intro LL xx ac wc sg hst hwant QQ hgo
      have H := Lib.hid hst
      refine hpA_load tyapi_Call H rfl ((sg.free 12 (by kernel_rfl)).trans so12) hwant (by (repeat (first | exact List.Mem.head _ | apply List.Mem.tail))) (by rfl) rfl ?_
      exact hgo _ () _ (fun _ _ => rfl) rfl hst
    · intro LL xx ac wc sg hst hwant QQ hgo
      have se199 : ac.eval (.tmp 199) = _ := (sg.slot 0 (sg.anc 0 rfl))
      have sg199 := gt_of se199
      (try simp only [nth] at se199 sg199)
      refine op_call hwant hgo 23 _ (by simp only [execOp]; go_simp) (callLives z wc) ?_
      rintro er wd ⟨rfl, hof⟩
      exact ⟨_, (), rfl, fun _ _ => rfl, rfl, Hp.quiet hst hof⟩
    · intro LL xx ac wc sg hst hwant QQ hgo
      have se200 : ac.eval (.tmp 200) = _ := (sg.slot 1 (sg.anc 1 rfl))
      have sg200 := gt_of se200
      (try simp only [nth] at se200 sg200)
      exact op_val hwant hgo hst _ (by simp only [execOp, nth]; go_simp <;> omega) rfl
    · intro LL xx ac wc sg hst hwant QQ hgo
      exact op_val hwant hgo hst _ (exec_assign rfl (sg.slot 2 (sg.anc 2 rfl))) rfl
  · exact skips [] (by kernel_rfl) (fun _ h => by cases h)
  · intro xx ac1 wz hfr hsl hst
    exact hfin ac1 wz (hfr.size.trans hz) hfr.defers (fr_keep hfr [9, 199, 200, 201] (by kernel_rfl)) (hsl 3 (by decide)) (Lib.hid hst)
set_option maxRecDepth 20000 in
theorem goes_w_r39 (c : Cfg) (x : CallV) (rc : Nat) (zs : List Int) (b3 : Nat) (b4 : Nat) (b7 : Nat) (i : Nat) (y : CallV) (hi : i ≤ zs.length) (hi2 : i ≤ 60) (z2ld : i < zs.length) (z2rd : (i : Int) < 60) (ya : Addr) (d : Int) (m : Nat) (hm1 : m ≤ 63) (hm : IntKind.i64.wrap ((IntKind.u64.wrap d).tmod 64) = (m : Int)) (r : Nat) (q : Nat) (p : Nat) (hr6 : r < 6) (hq11 : q < 11) (hp4 : p < 4) (hr : (m : Int).tmod 6 = (r : Int)) (hq : IntKind.i64.wrap ((m : Int).tdiv 6) = (q : Int)) (hp : (q : Int).tmod 4 = (p : Int)) (hq2 : IntKind.i64.wrap ((m : Int) / 6) = (q : Int)) (b12 : Nat) (z : CallV) (f : Int) (hl : (livesV y) = true) (hmy : (mayV c y z) = true) (i1 : (z.id != 1) = false) (i2 : (z.kind != x.kind) = false) (i3 : (z.owner != 2) = false) (i4 : (z.born != 3) = false) (i5 : (z.dst != x.dst) = false) (g1 : (decide (goalV z < 1)) = false) (g2 : (decide (c.floors < goalV z)) = false) (hlv : ((livesV z) == (((z.state == 4) || (z.state == 5)) || (z.state == 6))) = false) (hcr : ((((z.state == 2) || (z.state == 3)) && ((decide (z.car < 1)) || (decide (c.cars < z.car)))) || (((z.state == 1) && (z.kind != 3)) && (z.car != 0))) = false) {wa wb : World} (H : Hid (Hp [] wa wb [rB b12 26 [.int .i64 z.id, .int .i64 z.kind, .int .i64 z.src, .int .i64 z.dst, .int .i64 z.car, .int .i64 z.state, .int .i64 z.owner, .int .i64 z.born], rB b7 26 [.int .i64 y.id, .int .i64 y.kind, .int .i64 y.src, .int .i64 y.dst, .int .i64 y.car, .int .i64 y.state, .int .i64 y.owner, .int .i64 y.born], rB b4 26 [.int .i64 x.id, .int .i64 x.kind, .int .i64 x.src, .int .i64 x.dst, .int .i64 x.car, .int .i64 x.state, .int .i64 x.owner, .int .i64 x.born], rB b3 24 (cL c), rS (some ya) rc 1 (zs.map intRow)])) (ac0 : Act) (hz : ac0.tmps.size = 203) (so7 : ac0.eval (.tmp 7) = .pointer (some ⟨b7, 0, none⟩)) (so12 : ac0.eval (.tmp 12) = .pointer (some ⟨b12, 0, none⟩)) {QR : Exit → Act → World → Prop} (hfin : ∀ (ac1 : Act) (wz : World), ac1.tmps.size = 203 → ac1.defers = ac0.defers → (∀ t, ([202] : List Nat).contains t = false → ac1.eval (.tmp t) = ac0.eval (.tmp t)) →  Hid (Hp [] wa wz [rB b12 26 [.int .i64 z.id, .int .i64 z.kind, .int .i64 z.src, .int .i64 z.dst, .int .i64 z.car, .int .i64 z.state, .int .i64 z.owner, .int .i64 z.born], rB b7 26 [.int .i64 z.id, .int .i64 z.kind, .int .i64 z.src, .int .i64 z.dst, .int .i64 z.car, .int .i64 z.state, .int .i64 z.owner, .int .i64 z.born], rB b4 26 [.int .i64 x.id, .int .i64 x.kind, .int .i64 x.src, .int .i64 x.dst, .int .i64 x.car, .int .i64 x.state, .int .i64 x.owner, .int .i64 x.born], rB b3 24 (cL c), rS (some ya) rc 1 (zs.map intRow)]) → QR .normal ac1 wz) : (regAt Try.f3 39).wp Try.prog QR ac0 wb := by
  refine wp_region_sq (by kernel_rfl) 203 hz (by kernel_rfl) (fun (xx : Unit) jx => nth [.agg #[.int .i64 z.id, .int .i64 z.kind, .int .i64 z.src, .int .i64 z.dst, .int .i64 z.car, .int .i64 z.state, .int .i64 z.owner, .int .i64 z.born], undef] jx) (fun (LL : Nat → Bool) (xx : Unit) ww => Hp [] wa ww (bif LL 1 then [rB b12 26 [.int .i64 z.id, .int .i64 z.kind, .int .i64 z.src, .int .i64 z.dst, .int .i64 z.car, .int .i64 z.state, .int .i64 z.owner, .int .i64 z.born], rB b7 26 [.int .i64 z.id, .int .i64 z.kind, .int .i64 z.src, .int .i64 z.dst, .int .i64 z.car, .int .i64 z.state, .int .i64 z.owner, .int .i64 z.born], rB b4 26 [.int .i64 x.id, .int .i64 x.kind, .int .i64 x.src, .int .i64 x.dst, .int .i64 x.car, .int .i64 x.state, .int .i64 x.owner, .int .i64 x.born], rB b3 24 (cL c), rS (some ya) rc 1 (zs.map intRow)] else [rB b12 26 [.int .i64 z.id, .int .i64 z.kind, .int .i64 z.src, .int .i64 z.dst, .int .i64 z.car, .int .i64 z.state, .int .i64 z.owner, .int .i64 z.born], rB b7 26 [.int .i64 y.id, .int .i64 y.kind, .int .i64 y.src, .int .i64 y.dst, .int .i64 y.car, .int .i64 y.state, .int .i64 y.owner, .int .i64 y.born], rB b4 26 [.int .i64 x.id, .int .i64 x.kind, .int .i64 x.src, .int .i64 x.dst, .int .i64 x.car, .int .i64 x.state, .int .i64 x.owner, .int .i64 x.born], rB b3 24 (cL c), rS (some ya) rc 1 (zs.map intRow)])) () H.out ?_ (steps_al ?_) ?_ ?_
  · intro L1 L2 xx ww hL sg
    have lh1 := hL 1 (by decide)
    simp only [lh1] at sg
    exact sg
  · refine al_cons ?_ (al_cons ?_ (al_nil))
    · intro LL xx ac wc sg hst hwant QQ hgo
      have H := Lib.hid hst
      simp only [sg.des 1 rfl, cond_true, cond_false] at H
      refine hpA_load tyapi_Call H rfl ((sg.free 12 (by kernel_rfl)).trans so12) hwant (by (repeat (first | exact List.Mem.head _ | apply List.Mem.tail))) (by rfl) rfl ?_
      exact hgo _ () _ (fun _ _ => rfl) rfl hst
    · intro LL xx ac wc sg hst hwant QQ hgo
      have H := Lib.hid hst
      simp only [sg.self, cond_true, cond_false] at H
      refine hpA_store tyapi_Call H rfl rfl ((sg.free 7 (by kernel_rfl)).trans so7) (sg.slot 0 (sg.anc 0 rfl)) rfl (by repeat (first | apply Put.head | apply Put.tail)) (by simp [cA, cL]) (by simp [cA, cL, Value.oneCell']) (by first | rfl | (simp only [spl]; rfl)) rfl ?_
      intro wd H2
      exact hgo _ () _ (fun _ _ => rfl) rfl (by simp only [(show upd LL 1 1 = true from rfl), cond_true, cond_false]; exact H2.out)
  · exact skips [] (by kernel_rfl) (fun _ h => by cases h)
  · intro xx ac1 wz hfr hsl hst
    exact hfin ac1 wz (hfr.size.trans hz) hfr.defers (fr_keep hfr [202] (by kernel_rfl)) (Lib.hid hst)
set_option maxRecDepth 20000 in
theorem goes_w_r9x1 (c : Cfg) (x : CallV) (rc : Nat) (zs : List Int) (b3 : Nat) (b4 : Nat) (b7 : Nat) (i : Nat) (y : CallV) (hi : i ≤ zs.length) (hi2 : i ≤ 60) (z2ld : i < zs.length) (z2rd : (i : Int) < 60) (ya : Addr) (d : Int) (m : Nat) (hm1 : m ≤ 63) (hm : IntKind.i64.wrap ((IntKind.u64.wrap d).tmod 64) = (m : Int)) (r : Nat) (q : Nat) (p : Nat) (hr6 : r < 6) (hq11 : q < 11) (hp4 : p < 4) (hr : (m : Int).tmod 6 = (r : Int)) (hq : IntKind.i64.wrap ((m : Int).tdiv 6) = (q : Int)) (hp : (q : Int).tmod 4 = (p : Int)) (hq2 : IntKind.i64.wrap ((m : Int) / 6) = (q : Int)) (b12 : Nat) (z : CallV) (f : Int) (hl : (livesV y) = true) (hmy : (mayV c y z) = true) (i1 : (z.id != 1) = false) (i2 : (z.kind != x.kind) = false) (i3 : (z.owner != 2) = false) (i4 : (z.born != 3) = false) (i5 : (z.dst != x.dst) = false) (g1 : (decide (goalV z < 1)) = false) (g2 : (decide (c.floors < goalV z)) = false) (hlv : ((livesV z) == (((z.state == 4) || (z.state == 5)) || (z.state == 6))) = false) (hcr : ((((z.state == 2) || (z.state == 3)) && ((decide (z.car < 1)) || (decide (c.cars < z.car)))) || (((z.state == 1) && (z.kind != 3)) && (z.car != 0))) = false) {wa wb : World} (H : Hid (Hp [] wa wb [rB b12 26 [.int .i64 z.id, .int .i64 z.kind, .int .i64 z.src, .int .i64 z.dst, .int .i64 z.car, .int .i64 z.state, .int .i64 z.owner, .int .i64 z.born], rB b7 26 [.int .i64 z.id, .int .i64 z.kind, .int .i64 z.src, .int .i64 z.dst, .int .i64 z.car, .int .i64 z.state, .int .i64 z.owner, .int .i64 z.born], rB b4 26 [.int .i64 x.id, .int .i64 x.kind, .int .i64 x.src, .int .i64 x.dst, .int .i64 x.car, .int .i64 x.state, .int .i64 x.owner, .int .i64 x.born], rB b3 24 (cL c), rS (some ya) rc 1 (zs.map intRow)])) (ac0 : Act) (hz : ac0.tmps.size = 203) (so10 : ac0.eval (.tmp 10) = .int .i64 i) {QR : Exit → Act → World → Prop} (hfin : ∀ (ac1 : Act) (wz : World), ac1.tmps.size = 203 → ac1.defers = ac0.defers → (∀ t, ([10, 33, 34] : List Nat).contains t = false → ac1.eval (.tmp t) = ac0.eval (.tmp t)) → ac1.eval (.tmp 10) = .int .i64 (i + 1) →  Hid (Hp [] wa wz [rB b12 26 [.int .i64 z.id, .int .i64 z.kind, .int .i64 z.src, .int .i64 z.dst, .int .i64 z.car, .int .i64 z.state, .int .i64 z.owner, .int .i64 z.born], rB b7 26 [.int .i64 z.id, .int .i64 z.kind, .int .i64 z.src, .int .i64 z.dst, .int .i64 z.car, .int .i64 z.state, .int .i64 z.owner, .int .i64 z.born], rB b4 26 [.int .i64 x.id, .int .i64 x.kind, .int .i64 x.src, .int .i64 x.dst, .int .i64 x.car, .int .i64 x.state, .int .i64 x.owner, .int .i64 x.born], rB b3 24 (cL c), rS (some ya) rc 1 (zs.map intRow)]) → QR .normal ac1 wz) : (regAt Try.f3 9).wp Try.prog QR ac0 wb := by
  refine wp_region_sq (by kernel_rfl) 203 hz (by kernel_rfl) (fun (xx : Unit) jx => nth [.int .i64 i, .int .i64 (i + 1), .int .i64 (i + 1)] jx) (fun (LL : Nat → Bool) (xx : Unit) ww => Hp [] wa ww [rB b12 26 [.int .i64 z.id, .int .i64 z.kind, .int .i64 z.src, .int .i64 z.dst, .int .i64 z.car, .int .i64 z.state, .int .i64 z.owner, .int .i64 z.born], rB b7 26 [.int .i64 z.id, .int .i64 z.kind, .int .i64 z.src, .int .i64 z.dst, .int .i64 z.car, .int .i64 z.state, .int .i64 z.owner, .int .i64 z.born], rB b4 26 [.int .i64 x.id, .int .i64 x.kind, .int .i64 x.src, .int .i64 x.dst, .int .i64 x.car, .int .i64 x.state, .int .i64 x.owner, .int .i64 x.born], rB b3 24 (cL c), rS (some ya) rc 1 (zs.map intRow)]) () H.out ?_ (steps_al ?_) ?_ ?_
  · exact fun _ _ _ _ _ h => h
  · refine al_cons ?_ (al_cons ?_ (al_cons ?_ (al_nil)))
    · intro LL xx ac wc sg hst hwant QQ hgo
      exact op_val hwant hgo hst _ (exec_move rfl ((sg.yet 10 2 (sg.des 2 rfl) (by kernel_rfl)).trans so10)) rfl
    · intro LL xx ac wc sg hst hwant QQ hgo
      have se33 : ac.eval (.tmp 33) = _ := (sg.slot 0 (sg.anc 0 rfl))
      have sg33 := gt_of se33
      (try simp only [nth] at se33 sg33)
      have hnw : IntKind.i64.wrap (i + 1 : Int) = i + 1 := IntWalk.i64_in _ (by omega)
      exact op_val hwant hgo hst _ (by simp only [execOp, nth]; go_simp <;> omega) rfl
    · intro LL xx ac wc sg hst hwant QQ hgo
      exact op_val hwant hgo hst _ (exec_assign rfl (sg.slot 1 (sg.anc 1 rfl))) rfl
  · exact skips [] (by kernel_rfl) (fun _ h => by cases h)
  · intro xx ac1 wz hfr hsl hst
    exact hfin ac1 wz (hfr.size.trans hz) hfr.defers (fr_keep hfr [10, 33, 34] (by kernel_rfl)) (hsl 2 (by decide)) (Lib.hid hst)
set_option maxRecDepth 20000 in
theorem goes_w_r15 (c : Cfg) (x : CallV) (rc : Nat) (zs : List Int) (b3 : Nat) (b4 : Nat) (b7 : Nat) (i : Nat) (y : CallV) (hi : i ≤ zs.length) (hi2 : i ≤ 60) (z2ld : i < zs.length) (z2rd : (i : Int) < 60) (ya : Addr) (d : Int) (m : Nat) (hm1 : m ≤ 63) (hm : IntKind.i64.wrap ((IntKind.u64.wrap d).tmod 64) = (m : Int)) (r : Nat) (q : Nat) (p : Nat) (hr6 : r < 6) (hq11 : q < 11) (hp4 : p < 4) (hr : (m : Int).tmod 6 = (r : Int)) (hq : IntKind.i64.wrap ((m : Int).tdiv 6) = (q : Int)) (hp : (q : Int).tmod 4 = (p : Int)) (hq2 : IntKind.i64.wrap ((m : Int) / 6) = (q : Int)) (b12 : Nat) {wa wb : World} (H : Hid (Hp [] wa wb [rB b12 26 [.int .i64 y.id, .int .i64 y.kind, .int .i64 y.src, .int .i64 y.dst, .int .i64 y.car, .int .i64 y.state, .int .i64 y.owner, .int .i64 y.born], rB b7 26 [.int .i64 y.id, .int .i64 y.kind, .int .i64 y.src, .int .i64 y.dst, .int .i64 y.car, .int .i64 y.state, .int .i64 y.owner, .int .i64 y.born], rB b4 26 [.int .i64 x.id, .int .i64 x.kind, .int .i64 x.src, .int .i64 x.dst, .int .i64 x.car, .int .i64 x.state, .int .i64 x.owner, .int .i64 x.born], rB b3 24 (cL c), rS (some ya) rc 1 (zs.map intRow)])) (ac0 : Act) (hz : ac0.tmps.size = 203) (so3 : ac0.eval (.tmp 3) = .pointer (some ⟨b3, 0, none⟩)) (so7 : ac0.eval (.tmp 7) = .pointer (some ⟨b7, 0, none⟩)) (so11 : ac0.eval (.tmp 11) = .int .i64 m) (so12 : ac0.eval (.tmp 12) = .pointer (some ⟨b12, 0, none⟩)) {QR : Exit → Act → World → Prop} (hfin : ∀ (ac1 : Act) (wz : World), ac1.tmps.size = 203 → ac1.defers = ac0.defers → (∀ t, ([13, 47, 48, 49, 50, 51, 52, 53, 54, 55, 56] : List Nat).contains t = false → ac1.eval (.tmp t) = ac0.eval (.tmp t)) → ac1.eval (.tmp 13) = .int .i64 ((assignV c y (1 + p)).2) →  Hid (Hp [] wa wz [rB b12 26 [.int .i64 (((assignV c y (1 + p)).1).id), .int .i64 (((assignV c y (1 + p)).1).kind), .int .i64 (((assignV c y (1 + p)).1).src), .int .i64 (((assignV c y (1 + p)).1).dst), .int .i64 (((assignV c y (1 + p)).1).car), .int .i64 (((assignV c y (1 + p)).1).state), .int .i64 (((assignV c y (1 + p)).1).owner), .int .i64 (((assignV c y (1 + p)).1).born)], rB b7 26 [.int .i64 y.id, .int .i64 y.kind, .int .i64 y.src, .int .i64 y.dst, .int .i64 y.car, .int .i64 y.state, .int .i64 y.owner, .int .i64 y.born], rB b4 26 [.int .i64 x.id, .int .i64 x.kind, .int .i64 x.src, .int .i64 x.dst, .int .i64 x.car, .int .i64 x.state, .int .i64 x.owner, .int .i64 x.born], rB b3 24 (cL c), rS (some ya) rc 1 (zs.map intRow)]) → QR .normal ac1 wz) : (regAt Try.f3 15).wp Try.prog QR ac0 wb := by
  refine wp_region_sq (by kernel_rfl) 203 hz (by kernel_rfl) (fun (xx : Unit) jx => nth [.agg (cA c), .agg #[.int .i64 y.id, .int .i64 y.kind, .int .i64 y.src, .int .i64 y.dst, .int .i64 y.car, .int .i64 y.state, .int .i64 y.owner, .int .i64 y.born], .int .i64 m, .int .i64 q, .int .i64 p, .int .i64 (1 + p), .tuple #[.agg #[.int .i64 (((assignV c y (1 + p)).1).id), .int .i64 (((assignV c y (1 + p)).1).kind), .int .i64 (((assignV c y (1 + p)).1).src), .int .i64 (((assignV c y (1 + p)).1).dst), .int .i64 (((assignV c y (1 + p)).1).car), .int .i64 (((assignV c y (1 + p)).1).state), .int .i64 (((assignV c y (1 + p)).1).owner), .int .i64 (((assignV c y (1 + p)).1).born)], .int .i64 ((assignV c y (1 + p)).2)], .tuple #[.agg #[.int .i64 (((assignV c y (1 + p)).1).id), .int .i64 (((assignV c y (1 + p)).1).kind), .int .i64 (((assignV c y (1 + p)).1).src), .int .i64 (((assignV c y (1 + p)).1).dst), .int .i64 (((assignV c y (1 + p)).1).car), .int .i64 (((assignV c y (1 + p)).1).state), .int .i64 (((assignV c y (1 + p)).1).owner), .int .i64 (((assignV c y (1 + p)).1).born)], .int .i64 ((assignV c y (1 + p)).2)], .agg #[.int .i64 (((assignV c y (1 + p)).1).id), .int .i64 (((assignV c y (1 + p)).1).kind), .int .i64 (((assignV c y (1 + p)).1).src), .int .i64 (((assignV c y (1 + p)).1).dst), .int .i64 (((assignV c y (1 + p)).1).car), .int .i64 (((assignV c y (1 + p)).1).state), .int .i64 (((assignV c y (1 + p)).1).owner), .int .i64 (((assignV c y (1 + p)).1).born)], .int .i64 ((assignV c y (1 + p)).2), undef, .int .i64 ((assignV c y (1 + p)).2)] jx) (fun (LL : Nat → Bool) (xx : Unit) ww => Hp [] wa ww (bif LL 10 then [rB b12 26 [.int .i64 (((assignV c y (1 + p)).1).id), .int .i64 (((assignV c y (1 + p)).1).kind), .int .i64 (((assignV c y (1 + p)).1).src), .int .i64 (((assignV c y (1 + p)).1).dst), .int .i64 (((assignV c y (1 + p)).1).car), .int .i64 (((assignV c y (1 + p)).1).state), .int .i64 (((assignV c y (1 + p)).1).owner), .int .i64 (((assignV c y (1 + p)).1).born)], rB b7 26 [.int .i64 y.id, .int .i64 y.kind, .int .i64 y.src, .int .i64 y.dst, .int .i64 y.car, .int .i64 y.state, .int .i64 y.owner, .int .i64 y.born], rB b4 26 [.int .i64 x.id, .int .i64 x.kind, .int .i64 x.src, .int .i64 x.dst, .int .i64 x.car, .int .i64 x.state, .int .i64 x.owner, .int .i64 x.born], rB b3 24 (cL c), rS (some ya) rc 1 (zs.map intRow)] else [rB b12 26 [.int .i64 y.id, .int .i64 y.kind, .int .i64 y.src, .int .i64 y.dst, .int .i64 y.car, .int .i64 y.state, .int .i64 y.owner, .int .i64 y.born], rB b7 26 [.int .i64 y.id, .int .i64 y.kind, .int .i64 y.src, .int .i64 y.dst, .int .i64 y.car, .int .i64 y.state, .int .i64 y.owner, .int .i64 y.born], rB b4 26 [.int .i64 x.id, .int .i64 x.kind, .int .i64 x.src, .int .i64 x.dst, .int .i64 x.car, .int .i64 x.state, .int .i64 x.owner, .int .i64 x.born], rB b3 24 (cL c), rS (some ya) rc 1 (zs.map intRow)])) () H.out ?_ (steps_al ?_) ?_ ?_
  · intro L1 L2 xx ww hL sg
    have lh10 := hL 10 (by decide)
    simp only [lh10] at sg
    exact sg
  · refine al_cons ?_ (al_cons ?_ (al_cons ?_ (al_cons ?_ (al_cons ?_ (al_cons ?_ (al_cons ?_ (al_cons ?_ (al_cons ?_ (al_cons ?_ (al_cons ?_ (al_cons ?_ (al_nil))))))))))))
    · intro LL xx ac wc sg hst hwant QQ hgo
      have H := Lib.hid hst
      simp only [sg.des 10 rfl, cond_true, cond_false] at H
      refine hpA_load tyapi_Config H rfl ((sg.free 3 (by kernel_rfl)).trans so3) hwant (by (repeat (first | exact List.Mem.head _ | apply List.Mem.tail))) (by rfl) rfl ?_
      exact hgo _ () _ (fun _ _ => rfl) rfl hst
    · intro LL xx ac wc sg hst hwant QQ hgo
      have H := Lib.hid hst
      simp only [sg.des 10 rfl, cond_true, cond_false] at H
      refine hpA_load tyapi_Call H rfl ((sg.free 7 (by kernel_rfl)).trans so7) hwant (by (repeat (first | exact List.Mem.head _ | apply List.Mem.tail))) (by rfl) rfl ?_
      exact hgo _ () _ (fun _ _ => rfl) rfl hst
    · intro LL xx ac wc sg hst hwant QQ hgo
      exact op_val hwant hgo hst _ (exec_move rfl ((sg.free 11 (by kernel_rfl)).trans so11)) rfl
    · intro LL xx ac wc sg hst hwant QQ hgo
      have se50 : ac.eval (.tmp 50) = _ := (sg.slot 2 (sg.anc 2 rfl))
      have sg50 := gt_of se50
      (try simp only [nth] at se50 sg50)
      exact op_val hwant hgo hst _ (by simp only [execOp, nth]; go_simp <;> omega) rfl
    · intro LL xx ac wc sg hst hwant QQ hgo
      have se51 : ac.eval (.tmp 51) = _ := (sg.slot 3 (sg.anc 3 rfl))
      have sg51 := gt_of se51
      (try simp only [nth] at se51 sg51)
      exact op_val hwant hgo hst _ (by simp only [execOp, nth]; go_simp <;> omega) rfl
    · intro LL xx ac wc sg hst hwant QQ hgo
      have se52 : ac.eval (.tmp 52) = _ := (sg.slot 4 (sg.anc 4 rfl))
      have sg52 := gt_of se52
      (try simp only [nth] at se52 sg52)
      have hnw : IntKind.i64.wrap (1 + p : Int) = 1 + p := IntWalk.i64_in _ (by omega)
      exact op_val hwant hgo hst _ (by simp only [execOp, nth]; go_simp <;> omega) rfl
    · intro LL xx ac wc sg hst hwant QQ hgo
      have se48 : ac.eval (.tmp 48) = _ := (sg.slot 0 (sg.anc 0 rfl))
      have sg48 := gt_of se48
      have se49 : ac.eval (.tmp 49) = _ := (sg.slot 1 (sg.anc 1 rfl))
      have sg49 := gt_of se49
      have se53 : ac.eval (.tmp 53) = _ := (sg.slot 5 (sg.anc 5 rfl))
      have sg53 := gt_of se53
      (try simp only [nth] at se48 sg48 se49 sg49 se53 sg53)
      refine op_call hwant hgo 15 #[.agg (cA c), .agg #[.int .i64 y.id, .int .i64 y.kind, .int .i64 y.src, .int .i64 y.dst, .int .i64 y.car, .int .i64 y.state, .int .i64 y.owner, .int .i64 y.born], .int .i64 (1 + p)] (by simp only [execOp]; go_simp) (callAssign c y (1 + p) wc) ?_
      rintro er wd ⟨rfl, hof⟩
      exact ⟨_, (), rfl, fun _ _ => rfl, rfl, Hp.quiet hst hof⟩
    · intro LL xx ac wc sg hst hwant QQ hgo
      exact op_val hwant hgo hst _ (exec_move rfl (sg.slot 6 (sg.anc 6 rfl))) rfl
    · intro LL xx ac wc sg hst hwant QQ hgo
      have se47 : ac.eval (.tmp 47) = _ := (sg.slot 7 (sg.anc 7 rfl))
      have sg47 := gt_of se47
      (try simp only [nth] at se47 sg47)
      exact op_val hwant hgo hst _ (by simp only [execOp, nth]; go_simp <;> omega) rfl
    · intro LL xx ac wc sg hst hwant QQ hgo
      have se47 : ac.eval (.tmp 47) = _ := (sg.slot 7 (sg.anc 7 rfl))
      have sg47 := gt_of se47
      (try simp only [nth] at se47 sg47)
      exact op_val hwant hgo hst _ (by simp only [execOp, nth]; go_simp <;> omega) rfl
    · intro LL xx ac wc sg hst hwant QQ hgo
      have H := Lib.hid hst
      simp only [sg.self, cond_true, cond_false] at H
      refine hpA_store tyapi_Call H rfl rfl ((sg.free 12 (by kernel_rfl)).trans so12) (sg.slot 8 (sg.anc 8 rfl)) rfl (by repeat (first | apply Put.head | apply Put.tail)) (by simp [cA, cL]) (by simp [cA, cL, Value.oneCell']) (by first | rfl | (simp only [spl]; rfl)) rfl ?_
      intro wd H2
      exact hgo _ () _ (fun _ _ => rfl) rfl (by simp only [(show upd LL 10 10 = true from rfl), cond_true, cond_false]; exact H2.out)
    · intro LL xx ac wc sg hst hwant QQ hgo
      exact op_val hwant hgo hst _ (exec_assign rfl (sg.slot 9 (sg.anc 9 rfl))) rfl
  · exact skips [] (by kernel_rfl) (fun _ h => by cases h)
  · intro xx ac1 wz hfr hsl hst
    exact hfin ac1 wz (hfr.size.trans hz) hfr.defers (fr_keep hfr [13, 47, 48, 49, 50, 51, 52, 53, 54, 55, 56] (by kernel_rfl)) (hsl 11 (by decide)) (Lib.hid hst)
set_option maxRecDepth 20000 in
theorem goes_w_r16 (c : Cfg) (x : CallV) (rc : Nat) (zs : List Int) (b3 : Nat) (b4 : Nat) (b7 : Nat) (i : Nat) (y : CallV) (hi : i ≤ zs.length) (hi2 : i ≤ 60) (z2ld : i < zs.length) (z2rd : (i : Int) < 60) (ya : Addr) (d : Int) (m : Nat) (hm1 : m ≤ 63) (hm : IntKind.i64.wrap ((IntKind.u64.wrap d).tmod 64) = (m : Int)) (r : Nat) (q : Nat) (p : Nat) (hr6 : r < 6) (hq11 : q < 11) (hp4 : p < 4) (hr : (m : Int).tmod 6 = (r : Int)) (hq : IntKind.i64.wrap ((m : Int).tdiv 6) = (q : Int)) (hp : (q : Int).tmod 4 = (p : Int)) (hq2 : IntKind.i64.wrap ((m : Int) / 6) = (q : Int)) (b12 : Nat) {wa wb : World} (H : Hid (Hp [] wa wb [rB b12 26 [.int .i64 y.id, .int .i64 y.kind, .int .i64 y.src, .int .i64 y.dst, .int .i64 y.car, .int .i64 y.state, .int .i64 y.owner, .int .i64 y.born], rB b7 26 [.int .i64 y.id, .int .i64 y.kind, .int .i64 y.src, .int .i64 y.dst, .int .i64 y.car, .int .i64 y.state, .int .i64 y.owner, .int .i64 y.born], rB b4 26 [.int .i64 x.id, .int .i64 x.kind, .int .i64 x.src, .int .i64 x.dst, .int .i64 x.car, .int .i64 x.state, .int .i64 x.owner, .int .i64 x.born], rB b3 24 (cL c), rS (some ya) rc 1 (zs.map intRow)])) (ac0 : Act) (hz : ac0.tmps.size = 203) (so44 : ac0.eval (.tmp 44) = .int .i64 r) {QR : Exit → Act → World → Prop} (hfin : ∀ (ac1 : Act) (wz : World), ac1.tmps.size = 203 → ac1.defers = ac0.defers → (∀ t, ([57, 58] : List Nat).contains t = false → ac1.eval (.tmp t) = ac0.eval (.tmp t)) → ac1.eval (.tmp 57) = .bool ((r : Int) == 1) →  Hid (Hp [] wa wz [rB b12 26 [.int .i64 y.id, .int .i64 y.kind, .int .i64 y.src, .int .i64 y.dst, .int .i64 y.car, .int .i64 y.state, .int .i64 y.owner, .int .i64 y.born], rB b7 26 [.int .i64 y.id, .int .i64 y.kind, .int .i64 y.src, .int .i64 y.dst, .int .i64 y.car, .int .i64 y.state, .int .i64 y.owner, .int .i64 y.born], rB b4 26 [.int .i64 x.id, .int .i64 x.kind, .int .i64 x.src, .int .i64 x.dst, .int .i64 x.car, .int .i64 x.state, .int .i64 x.owner, .int .i64 x.born], rB b3 24 (cL c), rS (some ya) rc 1 (zs.map intRow)]) → QR .normal ac1 wz) : (regAt Try.f3 16).wp Try.prog QR ac0 wb := by
  refine wp_region_sq (by kernel_rfl) 203 hz (by kernel_rfl) (fun (xx : Unit) jx => nth [.bool ((r : Int) == 1), .bool ((r : Int) == 1)] jx) (fun (LL : Nat → Bool) (xx : Unit) ww => Hp [] wa ww [rB b12 26 [.int .i64 y.id, .int .i64 y.kind, .int .i64 y.src, .int .i64 y.dst, .int .i64 y.car, .int .i64 y.state, .int .i64 y.owner, .int .i64 y.born], rB b7 26 [.int .i64 y.id, .int .i64 y.kind, .int .i64 y.src, .int .i64 y.dst, .int .i64 y.car, .int .i64 y.state, .int .i64 y.owner, .int .i64 y.born], rB b4 26 [.int .i64 x.id, .int .i64 x.kind, .int .i64 x.src, .int .i64 x.dst, .int .i64 x.car, .int .i64 x.state, .int .i64 x.owner, .int .i64 x.born], rB b3 24 (cL c), rS (some ya) rc 1 (zs.map intRow)]) () H.out ?_ (steps_al ?_) ?_ ?_
  · exact fun _ _ _ _ _ h => h
  · refine al_cons ?_ (al_cons ?_ (al_nil))
    · intro LL xx ac wc sg hst hwant QQ hgo
      have se44 : ac.eval (.tmp 44) = _ := ((sg.free 44 (by kernel_rfl)).trans so44)
      have sg44 := gt_of se44
      exact op_val hwant hgo hst _ (by simp only [execOp, nth]; go_simp <;> omega) rfl
    · intro LL xx ac wc sg hst hwant QQ hgo
      exact op_val hwant hgo hst _ (exec_assign rfl (sg.slot 0 (sg.anc 0 rfl))) rfl
  · exact skips [] (by kernel_rfl) (fun _ h => by cases h)
  · intro xx ac1 wz hfr hsl hst
    exact hfin ac1 wz (hfr.size.trans hz) hfr.defers (fr_keep hfr [57, 58] (by kernel_rfl)) (hsl 1 (by decide)) (Lib.hid hst)
set_option maxRecDepth 20000 in
theorem goes_w_r17 (c : Cfg) (x : CallV) (rc : Nat) (zs : List Int) (b3 : Nat) (b4 : Nat) (b7 : Nat) (i : Nat) (y : CallV) (hi : i ≤ zs.length) (hi2 : i ≤ 60) (z2ld : i < zs.length) (z2rd : (i : Int) < 60) (ya : Addr) (d : Int) (m : Nat) (hm1 : m ≤ 63) (hm : IntKind.i64.wrap ((IntKind.u64.wrap d).tmod 64) = (m : Int)) (r : Nat) (q : Nat) (p : Nat) (hr6 : r < 6) (hq11 : q < 11) (hp4 : p < 4) (hr : (m : Int).tmod 6 = (r : Int)) (hq : IntKind.i64.wrap ((m : Int).tdiv 6) = (q : Int)) (hp : (q : Int).tmod 4 = (p : Int)) (hq2 : IntKind.i64.wrap ((m : Int) / 6) = (q : Int)) (b12 : Nat) {wa wb : World} (H : Hid (Hp [] wa wb [rB b12 26 [.int .i64 y.id, .int .i64 y.kind, .int .i64 y.src, .int .i64 y.dst, .int .i64 y.car, .int .i64 y.state, .int .i64 y.owner, .int .i64 y.born], rB b7 26 [.int .i64 y.id, .int .i64 y.kind, .int .i64 y.src, .int .i64 y.dst, .int .i64 y.car, .int .i64 y.state, .int .i64 y.owner, .int .i64 y.born], rB b4 26 [.int .i64 x.id, .int .i64 x.kind, .int .i64 x.src, .int .i64 x.dst, .int .i64 x.car, .int .i64 x.state, .int .i64 x.owner, .int .i64 x.born], rB b3 24 (cL c), rS (some ya) rc 1 (zs.map intRow)])) (ac0 : Act) (hz : ac0.tmps.size = 203) (so3 : ac0.eval (.tmp 3) = .pointer (some ⟨b3, 0, none⟩)) (so7 : ac0.eval (.tmp 7) = .pointer (some ⟨b7, 0, none⟩)) (so11 : ac0.eval (.tmp 11) = .int .i64 m) (so12 : ac0.eval (.tmp 12) = .pointer (some ⟨b12, 0, none⟩)) {QR : Exit → Act → World → Prop} (hfin : ∀ (ac1 : Act) (wz : World), ac1.tmps.size = 203 → ac1.defers = ac0.defers → (∀ t, ([13, 59, 60, 61, 62, 63, 64, 65, 66, 67] : List Nat).contains t = false → ac1.eval (.tmp t) = ac0.eval (.tmp t)) → ac1.eval (.tmp 13) = .int .i64 ((leaveV c y (1 + q)).2) →  Hid (Hp [] wa wz [rB b12 26 [.int .i64 (((leaveV c y (1 + q)).1).id), .int .i64 (((leaveV c y (1 + q)).1).kind), .int .i64 (((leaveV c y (1 + q)).1).src), .int .i64 (((leaveV c y (1 + q)).1).dst), .int .i64 (((leaveV c y (1 + q)).1).car), .int .i64 (((leaveV c y (1 + q)).1).state), .int .i64 (((leaveV c y (1 + q)).1).owner), .int .i64 (((leaveV c y (1 + q)).1).born)], rB b7 26 [.int .i64 y.id, .int .i64 y.kind, .int .i64 y.src, .int .i64 y.dst, .int .i64 y.car, .int .i64 y.state, .int .i64 y.owner, .int .i64 y.born], rB b4 26 [.int .i64 x.id, .int .i64 x.kind, .int .i64 x.src, .int .i64 x.dst, .int .i64 x.car, .int .i64 x.state, .int .i64 x.owner, .int .i64 x.born], rB b3 24 (cL c), rS (some ya) rc 1 (zs.map intRow)]) → QR .normal ac1 wz) : (regAt Try.f3 17).wp Try.prog QR ac0 wb := by
  refine wp_region_sq (by kernel_rfl) 203 hz (by kernel_rfl) (fun (xx : Unit) jx => nth [.agg (cA c), .agg #[.int .i64 y.id, .int .i64 y.kind, .int .i64 y.src, .int .i64 y.dst, .int .i64 y.car, .int .i64 y.state, .int .i64 y.owner, .int .i64 y.born], .int .i64 m, .int .i64 q, .int .i64 (1 + q), .tuple #[.agg #[.int .i64 (((leaveV c y (1 + q)).1).id), .int .i64 (((leaveV c y (1 + q)).1).kind), .int .i64 (((leaveV c y (1 + q)).1).src), .int .i64 (((leaveV c y (1 + q)).1).dst), .int .i64 (((leaveV c y (1 + q)).1).car), .int .i64 (((leaveV c y (1 + q)).1).state), .int .i64 (((leaveV c y (1 + q)).1).owner), .int .i64 (((leaveV c y (1 + q)).1).born)], .int .i64 ((leaveV c y (1 + q)).2)], .tuple #[.agg #[.int .i64 (((leaveV c y (1 + q)).1).id), .int .i64 (((leaveV c y (1 + q)).1).kind), .int .i64 (((leaveV c y (1 + q)).1).src), .int .i64 (((leaveV c y (1 + q)).1).dst), .int .i64 (((leaveV c y (1 + q)).1).car), .int .i64 (((leaveV c y (1 + q)).1).state), .int .i64 (((leaveV c y (1 + q)).1).owner), .int .i64 (((leaveV c y (1 + q)).1).born)], .int .i64 ((leaveV c y (1 + q)).2)], .agg #[.int .i64 (((leaveV c y (1 + q)).1).id), .int .i64 (((leaveV c y (1 + q)).1).kind), .int .i64 (((leaveV c y (1 + q)).1).src), .int .i64 (((leaveV c y (1 + q)).1).dst), .int .i64 (((leaveV c y (1 + q)).1).car), .int .i64 (((leaveV c y (1 + q)).1).state), .int .i64 (((leaveV c y (1 + q)).1).owner), .int .i64 (((leaveV c y (1 + q)).1).born)], .int .i64 ((leaveV c y (1 + q)).2), undef, .int .i64 ((leaveV c y (1 + q)).2)] jx) (fun (LL : Nat → Bool) (xx : Unit) ww => Hp [] wa ww (bif LL 9 then [rB b12 26 [.int .i64 (((leaveV c y (1 + q)).1).id), .int .i64 (((leaveV c y (1 + q)).1).kind), .int .i64 (((leaveV c y (1 + q)).1).src), .int .i64 (((leaveV c y (1 + q)).1).dst), .int .i64 (((leaveV c y (1 + q)).1).car), .int .i64 (((leaveV c y (1 + q)).1).state), .int .i64 (((leaveV c y (1 + q)).1).owner), .int .i64 (((leaveV c y (1 + q)).1).born)], rB b7 26 [.int .i64 y.id, .int .i64 y.kind, .int .i64 y.src, .int .i64 y.dst, .int .i64 y.car, .int .i64 y.state, .int .i64 y.owner, .int .i64 y.born], rB b4 26 [.int .i64 x.id, .int .i64 x.kind, .int .i64 x.src, .int .i64 x.dst, .int .i64 x.car, .int .i64 x.state, .int .i64 x.owner, .int .i64 x.born], rB b3 24 (cL c), rS (some ya) rc 1 (zs.map intRow)] else [rB b12 26 [.int .i64 y.id, .int .i64 y.kind, .int .i64 y.src, .int .i64 y.dst, .int .i64 y.car, .int .i64 y.state, .int .i64 y.owner, .int .i64 y.born], rB b7 26 [.int .i64 y.id, .int .i64 y.kind, .int .i64 y.src, .int .i64 y.dst, .int .i64 y.car, .int .i64 y.state, .int .i64 y.owner, .int .i64 y.born], rB b4 26 [.int .i64 x.id, .int .i64 x.kind, .int .i64 x.src, .int .i64 x.dst, .int .i64 x.car, .int .i64 x.state, .int .i64 x.owner, .int .i64 x.born], rB b3 24 (cL c), rS (some ya) rc 1 (zs.map intRow)])) () H.out ?_ (steps_al ?_) ?_ ?_
  · intro L1 L2 xx ww hL sg
    have lh9 := hL 9 (by decide)
    simp only [lh9] at sg
    exact sg
  · refine al_cons ?_ (al_cons ?_ (al_cons ?_ (al_cons ?_ (al_cons ?_ (al_cons ?_ (al_cons ?_ (al_cons ?_ (al_cons ?_ (al_cons ?_ (al_cons ?_ (al_nil)))))))))))
    · intro LL xx ac wc sg hst hwant QQ hgo
      have H := Lib.hid hst
      simp only [sg.des 9 rfl, cond_true, cond_false] at H
      refine hpA_load tyapi_Config H rfl ((sg.free 3 (by kernel_rfl)).trans so3) hwant (by (repeat (first | exact List.Mem.head _ | apply List.Mem.tail))) (by rfl) rfl ?_
      exact hgo _ () _ (fun _ _ => rfl) rfl hst
    · intro LL xx ac wc sg hst hwant QQ hgo
      have H := Lib.hid hst
      simp only [sg.des 9 rfl, cond_true, cond_false] at H
      refine hpA_load tyapi_Call H rfl ((sg.free 7 (by kernel_rfl)).trans so7) hwant (by (repeat (first | exact List.Mem.head _ | apply List.Mem.tail))) (by rfl) rfl ?_
      exact hgo _ () _ (fun _ _ => rfl) rfl hst
    · intro LL xx ac wc sg hst hwant QQ hgo
      exact op_val hwant hgo hst _ (exec_move rfl ((sg.free 11 (by kernel_rfl)).trans so11)) rfl
    · intro LL xx ac wc sg hst hwant QQ hgo
      have se62 : ac.eval (.tmp 62) = _ := (sg.slot 2 (sg.anc 2 rfl))
      have sg62 := gt_of se62
      (try simp only [nth] at se62 sg62)
      exact op_val hwant hgo hst _ (by simp only [execOp, nth]; go_simp <;> omega) rfl
    · intro LL xx ac wc sg hst hwant QQ hgo
      have se63 : ac.eval (.tmp 63) = _ := (sg.slot 3 (sg.anc 3 rfl))
      have sg63 := gt_of se63
      (try simp only [nth] at se63 sg63)
      have hnw : IntKind.i64.wrap (1 + q : Int) = 1 + q := IntWalk.i64_in _ (by omega)
      exact op_val hwant hgo hst _ (by simp only [execOp, nth]; go_simp <;> omega) rfl
    · intro LL xx ac wc sg hst hwant QQ hgo
      have se60 : ac.eval (.tmp 60) = _ := (sg.slot 0 (sg.anc 0 rfl))
      have sg60 := gt_of se60
      have se61 : ac.eval (.tmp 61) = _ := (sg.slot 1 (sg.anc 1 rfl))
      have sg61 := gt_of se61
      have se64 : ac.eval (.tmp 64) = _ := (sg.slot 4 (sg.anc 4 rfl))
      have sg64 := gt_of se64
      (try simp only [nth] at se60 sg60 se61 sg61 se64 sg64)
      refine op_call hwant hgo 16 #[.agg (cA c), .agg #[.int .i64 y.id, .int .i64 y.kind, .int .i64 y.src, .int .i64 y.dst, .int .i64 y.car, .int .i64 y.state, .int .i64 y.owner, .int .i64 y.born], .int .i64 (1 + q)] (by simp only [execOp]; go_simp) (callLeave c y (1 + q) wc) ?_
      rintro er wd ⟨rfl, hof⟩
      exact ⟨_, (), rfl, fun _ _ => rfl, rfl, Hp.quiet hst hof⟩
    · intro LL xx ac wc sg hst hwant QQ hgo
      exact op_val hwant hgo hst _ (exec_move rfl (sg.slot 5 (sg.anc 5 rfl))) rfl
    · intro LL xx ac wc sg hst hwant QQ hgo
      have se59 : ac.eval (.tmp 59) = _ := (sg.slot 6 (sg.anc 6 rfl))
      have sg59 := gt_of se59
      (try simp only [nth] at se59 sg59)
      exact op_val hwant hgo hst _ (by simp only [execOp, nth]; go_simp <;> omega) rfl
    · intro LL xx ac wc sg hst hwant QQ hgo
      have se59 : ac.eval (.tmp 59) = _ := (sg.slot 6 (sg.anc 6 rfl))
      have sg59 := gt_of se59
      (try simp only [nth] at se59 sg59)
      exact op_val hwant hgo hst _ (by simp only [execOp, nth]; go_simp <;> omega) rfl
    · intro LL xx ac wc sg hst hwant QQ hgo
      have H := Lib.hid hst
      simp only [sg.self, cond_true, cond_false] at H
      refine hpA_store tyapi_Call H rfl rfl ((sg.free 12 (by kernel_rfl)).trans so12) (sg.slot 7 (sg.anc 7 rfl)) rfl (by repeat (first | apply Put.head | apply Put.tail)) (by simp [cA, cL]) (by simp [cA, cL, Value.oneCell']) (by first | rfl | (simp only [spl]; rfl)) rfl ?_
      intro wd H2
      exact hgo _ () _ (fun _ _ => rfl) rfl (by simp only [(show upd LL 9 9 = true from rfl), cond_true, cond_false]; exact H2.out)
    · intro LL xx ac wc sg hst hwant QQ hgo
      exact op_val hwant hgo hst _ (exec_assign rfl (sg.slot 8 (sg.anc 8 rfl))) rfl
  · exact skips [] (by kernel_rfl) (fun _ h => by cases h)
  · intro xx ac1 wz hfr hsl hst
    exact hfin ac1 wz (hfr.size.trans hz) hfr.defers (fr_keep hfr [13, 59, 60, 61, 62, 63, 64, 65, 66, 67] (by kernel_rfl)) (hsl 10 (by decide)) (Lib.hid hst)
set_option maxRecDepth 20000 in
theorem goes_w_r18 (c : Cfg) (x : CallV) (rc : Nat) (zs : List Int) (b3 : Nat) (b4 : Nat) (b7 : Nat) (i : Nat) (y : CallV) (hi : i ≤ zs.length) (hi2 : i ≤ 60) (z2ld : i < zs.length) (z2rd : (i : Int) < 60) (ya : Addr) (d : Int) (m : Nat) (hm1 : m ≤ 63) (hm : IntKind.i64.wrap ((IntKind.u64.wrap d).tmod 64) = (m : Int)) (r : Nat) (q : Nat) (p : Nat) (hr6 : r < 6) (hq11 : q < 11) (hp4 : p < 4) (hr : (m : Int).tmod 6 = (r : Int)) (hq : IntKind.i64.wrap ((m : Int).tdiv 6) = (q : Int)) (hp : (q : Int).tmod 4 = (p : Int)) (hq2 : IntKind.i64.wrap ((m : Int) / 6) = (q : Int)) (b12 : Nat) {wa wb : World} (H : Hid (Hp [] wa wb [rB b12 26 [.int .i64 y.id, .int .i64 y.kind, .int .i64 y.src, .int .i64 y.dst, .int .i64 y.car, .int .i64 y.state, .int .i64 y.owner, .int .i64 y.born], rB b7 26 [.int .i64 y.id, .int .i64 y.kind, .int .i64 y.src, .int .i64 y.dst, .int .i64 y.car, .int .i64 y.state, .int .i64 y.owner, .int .i64 y.born], rB b4 26 [.int .i64 x.id, .int .i64 x.kind, .int .i64 x.src, .int .i64 x.dst, .int .i64 x.car, .int .i64 x.state, .int .i64 x.owner, .int .i64 x.born], rB b3 24 (cL c), rS (some ya) rc 1 (zs.map intRow)])) (ac0 : Act) (hz : ac0.tmps.size = 203) (so44 : ac0.eval (.tmp 44) = .int .i64 r) {QR : Exit → Act → World → Prop} (hfin : ∀ (ac1 : Act) (wz : World), ac1.tmps.size = 203 → ac1.defers = ac0.defers → (∀ t, ([68, 69] : List Nat).contains t = false → ac1.eval (.tmp t) = ac0.eval (.tmp t)) → ac1.eval (.tmp 68) = .bool ((r : Int) == 2) →  Hid (Hp [] wa wz [rB b12 26 [.int .i64 y.id, .int .i64 y.kind, .int .i64 y.src, .int .i64 y.dst, .int .i64 y.car, .int .i64 y.state, .int .i64 y.owner, .int .i64 y.born], rB b7 26 [.int .i64 y.id, .int .i64 y.kind, .int .i64 y.src, .int .i64 y.dst, .int .i64 y.car, .int .i64 y.state, .int .i64 y.owner, .int .i64 y.born], rB b4 26 [.int .i64 x.id, .int .i64 x.kind, .int .i64 x.src, .int .i64 x.dst, .int .i64 x.car, .int .i64 x.state, .int .i64 x.owner, .int .i64 x.born], rB b3 24 (cL c), rS (some ya) rc 1 (zs.map intRow)]) → QR .normal ac1 wz) : (regAt Try.f3 18).wp Try.prog QR ac0 wb := by
  refine wp_region_sq (by kernel_rfl) 203 hz (by kernel_rfl) (fun (xx : Unit) jx => nth [.bool ((r : Int) == 2), .bool ((r : Int) == 2)] jx) (fun (LL : Nat → Bool) (xx : Unit) ww => Hp [] wa ww [rB b12 26 [.int .i64 y.id, .int .i64 y.kind, .int .i64 y.src, .int .i64 y.dst, .int .i64 y.car, .int .i64 y.state, .int .i64 y.owner, .int .i64 y.born], rB b7 26 [.int .i64 y.id, .int .i64 y.kind, .int .i64 y.src, .int .i64 y.dst, .int .i64 y.car, .int .i64 y.state, .int .i64 y.owner, .int .i64 y.born], rB b4 26 [.int .i64 x.id, .int .i64 x.kind, .int .i64 x.src, .int .i64 x.dst, .int .i64 x.car, .int .i64 x.state, .int .i64 x.owner, .int .i64 x.born], rB b3 24 (cL c), rS (some ya) rc 1 (zs.map intRow)]) () H.out ?_ (steps_al ?_) ?_ ?_
  · exact fun _ _ _ _ _ h => h
  · refine al_cons ?_ (al_cons ?_ (al_nil))
    · intro LL xx ac wc sg hst hwant QQ hgo
      have se44 : ac.eval (.tmp 44) = _ := ((sg.free 44 (by kernel_rfl)).trans so44)
      have sg44 := gt_of se44
      exact op_val hwant hgo hst _ (by simp only [execOp, nth]; go_simp <;> omega) rfl
    · intro LL xx ac wc sg hst hwant QQ hgo
      exact op_val hwant hgo hst _ (exec_assign rfl (sg.slot 0 (sg.anc 0 rfl))) rfl
  · exact skips [] (by kernel_rfl) (fun _ h => by cases h)
  · intro xx ac1 wz hfr hsl hst
    exact hfin ac1 wz (hfr.size.trans hz) hfr.defers (fr_keep hfr [68, 69] (by kernel_rfl)) (hsl 1 (by decide)) (Lib.hid hst)
set_option maxRecDepth 20000 in
theorem goes_w_r19 (c : Cfg) (x : CallV) (rc : Nat) (zs : List Int) (b3 : Nat) (b4 : Nat) (b7 : Nat) (i : Nat) (y : CallV) (hi : i ≤ zs.length) (hi2 : i ≤ 60) (z2ld : i < zs.length) (z2rd : (i : Int) < 60) (ya : Addr) (d : Int) (m : Nat) (hm1 : m ≤ 63) (hm : IntKind.i64.wrap ((IntKind.u64.wrap d).tmod 64) = (m : Int)) (r : Nat) (q : Nat) (p : Nat) (hr6 : r < 6) (hq11 : q < 11) (hp4 : p < 4) (hr : (m : Int).tmod 6 = (r : Int)) (hq : IntKind.i64.wrap ((m : Int).tdiv 6) = (q : Int)) (hp : (q : Int).tmod 4 = (p : Int)) (hq2 : IntKind.i64.wrap ((m : Int) / 6) = (q : Int)) (b12 : Nat) {wa wb : World} (H : Hid (Hp [] wa wb [rB b12 26 [.int .i64 y.id, .int .i64 y.kind, .int .i64 y.src, .int .i64 y.dst, .int .i64 y.car, .int .i64 y.state, .int .i64 y.owner, .int .i64 y.born], rB b7 26 [.int .i64 y.id, .int .i64 y.kind, .int .i64 y.src, .int .i64 y.dst, .int .i64 y.car, .int .i64 y.state, .int .i64 y.owner, .int .i64 y.born], rB b4 26 [.int .i64 x.id, .int .i64 x.kind, .int .i64 x.src, .int .i64 x.dst, .int .i64 x.car, .int .i64 x.state, .int .i64 x.owner, .int .i64 x.born], rB b3 24 (cL c), rS (some ya) rc 1 (zs.map intRow)])) (ac0 : Act) (hz : ac0.tmps.size = 203) (so7 : ac0.eval (.tmp 7) = .pointer (some ⟨b7, 0, none⟩)) (so12 : ac0.eval (.tmp 12) = .pointer (some ⟨b12, 0, none⟩)) {QR : Exit → Act → World → Prop} (hfin : ∀ (ac1 : Act) (wz : World), ac1.tmps.size = 203 → ac1.defers = ac0.defers → (∀ t, ([13, 70, 71, 72, 73, 74] : List Nat).contains t = false → ac1.eval (.tmp t) = ac0.eval (.tmp t)) → ac1.eval (.tmp 13) = .int .i64 ((boardV y).2) →  Hid (Hp [] wa wz [rB b12 26 [.int .i64 (((boardV y).1).id), .int .i64 (((boardV y).1).kind), .int .i64 (((boardV y).1).src), .int .i64 (((boardV y).1).dst), .int .i64 (((boardV y).1).car), .int .i64 (((boardV y).1).state), .int .i64 (((boardV y).1).owner), .int .i64 (((boardV y).1).born)], rB b7 26 [.int .i64 y.id, .int .i64 y.kind, .int .i64 y.src, .int .i64 y.dst, .int .i64 y.car, .int .i64 y.state, .int .i64 y.owner, .int .i64 y.born], rB b4 26 [.int .i64 x.id, .int .i64 x.kind, .int .i64 x.src, .int .i64 x.dst, .int .i64 x.car, .int .i64 x.state, .int .i64 x.owner, .int .i64 x.born], rB b3 24 (cL c), rS (some ya) rc 1 (zs.map intRow)]) → QR .normal ac1 wz) : (regAt Try.f3 19).wp Try.prog QR ac0 wb := by
  refine wp_region_sq (by kernel_rfl) 203 hz (by kernel_rfl) (fun (xx : Unit) jx => nth [.agg #[.int .i64 y.id, .int .i64 y.kind, .int .i64 y.src, .int .i64 y.dst, .int .i64 y.car, .int .i64 y.state, .int .i64 y.owner, .int .i64 y.born], .tuple #[.agg #[.int .i64 (((boardV y).1).id), .int .i64 (((boardV y).1).kind), .int .i64 (((boardV y).1).src), .int .i64 (((boardV y).1).dst), .int .i64 (((boardV y).1).car), .int .i64 (((boardV y).1).state), .int .i64 (((boardV y).1).owner), .int .i64 (((boardV y).1).born)], .int .i64 ((boardV y).2)], .tuple #[.agg #[.int .i64 (((boardV y).1).id), .int .i64 (((boardV y).1).kind), .int .i64 (((boardV y).1).src), .int .i64 (((boardV y).1).dst), .int .i64 (((boardV y).1).car), .int .i64 (((boardV y).1).state), .int .i64 (((boardV y).1).owner), .int .i64 (((boardV y).1).born)], .int .i64 ((boardV y).2)], .agg #[.int .i64 (((boardV y).1).id), .int .i64 (((boardV y).1).kind), .int .i64 (((boardV y).1).src), .int .i64 (((boardV y).1).dst), .int .i64 (((boardV y).1).car), .int .i64 (((boardV y).1).state), .int .i64 (((boardV y).1).owner), .int .i64 (((boardV y).1).born)], .int .i64 ((boardV y).2), undef, .int .i64 ((boardV y).2)] jx) (fun (LL : Nat → Bool) (xx : Unit) ww => Hp [] wa ww (bif LL 5 then [rB b12 26 [.int .i64 (((boardV y).1).id), .int .i64 (((boardV y).1).kind), .int .i64 (((boardV y).1).src), .int .i64 (((boardV y).1).dst), .int .i64 (((boardV y).1).car), .int .i64 (((boardV y).1).state), .int .i64 (((boardV y).1).owner), .int .i64 (((boardV y).1).born)], rB b7 26 [.int .i64 y.id, .int .i64 y.kind, .int .i64 y.src, .int .i64 y.dst, .int .i64 y.car, .int .i64 y.state, .int .i64 y.owner, .int .i64 y.born], rB b4 26 [.int .i64 x.id, .int .i64 x.kind, .int .i64 x.src, .int .i64 x.dst, .int .i64 x.car, .int .i64 x.state, .int .i64 x.owner, .int .i64 x.born], rB b3 24 (cL c), rS (some ya) rc 1 (zs.map intRow)] else [rB b12 26 [.int .i64 y.id, .int .i64 y.kind, .int .i64 y.src, .int .i64 y.dst, .int .i64 y.car, .int .i64 y.state, .int .i64 y.owner, .int .i64 y.born], rB b7 26 [.int .i64 y.id, .int .i64 y.kind, .int .i64 y.src, .int .i64 y.dst, .int .i64 y.car, .int .i64 y.state, .int .i64 y.owner, .int .i64 y.born], rB b4 26 [.int .i64 x.id, .int .i64 x.kind, .int .i64 x.src, .int .i64 x.dst, .int .i64 x.car, .int .i64 x.state, .int .i64 x.owner, .int .i64 x.born], rB b3 24 (cL c), rS (some ya) rc 1 (zs.map intRow)])) () H.out ?_ (steps_al ?_) ?_ ?_
  · intro L1 L2 xx ww hL sg
    have lh5 := hL 5 (by decide)
    simp only [lh5] at sg
    exact sg
  · refine al_cons ?_ (al_cons ?_ (al_cons ?_ (al_cons ?_ (al_cons ?_ (al_cons ?_ (al_cons ?_ (al_nil)))))))
    · intro LL xx ac wc sg hst hwant QQ hgo
      have H := Lib.hid hst
      simp only [sg.des 5 rfl, cond_true, cond_false] at H
      refine hpA_load tyapi_Call H rfl ((sg.free 7 (by kernel_rfl)).trans so7) hwant (by (repeat (first | exact List.Mem.head _ | apply List.Mem.tail))) (by rfl) rfl ?_
      exact hgo _ () _ (fun _ _ => rfl) rfl hst
    · intro LL xx ac wc sg hst hwant QQ hgo
      have se71 : ac.eval (.tmp 71) = _ := (sg.slot 0 (sg.anc 0 rfl))
      have sg71 := gt_of se71
      (try simp only [nth] at se71 sg71)
      refine op_call hwant hgo 17 #[.agg #[.int .i64 y.id, .int .i64 y.kind, .int .i64 y.src, .int .i64 y.dst, .int .i64 y.car, .int .i64 y.state, .int .i64 y.owner, .int .i64 y.born]] (by simp only [execOp]; go_simp) (callBoard y wc) ?_
      rintro er wd ⟨rfl, hof⟩
      exact ⟨_, (), rfl, fun _ _ => rfl, rfl, Hp.quiet hst hof⟩
    · intro LL xx ac wc sg hst hwant QQ hgo
      exact op_val hwant hgo hst _ (exec_move rfl (sg.slot 1 (sg.anc 1 rfl))) rfl
    · intro LL xx ac wc sg hst hwant QQ hgo
      have se70 : ac.eval (.tmp 70) = _ := (sg.slot 2 (sg.anc 2 rfl))
      have sg70 := gt_of se70
      (try simp only [nth] at se70 sg70)
      exact op_val hwant hgo hst _ (by simp only [execOp, nth]; go_simp <;> omega) rfl
    · intro LL xx ac wc sg hst hwant QQ hgo
      have se70 : ac.eval (.tmp 70) = _ := (sg.slot 2 (sg.anc 2 rfl))
      have sg70 := gt_of se70
      (try simp only [nth] at se70 sg70)
      exact op_val hwant hgo hst _ (by simp only [execOp, nth]; go_simp <;> omega) rfl
    · intro LL xx ac wc sg hst hwant QQ hgo
      have H := Lib.hid hst
      simp only [sg.self, cond_true, cond_false] at H
      refine hpA_store tyapi_Call H rfl rfl ((sg.free 12 (by kernel_rfl)).trans so12) (sg.slot 3 (sg.anc 3 rfl)) rfl (by repeat (first | apply Put.head | apply Put.tail)) (by simp [cA, cL]) (by simp [cA, cL, Value.oneCell']) (by first | rfl | (simp only [spl]; rfl)) rfl ?_
      intro wd H2
      exact hgo _ () _ (fun _ _ => rfl) rfl (by simp only [(show upd LL 5 5 = true from rfl), cond_true, cond_false]; exact H2.out)
    · intro LL xx ac wc sg hst hwant QQ hgo
      exact op_val hwant hgo hst _ (exec_assign rfl (sg.slot 4 (sg.anc 4 rfl))) rfl
  · exact skips [] (by kernel_rfl) (fun _ h => by cases h)
  · intro xx ac1 wz hfr hsl hst
    exact hfin ac1 wz (hfr.size.trans hz) hfr.defers (fr_keep hfr [13, 70, 71, 72, 73, 74] (by kernel_rfl)) (hsl 6 (by decide)) (Lib.hid hst)
set_option maxRecDepth 20000 in
theorem goes_w_r20 (c : Cfg) (x : CallV) (rc : Nat) (zs : List Int) (b3 : Nat) (b4 : Nat) (b7 : Nat) (i : Nat) (y : CallV) (hi : i ≤ zs.length) (hi2 : i ≤ 60) (z2ld : i < zs.length) (z2rd : (i : Int) < 60) (ya : Addr) (d : Int) (m : Nat) (hm1 : m ≤ 63) (hm : IntKind.i64.wrap ((IntKind.u64.wrap d).tmod 64) = (m : Int)) (r : Nat) (q : Nat) (p : Nat) (hr6 : r < 6) (hq11 : q < 11) (hp4 : p < 4) (hr : (m : Int).tmod 6 = (r : Int)) (hq : IntKind.i64.wrap ((m : Int).tdiv 6) = (q : Int)) (hp : (q : Int).tmod 4 = (p : Int)) (hq2 : IntKind.i64.wrap ((m : Int) / 6) = (q : Int)) (b12 : Nat) {wa wb : World} (H : Hid (Hp [] wa wb [rB b12 26 [.int .i64 y.id, .int .i64 y.kind, .int .i64 y.src, .int .i64 y.dst, .int .i64 y.car, .int .i64 y.state, .int .i64 y.owner, .int .i64 y.born], rB b7 26 [.int .i64 y.id, .int .i64 y.kind, .int .i64 y.src, .int .i64 y.dst, .int .i64 y.car, .int .i64 y.state, .int .i64 y.owner, .int .i64 y.born], rB b4 26 [.int .i64 x.id, .int .i64 x.kind, .int .i64 x.src, .int .i64 x.dst, .int .i64 x.car, .int .i64 x.state, .int .i64 x.owner, .int .i64 x.born], rB b3 24 (cL c), rS (some ya) rc 1 (zs.map intRow)])) (ac0 : Act) (hz : ac0.tmps.size = 203) (so44 : ac0.eval (.tmp 44) = .int .i64 r) {QR : Exit → Act → World → Prop} (hfin : ∀ (ac1 : Act) (wz : World), ac1.tmps.size = 203 → ac1.defers = ac0.defers → (∀ t, ([75, 76] : List Nat).contains t = false → ac1.eval (.tmp t) = ac0.eval (.tmp t)) → ac1.eval (.tmp 75) = .bool ((r : Int) == 3) →  Hid (Hp [] wa wz [rB b12 26 [.int .i64 y.id, .int .i64 y.kind, .int .i64 y.src, .int .i64 y.dst, .int .i64 y.car, .int .i64 y.state, .int .i64 y.owner, .int .i64 y.born], rB b7 26 [.int .i64 y.id, .int .i64 y.kind, .int .i64 y.src, .int .i64 y.dst, .int .i64 y.car, .int .i64 y.state, .int .i64 y.owner, .int .i64 y.born], rB b4 26 [.int .i64 x.id, .int .i64 x.kind, .int .i64 x.src, .int .i64 x.dst, .int .i64 x.car, .int .i64 x.state, .int .i64 x.owner, .int .i64 x.born], rB b3 24 (cL c), rS (some ya) rc 1 (zs.map intRow)]) → QR .normal ac1 wz) : (regAt Try.f3 20).wp Try.prog QR ac0 wb := by
  refine wp_region_sq (by kernel_rfl) 203 hz (by kernel_rfl) (fun (xx : Unit) jx => nth [.bool ((r : Int) == 3), .bool ((r : Int) == 3)] jx) (fun (LL : Nat → Bool) (xx : Unit) ww => Hp [] wa ww [rB b12 26 [.int .i64 y.id, .int .i64 y.kind, .int .i64 y.src, .int .i64 y.dst, .int .i64 y.car, .int .i64 y.state, .int .i64 y.owner, .int .i64 y.born], rB b7 26 [.int .i64 y.id, .int .i64 y.kind, .int .i64 y.src, .int .i64 y.dst, .int .i64 y.car, .int .i64 y.state, .int .i64 y.owner, .int .i64 y.born], rB b4 26 [.int .i64 x.id, .int .i64 x.kind, .int .i64 x.src, .int .i64 x.dst, .int .i64 x.car, .int .i64 x.state, .int .i64 x.owner, .int .i64 x.born], rB b3 24 (cL c), rS (some ya) rc 1 (zs.map intRow)]) () H.out ?_ (steps_al ?_) ?_ ?_
  · exact fun _ _ _ _ _ h => h
  · refine al_cons ?_ (al_cons ?_ (al_nil))
    · intro LL xx ac wc sg hst hwant QQ hgo
      have se44 : ac.eval (.tmp 44) = _ := ((sg.free 44 (by kernel_rfl)).trans so44)
      have sg44 := gt_of se44
      exact op_val hwant hgo hst _ (by simp only [execOp, nth]; go_simp <;> omega) rfl
    · intro LL xx ac wc sg hst hwant QQ hgo
      exact op_val hwant hgo hst _ (exec_assign rfl (sg.slot 0 (sg.anc 0 rfl))) rfl
  · exact skips [] (by kernel_rfl) (fun _ h => by cases h)
  · intro xx ac1 wz hfr hsl hst
    exact hfin ac1 wz (hfr.size.trans hz) hfr.defers (fr_keep hfr [75, 76] (by kernel_rfl)) (hsl 1 (by decide)) (Lib.hid hst)
set_option maxRecDepth 20000 in
theorem goes_w_r21 (c : Cfg) (x : CallV) (rc : Nat) (zs : List Int) (b3 : Nat) (b4 : Nat) (b7 : Nat) (i : Nat) (y : CallV) (hi : i ≤ zs.length) (hi2 : i ≤ 60) (z2ld : i < zs.length) (z2rd : (i : Int) < 60) (ya : Addr) (d : Int) (m : Nat) (hm1 : m ≤ 63) (hm : IntKind.i64.wrap ((IntKind.u64.wrap d).tmod 64) = (m : Int)) (r : Nat) (q : Nat) (p : Nat) (hr6 : r < 6) (hq11 : q < 11) (hp4 : p < 4) (hr : (m : Int).tmod 6 = (r : Int)) (hq : IntKind.i64.wrap ((m : Int).tdiv 6) = (q : Int)) (hp : (q : Int).tmod 4 = (p : Int)) (hq2 : IntKind.i64.wrap ((m : Int) / 6) = (q : Int)) (b12 : Nat) {wa wb : World} (H : Hid (Hp [] wa wb [rB b12 26 [.int .i64 y.id, .int .i64 y.kind, .int .i64 y.src, .int .i64 y.dst, .int .i64 y.car, .int .i64 y.state, .int .i64 y.owner, .int .i64 y.born], rB b7 26 [.int .i64 y.id, .int .i64 y.kind, .int .i64 y.src, .int .i64 y.dst, .int .i64 y.car, .int .i64 y.state, .int .i64 y.owner, .int .i64 y.born], rB b4 26 [.int .i64 x.id, .int .i64 x.kind, .int .i64 x.src, .int .i64 x.dst, .int .i64 x.car, .int .i64 x.state, .int .i64 x.owner, .int .i64 x.born], rB b3 24 (cL c), rS (some ya) rc 1 (zs.map intRow)])) (ac0 : Act) (hz : ac0.tmps.size = 203) (so7 : ac0.eval (.tmp 7) = .pointer (some ⟨b7, 0, none⟩)) (so12 : ac0.eval (.tmp 12) = .pointer (some ⟨b12, 0, none⟩)) {QR : Exit → Act → World → Prop} (hfin : ∀ (ac1 : Act) (wz : World), ac1.tmps.size = 203 → ac1.defers = ac0.defers → (∀ t, ([13, 77, 78, 79, 80, 81] : List Nat).contains t = false → ac1.eval (.tmp t) = ac0.eval (.tmp t)) → ac1.eval (.tmp 13) = .int .i64 ((serveV y).2) →  Hid (Hp [] wa wz [rB b12 26 [.int .i64 (((serveV y).1).id), .int .i64 (((serveV y).1).kind), .int .i64 (((serveV y).1).src), .int .i64 (((serveV y).1).dst), .int .i64 (((serveV y).1).car), .int .i64 (((serveV y).1).state), .int .i64 (((serveV y).1).owner), .int .i64 (((serveV y).1).born)], rB b7 26 [.int .i64 y.id, .int .i64 y.kind, .int .i64 y.src, .int .i64 y.dst, .int .i64 y.car, .int .i64 y.state, .int .i64 y.owner, .int .i64 y.born], rB b4 26 [.int .i64 x.id, .int .i64 x.kind, .int .i64 x.src, .int .i64 x.dst, .int .i64 x.car, .int .i64 x.state, .int .i64 x.owner, .int .i64 x.born], rB b3 24 (cL c), rS (some ya) rc 1 (zs.map intRow)]) → QR .normal ac1 wz) : (regAt Try.f3 21).wp Try.prog QR ac0 wb := by
  refine wp_region_sq (by kernel_rfl) 203 hz (by kernel_rfl) (fun (xx : Unit) jx => nth [.agg #[.int .i64 y.id, .int .i64 y.kind, .int .i64 y.src, .int .i64 y.dst, .int .i64 y.car, .int .i64 y.state, .int .i64 y.owner, .int .i64 y.born], .tuple #[.agg #[.int .i64 (((serveV y).1).id), .int .i64 (((serveV y).1).kind), .int .i64 (((serveV y).1).src), .int .i64 (((serveV y).1).dst), .int .i64 (((serveV y).1).car), .int .i64 (((serveV y).1).state), .int .i64 (((serveV y).1).owner), .int .i64 (((serveV y).1).born)], .int .i64 ((serveV y).2)], .tuple #[.agg #[.int .i64 (((serveV y).1).id), .int .i64 (((serveV y).1).kind), .int .i64 (((serveV y).1).src), .int .i64 (((serveV y).1).dst), .int .i64 (((serveV y).1).car), .int .i64 (((serveV y).1).state), .int .i64 (((serveV y).1).owner), .int .i64 (((serveV y).1).born)], .int .i64 ((serveV y).2)], .agg #[.int .i64 (((serveV y).1).id), .int .i64 (((serveV y).1).kind), .int .i64 (((serveV y).1).src), .int .i64 (((serveV y).1).dst), .int .i64 (((serveV y).1).car), .int .i64 (((serveV y).1).state), .int .i64 (((serveV y).1).owner), .int .i64 (((serveV y).1).born)], .int .i64 ((serveV y).2), undef, .int .i64 ((serveV y).2)] jx) (fun (LL : Nat → Bool) (xx : Unit) ww => Hp [] wa ww (bif LL 5 then [rB b12 26 [.int .i64 (((serveV y).1).id), .int .i64 (((serveV y).1).kind), .int .i64 (((serveV y).1).src), .int .i64 (((serveV y).1).dst), .int .i64 (((serveV y).1).car), .int .i64 (((serveV y).1).state), .int .i64 (((serveV y).1).owner), .int .i64 (((serveV y).1).born)], rB b7 26 [.int .i64 y.id, .int .i64 y.kind, .int .i64 y.src, .int .i64 y.dst, .int .i64 y.car, .int .i64 y.state, .int .i64 y.owner, .int .i64 y.born], rB b4 26 [.int .i64 x.id, .int .i64 x.kind, .int .i64 x.src, .int .i64 x.dst, .int .i64 x.car, .int .i64 x.state, .int .i64 x.owner, .int .i64 x.born], rB b3 24 (cL c), rS (some ya) rc 1 (zs.map intRow)] else [rB b12 26 [.int .i64 y.id, .int .i64 y.kind, .int .i64 y.src, .int .i64 y.dst, .int .i64 y.car, .int .i64 y.state, .int .i64 y.owner, .int .i64 y.born], rB b7 26 [.int .i64 y.id, .int .i64 y.kind, .int .i64 y.src, .int .i64 y.dst, .int .i64 y.car, .int .i64 y.state, .int .i64 y.owner, .int .i64 y.born], rB b4 26 [.int .i64 x.id, .int .i64 x.kind, .int .i64 x.src, .int .i64 x.dst, .int .i64 x.car, .int .i64 x.state, .int .i64 x.owner, .int .i64 x.born], rB b3 24 (cL c), rS (some ya) rc 1 (zs.map intRow)])) () H.out ?_ (steps_al ?_) ?_ ?_
  · intro L1 L2 xx ww hL sg
    have lh5 := hL 5 (by decide)
    simp only [lh5] at sg
    exact sg
  · refine al_cons ?_ (al_cons ?_ (al_cons ?_ (al_cons ?_ (al_cons ?_ (al_cons ?_ (al_cons ?_ (al_nil)))))))
    · intro LL xx ac wc sg hst hwant QQ hgo
      have H := Lib.hid hst
      simp only [sg.des 5 rfl, cond_true, cond_false] at H
      refine hpA_load tyapi_Call H rfl ((sg.free 7 (by kernel_rfl)).trans so7) hwant (by (repeat (first | exact List.Mem.head _ | apply List.Mem.tail))) (by rfl) rfl ?_
      exact hgo _ () _ (fun _ _ => rfl) rfl hst
    · intro LL xx ac wc sg hst hwant QQ hgo
      have se78 : ac.eval (.tmp 78) = _ := (sg.slot 0 (sg.anc 0 rfl))
      have sg78 := gt_of se78
      (try simp only [nth] at se78 sg78)
      refine op_call hwant hgo 18 #[.agg #[.int .i64 y.id, .int .i64 y.kind, .int .i64 y.src, .int .i64 y.dst, .int .i64 y.car, .int .i64 y.state, .int .i64 y.owner, .int .i64 y.born]] (by simp only [execOp]; go_simp) (callServe y wc) ?_
      rintro er wd ⟨rfl, hof⟩
      exact ⟨_, (), rfl, fun _ _ => rfl, rfl, Hp.quiet hst hof⟩
    · intro LL xx ac wc sg hst hwant QQ hgo
      exact op_val hwant hgo hst _ (exec_move rfl (sg.slot 1 (sg.anc 1 rfl))) rfl
    · intro LL xx ac wc sg hst hwant QQ hgo
      have se77 : ac.eval (.tmp 77) = _ := (sg.slot 2 (sg.anc 2 rfl))
      have sg77 := gt_of se77
      (try simp only [nth] at se77 sg77)
      exact op_val hwant hgo hst _ (by simp only [execOp, nth]; go_simp <;> omega) rfl
    · intro LL xx ac wc sg hst hwant QQ hgo
      have se77 : ac.eval (.tmp 77) = _ := (sg.slot 2 (sg.anc 2 rfl))
      have sg77 := gt_of se77
      (try simp only [nth] at se77 sg77)
      exact op_val hwant hgo hst _ (by simp only [execOp, nth]; go_simp <;> omega) rfl
    · intro LL xx ac wc sg hst hwant QQ hgo
      have H := Lib.hid hst
      simp only [sg.self, cond_true, cond_false] at H
      refine hpA_store tyapi_Call H rfl rfl ((sg.free 12 (by kernel_rfl)).trans so12) (sg.slot 3 (sg.anc 3 rfl)) rfl (by repeat (first | apply Put.head | apply Put.tail)) (by simp [cA, cL]) (by simp [cA, cL, Value.oneCell']) (by first | rfl | (simp only [spl]; rfl)) rfl ?_
      intro wd H2
      exact hgo _ () _ (fun _ _ => rfl) rfl (by simp only [(show upd LL 5 5 = true from rfl), cond_true, cond_false]; exact H2.out)
    · intro LL xx ac wc sg hst hwant QQ hgo
      exact op_val hwant hgo hst _ (exec_assign rfl (sg.slot 4 (sg.anc 4 rfl))) rfl
  · exact skips [] (by kernel_rfl) (fun _ h => by cases h)
  · intro xx ac1 wz hfr hsl hst
    exact hfin ac1 wz (hfr.size.trans hz) hfr.defers (fr_keep hfr [13, 77, 78, 79, 80, 81] (by kernel_rfl)) (hsl 6 (by decide)) (Lib.hid hst)
set_option maxRecDepth 20000 in
theorem goes_w_r22 (c : Cfg) (x : CallV) (rc : Nat) (zs : List Int) (b3 : Nat) (b4 : Nat) (b7 : Nat) (i : Nat) (y : CallV) (hi : i ≤ zs.length) (hi2 : i ≤ 60) (z2ld : i < zs.length) (z2rd : (i : Int) < 60) (ya : Addr) (d : Int) (m : Nat) (hm1 : m ≤ 63) (hm : IntKind.i64.wrap ((IntKind.u64.wrap d).tmod 64) = (m : Int)) (r : Nat) (q : Nat) (p : Nat) (hr6 : r < 6) (hq11 : q < 11) (hp4 : p < 4) (hr : (m : Int).tmod 6 = (r : Int)) (hq : IntKind.i64.wrap ((m : Int).tdiv 6) = (q : Int)) (hp : (q : Int).tmod 4 = (p : Int)) (hq2 : IntKind.i64.wrap ((m : Int) / 6) = (q : Int)) (b12 : Nat) {wa wb : World} (H : Hid (Hp [] wa wb [rB b12 26 [.int .i64 y.id, .int .i64 y.kind, .int .i64 y.src, .int .i64 y.dst, .int .i64 y.car, .int .i64 y.state, .int .i64 y.owner, .int .i64 y.born], rB b7 26 [.int .i64 y.id, .int .i64 y.kind, .int .i64 y.src, .int .i64 y.dst, .int .i64 y.car, .int .i64 y.state, .int .i64 y.owner, .int .i64 y.born], rB b4 26 [.int .i64 x.id, .int .i64 x.kind, .int .i64 x.src, .int .i64 x.dst, .int .i64 x.car, .int .i64 x.state, .int .i64 x.owner, .int .i64 x.born], rB b3 24 (cL c), rS (some ya) rc 1 (zs.map intRow)])) (ac0 : Act) (hz : ac0.tmps.size = 203) (so44 : ac0.eval (.tmp 44) = .int .i64 r) {QR : Exit → Act → World → Prop} (hfin : ∀ (ac1 : Act) (wz : World), ac1.tmps.size = 203 → ac1.defers = ac0.defers → (∀ t, ([82, 83] : List Nat).contains t = false → ac1.eval (.tmp t) = ac0.eval (.tmp t)) → ac1.eval (.tmp 82) = .bool ((r : Int) == 4) →  Hid (Hp [] wa wz [rB b12 26 [.int .i64 y.id, .int .i64 y.kind, .int .i64 y.src, .int .i64 y.dst, .int .i64 y.car, .int .i64 y.state, .int .i64 y.owner, .int .i64 y.born], rB b7 26 [.int .i64 y.id, .int .i64 y.kind, .int .i64 y.src, .int .i64 y.dst, .int .i64 y.car, .int .i64 y.state, .int .i64 y.owner, .int .i64 y.born], rB b4 26 [.int .i64 x.id, .int .i64 x.kind, .int .i64 x.src, .int .i64 x.dst, .int .i64 x.car, .int .i64 x.state, .int .i64 x.owner, .int .i64 x.born], rB b3 24 (cL c), rS (some ya) rc 1 (zs.map intRow)]) → QR .normal ac1 wz) : (regAt Try.f3 22).wp Try.prog QR ac0 wb := by
  refine wp_region_sq (by kernel_rfl) 203 hz (by kernel_rfl) (fun (xx : Unit) jx => nth [.bool ((r : Int) == 4), .bool ((r : Int) == 4)] jx) (fun (LL : Nat → Bool) (xx : Unit) ww => Hp [] wa ww [rB b12 26 [.int .i64 y.id, .int .i64 y.kind, .int .i64 y.src, .int .i64 y.dst, .int .i64 y.car, .int .i64 y.state, .int .i64 y.owner, .int .i64 y.born], rB b7 26 [.int .i64 y.id, .int .i64 y.kind, .int .i64 y.src, .int .i64 y.dst, .int .i64 y.car, .int .i64 y.state, .int .i64 y.owner, .int .i64 y.born], rB b4 26 [.int .i64 x.id, .int .i64 x.kind, .int .i64 x.src, .int .i64 x.dst, .int .i64 x.car, .int .i64 x.state, .int .i64 x.owner, .int .i64 x.born], rB b3 24 (cL c), rS (some ya) rc 1 (zs.map intRow)]) () H.out ?_ (steps_al ?_) ?_ ?_
  · exact fun _ _ _ _ _ h => h
  · refine al_cons ?_ (al_cons ?_ (al_nil))
    · intro LL xx ac wc sg hst hwant QQ hgo
      have se44 : ac.eval (.tmp 44) = _ := ((sg.free 44 (by kernel_rfl)).trans so44)
      have sg44 := gt_of se44
      exact op_val hwant hgo hst _ (by simp only [execOp, nth]; go_simp <;> omega) rfl
    · intro LL xx ac wc sg hst hwant QQ hgo
      exact op_val hwant hgo hst _ (exec_assign rfl (sg.slot 0 (sg.anc 0 rfl))) rfl
  · exact skips [] (by kernel_rfl) (fun _ h => by cases h)
  · intro xx ac1 wz hfr hsl hst
    exact hfin ac1 wz (hfr.size.trans hz) hfr.defers (fr_keep hfr [82, 83] (by kernel_rfl)) (hsl 1 (by decide)) (Lib.hid hst)
set_option maxRecDepth 20000 in
theorem goes_w_r23 (c : Cfg) (x : CallV) (rc : Nat) (zs : List Int) (b3 : Nat) (b4 : Nat) (b7 : Nat) (i : Nat) (y : CallV) (hi : i ≤ zs.length) (hi2 : i ≤ 60) (z2ld : i < zs.length) (z2rd : (i : Int) < 60) (ya : Addr) (d : Int) (m : Nat) (hm1 : m ≤ 63) (hm : IntKind.i64.wrap ((IntKind.u64.wrap d).tmod 64) = (m : Int)) (r : Nat) (q : Nat) (p : Nat) (hr6 : r < 6) (hq11 : q < 11) (hp4 : p < 4) (hr : (m : Int).tmod 6 = (r : Int)) (hq : IntKind.i64.wrap ((m : Int).tdiv 6) = (q : Int)) (hp : (q : Int).tmod 4 = (p : Int)) (hq2 : IntKind.i64.wrap ((m : Int) / 6) = (q : Int)) (b12 : Nat) {wa wb : World} (H : Hid (Hp [] wa wb [rB b12 26 [.int .i64 y.id, .int .i64 y.kind, .int .i64 y.src, .int .i64 y.dst, .int .i64 y.car, .int .i64 y.state, .int .i64 y.owner, .int .i64 y.born], rB b7 26 [.int .i64 y.id, .int .i64 y.kind, .int .i64 y.src, .int .i64 y.dst, .int .i64 y.car, .int .i64 y.state, .int .i64 y.owner, .int .i64 y.born], rB b4 26 [.int .i64 x.id, .int .i64 x.kind, .int .i64 x.src, .int .i64 x.dst, .int .i64 x.car, .int .i64 x.state, .int .i64 x.owner, .int .i64 x.born], rB b3 24 (cL c), rS (some ya) rc 1 (zs.map intRow)])) (ac0 : Act) (hz : ac0.tmps.size = 203) (so7 : ac0.eval (.tmp 7) = .pointer (some ⟨b7, 0, none⟩)) (so12 : ac0.eval (.tmp 12) = .pointer (some ⟨b12, 0, none⟩)) {QR : Exit → Act → World → Prop} (hfin : ∀ (ac1 : Act) (wz : World), ac1.tmps.size = 203 → ac1.defers = ac0.defers → (∀ t, ([13, 84, 85, 86, 87, 88] : List Nat).contains t = false → ac1.eval (.tmp t) = ac0.eval (.tmp t)) → ac1.eval (.tmp 13) = .int .i64 ((cancelV y).2) →  Hid (Hp [] wa wz [rB b12 26 [.int .i64 (((cancelV y).1).id), .int .i64 (((cancelV y).1).kind), .int .i64 (((cancelV y).1).src), .int .i64 (((cancelV y).1).dst), .int .i64 (((cancelV y).1).car), .int .i64 (((cancelV y).1).state), .int .i64 (((cancelV y).1).owner), .int .i64 (((cancelV y).1).born)], rB b7 26 [.int .i64 y.id, .int .i64 y.kind, .int .i64 y.src, .int .i64 y.dst, .int .i64 y.car, .int .i64 y.state, .int .i64 y.owner, .int .i64 y.born], rB b4 26 [.int .i64 x.id, .int .i64 x.kind, .int .i64 x.src, .int .i64 x.dst, .int .i64 x.car, .int .i64 x.state, .int .i64 x.owner, .int .i64 x.born], rB b3 24 (cL c), rS (some ya) rc 1 (zs.map intRow)]) → QR .normal ac1 wz) : (regAt Try.f3 23).wp Try.prog QR ac0 wb := by
  refine wp_region_sq (by kernel_rfl) 203 hz (by kernel_rfl) (fun (xx : Unit) jx => nth [.agg #[.int .i64 y.id, .int .i64 y.kind, .int .i64 y.src, .int .i64 y.dst, .int .i64 y.car, .int .i64 y.state, .int .i64 y.owner, .int .i64 y.born], .tuple #[.agg #[.int .i64 (((cancelV y).1).id), .int .i64 (((cancelV y).1).kind), .int .i64 (((cancelV y).1).src), .int .i64 (((cancelV y).1).dst), .int .i64 (((cancelV y).1).car), .int .i64 (((cancelV y).1).state), .int .i64 (((cancelV y).1).owner), .int .i64 (((cancelV y).1).born)], .int .i64 ((cancelV y).2)], .tuple #[.agg #[.int .i64 (((cancelV y).1).id), .int .i64 (((cancelV y).1).kind), .int .i64 (((cancelV y).1).src), .int .i64 (((cancelV y).1).dst), .int .i64 (((cancelV y).1).car), .int .i64 (((cancelV y).1).state), .int .i64 (((cancelV y).1).owner), .int .i64 (((cancelV y).1).born)], .int .i64 ((cancelV y).2)], .agg #[.int .i64 (((cancelV y).1).id), .int .i64 (((cancelV y).1).kind), .int .i64 (((cancelV y).1).src), .int .i64 (((cancelV y).1).dst), .int .i64 (((cancelV y).1).car), .int .i64 (((cancelV y).1).state), .int .i64 (((cancelV y).1).owner), .int .i64 (((cancelV y).1).born)], .int .i64 ((cancelV y).2), undef, .int .i64 ((cancelV y).2)] jx) (fun (LL : Nat → Bool) (xx : Unit) ww => Hp [] wa ww (bif LL 5 then [rB b12 26 [.int .i64 (((cancelV y).1).id), .int .i64 (((cancelV y).1).kind), .int .i64 (((cancelV y).1).src), .int .i64 (((cancelV y).1).dst), .int .i64 (((cancelV y).1).car), .int .i64 (((cancelV y).1).state), .int .i64 (((cancelV y).1).owner), .int .i64 (((cancelV y).1).born)], rB b7 26 [.int .i64 y.id, .int .i64 y.kind, .int .i64 y.src, .int .i64 y.dst, .int .i64 y.car, .int .i64 y.state, .int .i64 y.owner, .int .i64 y.born], rB b4 26 [.int .i64 x.id, .int .i64 x.kind, .int .i64 x.src, .int .i64 x.dst, .int .i64 x.car, .int .i64 x.state, .int .i64 x.owner, .int .i64 x.born], rB b3 24 (cL c), rS (some ya) rc 1 (zs.map intRow)] else [rB b12 26 [.int .i64 y.id, .int .i64 y.kind, .int .i64 y.src, .int .i64 y.dst, .int .i64 y.car, .int .i64 y.state, .int .i64 y.owner, .int .i64 y.born], rB b7 26 [.int .i64 y.id, .int .i64 y.kind, .int .i64 y.src, .int .i64 y.dst, .int .i64 y.car, .int .i64 y.state, .int .i64 y.owner, .int .i64 y.born], rB b4 26 [.int .i64 x.id, .int .i64 x.kind, .int .i64 x.src, .int .i64 x.dst, .int .i64 x.car, .int .i64 x.state, .int .i64 x.owner, .int .i64 x.born], rB b3 24 (cL c), rS (some ya) rc 1 (zs.map intRow)])) () H.out ?_ (steps_al ?_) ?_ ?_
  · intro L1 L2 xx ww hL sg
    have lh5 := hL 5 (by decide)
    simp only [lh5] at sg
    exact sg
  · refine al_cons ?_ (al_cons ?_ (al_cons ?_ (al_cons ?_ (al_cons ?_ (al_cons ?_ (al_cons ?_ (al_nil)))))))
    · intro LL xx ac wc sg hst hwant QQ hgo
      have H := Lib.hid hst
      simp only [sg.des 5 rfl, cond_true, cond_false] at H
      refine hpA_load tyapi_Call H rfl ((sg.free 7 (by kernel_rfl)).trans so7) hwant (by (repeat (first | exact List.Mem.head _ | apply List.Mem.tail))) (by rfl) rfl ?_
      exact hgo _ () _ (fun _ _ => rfl) rfl hst
    · intro LL xx ac wc sg hst hwant QQ hgo
      have se85 : ac.eval (.tmp 85) = _ := (sg.slot 0 (sg.anc 0 rfl))
      have sg85 := gt_of se85
      (try simp only [nth] at se85 sg85)
      refine op_call hwant hgo 19 #[.agg #[.int .i64 y.id, .int .i64 y.kind, .int .i64 y.src, .int .i64 y.dst, .int .i64 y.car, .int .i64 y.state, .int .i64 y.owner, .int .i64 y.born]] (by simp only [execOp]; go_simp) (callCancel y wc) ?_
      rintro er wd ⟨rfl, hof⟩
      exact ⟨_, (), rfl, fun _ _ => rfl, rfl, Hp.quiet hst hof⟩
    · intro LL xx ac wc sg hst hwant QQ hgo
      exact op_val hwant hgo hst _ (exec_move rfl (sg.slot 1 (sg.anc 1 rfl))) rfl
    · intro LL xx ac wc sg hst hwant QQ hgo
      have se84 : ac.eval (.tmp 84) = _ := (sg.slot 2 (sg.anc 2 rfl))
      have sg84 := gt_of se84
      (try simp only [nth] at se84 sg84)
      exact op_val hwant hgo hst _ (by simp only [execOp, nth]; go_simp <;> omega) rfl
    · intro LL xx ac wc sg hst hwant QQ hgo
      have se84 : ac.eval (.tmp 84) = _ := (sg.slot 2 (sg.anc 2 rfl))
      have sg84 := gt_of se84
      (try simp only [nth] at se84 sg84)
      exact op_val hwant hgo hst _ (by simp only [execOp, nth]; go_simp <;> omega) rfl
    · intro LL xx ac wc sg hst hwant QQ hgo
      have H := Lib.hid hst
      simp only [sg.self, cond_true, cond_false] at H
      refine hpA_store tyapi_Call H rfl rfl ((sg.free 12 (by kernel_rfl)).trans so12) (sg.slot 3 (sg.anc 3 rfl)) rfl (by repeat (first | apply Put.head | apply Put.tail)) (by simp [cA, cL]) (by simp [cA, cL, Value.oneCell']) (by first | rfl | (simp only [spl]; rfl)) rfl ?_
      intro wd H2
      exact hgo _ () _ (fun _ _ => rfl) rfl (by simp only [(show upd LL 5 5 = true from rfl), cond_true, cond_false]; exact H2.out)
    · intro LL xx ac wc sg hst hwant QQ hgo
      exact op_val hwant hgo hst _ (exec_assign rfl (sg.slot 4 (sg.anc 4 rfl))) rfl
  · exact skips [] (by kernel_rfl) (fun _ h => by cases h)
  · intro xx ac1 wz hfr hsl hst
    exact hfin ac1 wz (hfr.size.trans hz) hfr.defers (fr_keep hfr [13, 84, 85, 86, 87, 88] (by kernel_rfl)) (hsl 6 (by decide)) (Lib.hid hst)
set_option maxRecDepth 20000 in
theorem goes_w_r24 (c : Cfg) (x : CallV) (rc : Nat) (zs : List Int) (b3 : Nat) (b4 : Nat) (b7 : Nat) (i : Nat) (y : CallV) (hi : i ≤ zs.length) (hi2 : i ≤ 60) (z2ld : i < zs.length) (z2rd : (i : Int) < 60) (ya : Addr) (d : Int) (m : Nat) (hm1 : m ≤ 63) (hm : IntKind.i64.wrap ((IntKind.u64.wrap d).tmod 64) = (m : Int)) (r : Nat) (q : Nat) (p : Nat) (hr6 : r < 6) (hq11 : q < 11) (hp4 : p < 4) (hr : (m : Int).tmod 6 = (r : Int)) (hq : IntKind.i64.wrap ((m : Int).tdiv 6) = (q : Int)) (hp : (q : Int).tmod 4 = (p : Int)) (hq2 : IntKind.i64.wrap ((m : Int) / 6) = (q : Int)) (b12 : Nat) (h5 : ((r : Int) == 5) = true) {wa wb : World} (H : Hid (Hp [] wa wb [rB b12 26 [.int .i64 y.id, .int .i64 y.kind, .int .i64 y.src, .int .i64 y.dst, .int .i64 y.car, .int .i64 y.state, .int .i64 y.owner, .int .i64 y.born], rB b7 26 [.int .i64 y.id, .int .i64 y.kind, .int .i64 y.src, .int .i64 y.dst, .int .i64 y.car, .int .i64 y.state, .int .i64 y.owner, .int .i64 y.born], rB b4 26 [.int .i64 x.id, .int .i64 x.kind, .int .i64 x.src, .int .i64 x.dst, .int .i64 x.car, .int .i64 x.state, .int .i64 x.owner, .int .i64 x.born], rB b3 24 (cL c), rS (some ya) rc 1 (zs.map intRow)])) (ac0 : Act) (hz : ac0.tmps.size = 203) (so44 : ac0.eval (.tmp 44) = .int .i64 r) {QR : Exit → Act → World → Prop} (hfin : ∀ (ac1 : Act) (wz : World), ac1.tmps.size = 203 → ac1.defers = ac0.defers → (∀ t, ([89, 90] : List Nat).contains t = false → ac1.eval (.tmp t) = ac0.eval (.tmp t)) → ac1.eval (.tmp 89) = .bool true →  Hid (Hp [] wa wz [rB b12 26 [.int .i64 y.id, .int .i64 y.kind, .int .i64 y.src, .int .i64 y.dst, .int .i64 y.car, .int .i64 y.state, .int .i64 y.owner, .int .i64 y.born], rB b7 26 [.int .i64 y.id, .int .i64 y.kind, .int .i64 y.src, .int .i64 y.dst, .int .i64 y.car, .int .i64 y.state, .int .i64 y.owner, .int .i64 y.born], rB b4 26 [.int .i64 x.id, .int .i64 x.kind, .int .i64 x.src, .int .i64 x.dst, .int .i64 x.car, .int .i64 x.state, .int .i64 x.owner, .int .i64 x.born], rB b3 24 (cL c), rS (some ya) rc 1 (zs.map intRow)]) → QR .normal ac1 wz) : (regAt Try.f3 24).wp Try.prog QR ac0 wb := by
  refine wp_region_sq (by kernel_rfl) 203 hz (by kernel_rfl) (fun (xx : Unit) jx => nth [.bool true, .bool true] jx) (fun (LL : Nat → Bool) (xx : Unit) ww => Hp [] wa ww [rB b12 26 [.int .i64 y.id, .int .i64 y.kind, .int .i64 y.src, .int .i64 y.dst, .int .i64 y.car, .int .i64 y.state, .int .i64 y.owner, .int .i64 y.born], rB b7 26 [.int .i64 y.id, .int .i64 y.kind, .int .i64 y.src, .int .i64 y.dst, .int .i64 y.car, .int .i64 y.state, .int .i64 y.owner, .int .i64 y.born], rB b4 26 [.int .i64 x.id, .int .i64 x.kind, .int .i64 x.src, .int .i64 x.dst, .int .i64 x.car, .int .i64 x.state, .int .i64 x.owner, .int .i64 x.born], rB b3 24 (cL c), rS (some ya) rc 1 (zs.map intRow)]) () H.out ?_ (steps_al ?_) ?_ ?_
  · exact fun _ _ _ _ _ h => h
  · refine al_cons ?_ (al_cons ?_ (al_nil))
    · intro LL xx ac wc sg hst hwant QQ hgo
      have se44 : ac.eval (.tmp 44) = _ := ((sg.free 44 (by kernel_rfl)).trans so44)
      have sg44 := gt_of se44
      exact op_val hwant hgo hst _ (by simp only [execOp, nth]; go_simp <;> omega) rfl
    · intro LL xx ac wc sg hst hwant QQ hgo
      exact op_val hwant hgo hst _ (exec_assign rfl (sg.slot 0 (sg.anc 0 rfl))) rfl
  · exact skips [] (by kernel_rfl) (fun _ h => by cases h)
  · intro xx ac1 wz hfr hsl hst
    exact hfin ac1 wz (hfr.size.trans hz) hfr.defers (fr_keep hfr [89, 90] (by kernel_rfl)) (hsl 1 (by decide)) (Lib.hid hst)
set_option maxRecDepth 20000 in
theorem goes_w_r25 (c : Cfg) (x : CallV) (rc : Nat) (zs : List Int) (b3 : Nat) (b4 : Nat) (b7 : Nat) (i : Nat) (y : CallV) (hi : i ≤ zs.length) (hi2 : i ≤ 60) (z2ld : i < zs.length) (z2rd : (i : Int) < 60) (ya : Addr) (d : Int) (m : Nat) (hm1 : m ≤ 63) (hm : IntKind.i64.wrap ((IntKind.u64.wrap d).tmod 64) = (m : Int)) (r : Nat) (q : Nat) (p : Nat) (hr6 : r < 6) (hq11 : q < 11) (hp4 : p < 4) (hr : (m : Int).tmod 6 = (r : Int)) (hq : IntKind.i64.wrap ((m : Int).tdiv 6) = (q : Int)) (hp : (q : Int).tmod 4 = (p : Int)) (hq2 : IntKind.i64.wrap ((m : Int) / 6) = (q : Int)) (b12 : Nat) (h5 : ((r : Int) == 5) = true) {wa wb : World} (H : Hid (Hp [] wa wb [rB b12 26 [.int .i64 y.id, .int .i64 y.kind, .int .i64 y.src, .int .i64 y.dst, .int .i64 y.car, .int .i64 y.state, .int .i64 y.owner, .int .i64 y.born], rB b7 26 [.int .i64 y.id, .int .i64 y.kind, .int .i64 y.src, .int .i64 y.dst, .int .i64 y.car, .int .i64 y.state, .int .i64 y.owner, .int .i64 y.born], rB b4 26 [.int .i64 x.id, .int .i64 x.kind, .int .i64 x.src, .int .i64 x.dst, .int .i64 x.car, .int .i64 x.state, .int .i64 x.owner, .int .i64 x.born], rB b3 24 (cL c), rS (some ya) rc 1 (zs.map intRow)])) (ac0 : Act) (hz : ac0.tmps.size = 203) (so7 : ac0.eval (.tmp 7) = .pointer (some ⟨b7, 0, none⟩)) (so12 : ac0.eval (.tmp 12) = .pointer (some ⟨b12, 0, none⟩)) {QR : Exit → Act → World → Prop} (hfin : ∀ (ac1 : Act) (wz : World), ac1.tmps.size = 203 → ac1.defers = ac0.defers → (∀ t, ([13, 91, 92, 93, 94, 95] : List Nat).contains t = false → ac1.eval (.tmp t) = ac0.eval (.tmp t)) → ac1.eval (.tmp 13) = .int .i64 ((expireV y).2) →  Hid (Hp [] wa wz [rB b12 26 [.int .i64 (((expireV y).1).id), .int .i64 (((expireV y).1).kind), .int .i64 (((expireV y).1).src), .int .i64 (((expireV y).1).dst), .int .i64 (((expireV y).1).car), .int .i64 (((expireV y).1).state), .int .i64 (((expireV y).1).owner), .int .i64 (((expireV y).1).born)], rB b7 26 [.int .i64 y.id, .int .i64 y.kind, .int .i64 y.src, .int .i64 y.dst, .int .i64 y.car, .int .i64 y.state, .int .i64 y.owner, .int .i64 y.born], rB b4 26 [.int .i64 x.id, .int .i64 x.kind, .int .i64 x.src, .int .i64 x.dst, .int .i64 x.car, .int .i64 x.state, .int .i64 x.owner, .int .i64 x.born], rB b3 24 (cL c), rS (some ya) rc 1 (zs.map intRow)]) → QR .normal ac1 wz) : (regAt Try.f3 25).wp Try.prog QR ac0 wb := by
  refine wp_region_sq (by kernel_rfl) 203 hz (by kernel_rfl) (fun (xx : Unit) jx => nth [.agg #[.int .i64 y.id, .int .i64 y.kind, .int .i64 y.src, .int .i64 y.dst, .int .i64 y.car, .int .i64 y.state, .int .i64 y.owner, .int .i64 y.born], .tuple #[.agg #[.int .i64 (((expireV y).1).id), .int .i64 (((expireV y).1).kind), .int .i64 (((expireV y).1).src), .int .i64 (((expireV y).1).dst), .int .i64 (((expireV y).1).car), .int .i64 (((expireV y).1).state), .int .i64 (((expireV y).1).owner), .int .i64 (((expireV y).1).born)], .int .i64 ((expireV y).2)], .tuple #[.agg #[.int .i64 (((expireV y).1).id), .int .i64 (((expireV y).1).kind), .int .i64 (((expireV y).1).src), .int .i64 (((expireV y).1).dst), .int .i64 (((expireV y).1).car), .int .i64 (((expireV y).1).state), .int .i64 (((expireV y).1).owner), .int .i64 (((expireV y).1).born)], .int .i64 ((expireV y).2)], .agg #[.int .i64 (((expireV y).1).id), .int .i64 (((expireV y).1).kind), .int .i64 (((expireV y).1).src), .int .i64 (((expireV y).1).dst), .int .i64 (((expireV y).1).car), .int .i64 (((expireV y).1).state), .int .i64 (((expireV y).1).owner), .int .i64 (((expireV y).1).born)], .int .i64 ((expireV y).2), undef, .int .i64 ((expireV y).2)] jx) (fun (LL : Nat → Bool) (xx : Unit) ww => Hp [] wa ww (bif LL 5 then [rB b12 26 [.int .i64 (((expireV y).1).id), .int .i64 (((expireV y).1).kind), .int .i64 (((expireV y).1).src), .int .i64 (((expireV y).1).dst), .int .i64 (((expireV y).1).car), .int .i64 (((expireV y).1).state), .int .i64 (((expireV y).1).owner), .int .i64 (((expireV y).1).born)], rB b7 26 [.int .i64 y.id, .int .i64 y.kind, .int .i64 y.src, .int .i64 y.dst, .int .i64 y.car, .int .i64 y.state, .int .i64 y.owner, .int .i64 y.born], rB b4 26 [.int .i64 x.id, .int .i64 x.kind, .int .i64 x.src, .int .i64 x.dst, .int .i64 x.car, .int .i64 x.state, .int .i64 x.owner, .int .i64 x.born], rB b3 24 (cL c), rS (some ya) rc 1 (zs.map intRow)] else [rB b12 26 [.int .i64 y.id, .int .i64 y.kind, .int .i64 y.src, .int .i64 y.dst, .int .i64 y.car, .int .i64 y.state, .int .i64 y.owner, .int .i64 y.born], rB b7 26 [.int .i64 y.id, .int .i64 y.kind, .int .i64 y.src, .int .i64 y.dst, .int .i64 y.car, .int .i64 y.state, .int .i64 y.owner, .int .i64 y.born], rB b4 26 [.int .i64 x.id, .int .i64 x.kind, .int .i64 x.src, .int .i64 x.dst, .int .i64 x.car, .int .i64 x.state, .int .i64 x.owner, .int .i64 x.born], rB b3 24 (cL c), rS (some ya) rc 1 (zs.map intRow)])) () H.out ?_ (steps_al ?_) ?_ ?_
  · intro L1 L2 xx ww hL sg
    have lh5 := hL 5 (by decide)
    simp only [lh5] at sg
    exact sg
  · refine al_cons ?_ (al_cons ?_ (al_cons ?_ (al_cons ?_ (al_cons ?_ (al_cons ?_ (al_cons ?_ (al_nil)))))))
    · intro LL xx ac wc sg hst hwant QQ hgo
      have H := Lib.hid hst
      simp only [sg.des 5 rfl, cond_true, cond_false] at H
      refine hpA_load tyapi_Call H rfl ((sg.free 7 (by kernel_rfl)).trans so7) hwant (by (repeat (first | exact List.Mem.head _ | apply List.Mem.tail))) (by rfl) rfl ?_
      exact hgo _ () _ (fun _ _ => rfl) rfl hst
    · intro LL xx ac wc sg hst hwant QQ hgo
      have se92 : ac.eval (.tmp 92) = _ := (sg.slot 0 (sg.anc 0 rfl))
      have sg92 := gt_of se92
      (try simp only [nth] at se92 sg92)
      refine op_call hwant hgo 20 #[.agg #[.int .i64 y.id, .int .i64 y.kind, .int .i64 y.src, .int .i64 y.dst, .int .i64 y.car, .int .i64 y.state, .int .i64 y.owner, .int .i64 y.born]] (by simp only [execOp]; go_simp) (callExpire y wc) ?_
      rintro er wd ⟨rfl, hof⟩
      exact ⟨_, (), rfl, fun _ _ => rfl, rfl, Hp.quiet hst hof⟩
    · intro LL xx ac wc sg hst hwant QQ hgo
      exact op_val hwant hgo hst _ (exec_move rfl (sg.slot 1 (sg.anc 1 rfl))) rfl
    · intro LL xx ac wc sg hst hwant QQ hgo
      have se91 : ac.eval (.tmp 91) = _ := (sg.slot 2 (sg.anc 2 rfl))
      have sg91 := gt_of se91
      (try simp only [nth] at se91 sg91)
      exact op_val hwant hgo hst _ (by simp only [execOp, nth]; go_simp <;> omega) rfl
    · intro LL xx ac wc sg hst hwant QQ hgo
      have se91 : ac.eval (.tmp 91) = _ := (sg.slot 2 (sg.anc 2 rfl))
      have sg91 := gt_of se91
      (try simp only [nth] at se91 sg91)
      exact op_val hwant hgo hst _ (by simp only [execOp, nth]; go_simp <;> omega) rfl
    · intro LL xx ac wc sg hst hwant QQ hgo
      have H := Lib.hid hst
      simp only [sg.self, cond_true, cond_false] at H
      refine hpA_store tyapi_Call H rfl rfl ((sg.free 12 (by kernel_rfl)).trans so12) (sg.slot 3 (sg.anc 3 rfl)) rfl (by repeat (first | apply Put.head | apply Put.tail)) (by simp [cA, cL]) (by simp [cA, cL, Value.oneCell']) (by first | rfl | (simp only [spl]; rfl)) rfl ?_
      intro wd H2
      exact hgo _ () _ (fun _ _ => rfl) rfl (by simp only [(show upd LL 5 5 = true from rfl), cond_true, cond_false]; exact H2.out)
    · intro LL xx ac wc sg hst hwant QQ hgo
      exact op_val hwant hgo hst _ (exec_assign rfl (sg.slot 4 (sg.anc 4 rfl))) rfl
  · exact skips [] (by kernel_rfl) (fun _ h => by cases h)
  · intro xx ac1 wz hfr hsl hst
    exact hfin ac1 wz (hfr.size.trans hz) hfr.defers (fr_keep hfr [13, 91, 92, 93, 94, 95] (by kernel_rfl)) (hsl 6 (by decide)) (Lib.hid hst)
end Go.Proofs.Ytfhhfmkfkoemjaa.Ca
