/- The reference of layer 7: whether a configuration is good. -/
import Derived.Test.YtfhhfmkfkoemjaaProg
import Derived.Below
import Derived.WalkKit
import Derived.KernelRfl
import Derived.RowKit3
import Derived.Deep.LoopGhost
import Derived.Deep.QuietTactic
import Derived.BigQuiet
import Derived.WideLaws
import Derived.Deep.DeepCutAuto
import Derived.Deep.CutBlock
import Derived.Lib.Hide
import Derived.Laws.BitsLemmas
import Derived.Laws.Bits64
import Derived.Laws.BitsAllLaws
import Derived.IntWalk
import Derived.Outline
import Derived.WalkSpells
import Derived.Test.YtfhhfmkfkoemjaaMem
import Derived.Test.YtfhhfmkfkoemjaaKy1
namespace Go.Proofs.Ytfhhfmkfkoemjaa.Se6
open Go.RowKit Go.Proofs.Ytfhhfmkfkoemjaa.Mem Go.Proofs.Ytfhhfmkfkoemjaa.Reg Go.Proofs.Ytfhhfmkfkoemjaa.Pk Go.Proofs.Ytfhhfmkfkoemjaa.Si
set_option linter.unusedVariables false
set_option linter.unusedSimpArgs false

def loL : List Int := [2, 1, 1, 1, 1, 1, 1, 1, 1, 1, 1, 1, 1, 0, 0, 1, 0]
def hiL : List Int := [32, 4, 8, 64, 8, 64, 65536, 1024, 1024, 65536, 16, 16, 64, 8, 1048576, 4, 4]
def cfL (c : Cfg) : List Int := [c.floors, c.cars, c.seats, c.calls, c.lines, c.keys, c.window, c.burst, c.rate, c.idle, c.inn, c.out, c.feed, c.retries, c.life, c.door, c.holds]
theorem cell_of (l : List Int) {i : Nat} (h : i < l.length) : (l.map (Value.int .i64))[i]? = some (.int .i64 (l.getD i 0)) := by
  simp [List.getElem?_eq_getElem, h, List.getD_eq_getElem?_getD]
theorem cfg_iff (c : Cfg) : cfgOk c = true ↔ ∀ k, k < 17 → loL.getD k 0 ≤ (cfL c).getD k 0 ∧ (cfL c).getD k 0 ≤ hiL.getD k 0 := by
  constructor
  · intro h k hk
    unfold cfgOk at h
    simp at h
    have : k = 0 ∨ k = 1 ∨ k = 2 ∨ k = 3 ∨ k = 4 ∨ k = 5 ∨ k = 6 ∨ k = 7 ∨ k = 8 ∨ k = 9 ∨ k = 10 ∨ k = 11 ∨ k = 12 ∨ k = 13 ∨ k = 14 ∨ k = 15 ∨ k = 16 := by omega
    rcases this with rfl | rfl | rfl | rfl | rfl | rfl | rfl | rfl | rfl | rfl | rfl | rfl | rfl | rfl | rfl | rfl | rfl <;> simp [loL, hiL, cfL] <;> omega
  · intro h
    have g := fun k (hk : k < 17) => h k hk
    have g0 := g 0 (by decide)
    have g1 := g 1 (by decide)
    have g2 := g 2 (by decide)
    have g3 := g 3 (by decide)
    have g4 := g 4 (by decide)
    have g5 := g 5 (by decide)
    have g6 := g 6 (by decide)
    have g7 := g 7 (by decide)
    have g8 := g 8 (by decide)
    have g9 := g 9 (by decide)
    have g10 := g 10 (by decide)
    have g11 := g 11 (by decide)
    have g12 := g 12 (by decide)
    have g13 := g 13 (by decide)
    have g14 := g 14 (by decide)
    have g15 := g 15 (by decide)
    have g16 := g 16 (by decide)
    simp [loL, hiL, cfL] at g0 g1 g2 g3 g4 g5 g6 g7 g8 g9 g10 g11 g12 g13 g14 g15 g16
    unfold cfgOk
    simp
    omega
theorem check_ok (c : Cfg) : (checkV c == 0) = cfgOk c := by
  cases h : cfgOk c with
  | true => rw [checkV_good h]; rfl
  | false => rw [checkV_bad h]; rfl
theorem good_no {c : Cfg} {i : Nat} (hi : i < 17) (h : ((decide ((cfL c).getD i 0 < loL.getD i 0)) || (decide (hiL.getD i 0 < (cfL c).getD i 0))) = true) : false = (checkV c == 0) := by
  rw [check_ok]
  cases hc : cfgOk c with
  | false => rfl
  | true =>
    have := (cfg_iff c).1 hc i hi
    simp at h
    simp at this
    omega
theorem good_yes {c : Cfg} (h : ∀ k, k < 17 → loL.getD k 0 ≤ (cfL c).getD k 0 ∧ (cfL c).getD k 0 ≤ hiL.getD k 0) : true = (checkV c == 0) := by
  rw [check_ok, (cfg_iff c).2 h]
theorem ty_17_int : TyI Try.prog 133 17 true [.int .i64 0, .int .i64 0, .int .i64 0, .int .i64 0, .int .i64 0, .int .i64 0, .int .i64 0, .int .i64 0, .int .i64 0, .int .i64 0, .int .i64 0, .int .i64 0, .int .i64 0, .int .i64 0, .int .i64 0, .int .i64 0, .int .i64 0] := ⟨by kernel_rfl, by kernel_rfl, by kernel_rfl⟩
set_option maxRecDepth 20000 in
theorem listR_r0 (c : Cfg) {wa wb : World} (H : Hid (Hp [] wa wb [])) (ac0 : Act) (hz : ac0.tmps.size = 38) (so0 : ac0.eval (.tmp 0) = .agg (cA c)) {QR : Exit → Act → World → Prop} (hfin : ∀ (b1 : Nat) (b2 : Nat) (ac1 : Act) (wz : World), ac1.tmps.size = 38 → ac1.defers = ac0.defers → (∀ t, ([1, 2] : List Nat).contains t = false → ac1.eval (.tmp t) = ac0.eval (.tmp t)) → ac1.eval (.tmp 1) = .pointer (some ⟨b1, 0, none⟩) → ac1.eval (.tmp 2) = .pointer (some ⟨b2, 0, none⟩) →  Hid (Hp [] wa wz [rB b2 133 [.int .i64 0, .int .i64 0, .int .i64 0, .int .i64 0, .int .i64 0, .int .i64 0, .int .i64 0, .int .i64 0, .int .i64 0, .int .i64 0, .int .i64 0, .int .i64 0, .int .i64 0, .int .i64 0, .int .i64 0, .int .i64 0, .int .i64 0], rB b1 24 (cL c)]) → QR .normal ac1 wz) : (regAt Try.f82 0).wp Try.prog QR ac0 wb := by
  refine wp_region_sq (by kernel_rfl) 38 hz (by kernel_rfl) (fun (xx : Nat × Nat) jx => match xx with | (b1, b2) => nth [.pointer (some ⟨b1, 0, none⟩), .pointer (some ⟨b2, 0, none⟩)] jx) (fun (LL : Nat → Bool) (xx : Nat × Nat) ww => match xx with | (b1, b2) => Hp [] wa ww (bif LL 1 then [rB b2 133 [.int .i64 0, .int .i64 0, .int .i64 0, .int .i64 0, .int .i64 0, .int .i64 0, .int .i64 0, .int .i64 0, .int .i64 0, .int .i64 0, .int .i64 0, .int .i64 0, .int .i64 0, .int .i64 0, .int .i64 0, .int .i64 0, .int .i64 0], rB b1 24 (cL c)] else (bif LL 0 then [rB b1 24 (cL c)] else []))) (default, default) H.out ?_ (steps_al ?_) ?_ ?_
  · intro L1 L2 xx ww hL sg
    have lh0 := hL 0 (by decide)
    have lh1 := hL 1 (by decide)
    simp only [lh0, lh1] at sg
    exact sg
  · refine al_cons ?_ (al_cons ?_ (al_nil))
    · intro LL xx ac wc sg hst hwant QQ hgo
      obtain ⟨_, b2⟩ := xx
      have H := Lib.hid hst
      simp only [sg.self, sg.des 1 rfl, cond_true, cond_false] at H
      refine hp_box rfl 24 _ rfl _ ((sg.free 0 (by kernel_rfl)).trans so0) _ (by rfl) H ?_
      intro wd b1 H2
      exact hgo _ (b1, b2) _ (sg.agree (x' := (b1, b2)) (n := 2) rfl (by (iterate 2 (refine ix_cons (by first | exact fun _ => rfl | exact no sg.self | exact no (sg.des _ rfl)) ?_)); exact ix_nil)) rfl (by simp only [(show upd LL 0 0 = true from rfl), (show upd LL 0 1 = LL 1 from rfl), sg.des 1 rfl, cond_true, cond_false]; exact H2.out)
    · intro LL xx ac wc sg hst hwant QQ hgo
      obtain ⟨b1, _⟩ := xx
      have H := Lib.hid hst
      simp only [sg.anc 0 rfl, sg.self, cond_true, cond_false] at H
      refine hpA_alloc ty_17_int H rfl rfl ?_
      intro wd b2 H2
      exact hgo _ (b1, b2) _ (sg.agree (x' := (b1, b2)) (n := 2) rfl (by (iterate 2 (refine ix_cons (by first | exact fun _ => rfl | exact no sg.self | exact no (sg.des _ rfl)) ?_)); exact ix_nil)) rfl (by simp only [(show upd LL 1 0 = LL 0 from rfl), sg.anc 0 rfl, (show upd LL 1 1 = true from rfl), cond_true, cond_false]; exact H2.out)
  · exact skips [] (by kernel_rfl) (fun _ h => by cases h)
  · intro xx ac1 wz hfr hsl hst
    obtain ⟨b1, b2⟩ := xx
    exact hfin b1 b2 ac1 wz (hfr.size.trans hz) hfr.defers (fr_keep hfr [1, 2] (by kernel_rfl)) (hsl 0 (by decide)) (hsl 1 (by decide)) (Lib.hid hst)
set_option maxRecDepth 20000 in
theorem listR_r1 (c : Cfg) (b1 : Nat) (b2 : Nat) {wa wb : World} (H : Hid (Hp [] wa wb [rB b2 133 [.int .i64 0, .int .i64 0, .int .i64 0, .int .i64 0, .int .i64 0, .int .i64 0, .int .i64 0, .int .i64 0, .int .i64 0, .int .i64 0, .int .i64 0, .int .i64 0, .int .i64 0, .int .i64 0, .int .i64 0, .int .i64 0, .int .i64 0], rB b1 24 (cL c)])) (ac0 : Act) (hz : ac0.tmps.size = 38) (so1 : ac0.eval (.tmp 1) = .pointer (some ⟨b1, 0, none⟩)) (so2 : ac0.eval (.tmp 2) = .pointer (some ⟨b2, 0, none⟩)) {QR : Exit → Act → World → Prop} (hfin : ∀ (ac1 : Act) (wz : World), ac1.tmps.size = 38 → ac1.defers = ac0.defers → (∀ t, ([3, 4, 5, 6, 7, 8, 9, 10, 11, 12, 13, 14, 15, 16, 17, 18, 19, 20, 21, 22, 23, 24, 25, 26, 27, 28, 29, 30, 31, 32, 33, 34, 35, 36, 37] : List Nat).contains t = false → ac1.eval (.tmp t) = ac0.eval (.tmp t)) →  Hid (Hp [] wa wz [rB b2 133 [.int .i64 c.floors, .int .i64 c.cars, .int .i64 c.seats, .int .i64 c.calls, .int .i64 c.lines, .int .i64 c.keys, .int .i64 c.window, .int .i64 c.burst, .int .i64 c.rate, .int .i64 c.idle, .int .i64 c.inn, .int .i64 c.out, .int .i64 c.feed, .int .i64 c.retries, .int .i64 c.life, .int .i64 c.door, .int .i64 c.holds], rB b1 24 (cL c)]) → QR .normal ac1 wz) : (regAt Try.f82 1).wp Try.prog QR ac0 wb := by
  refine wp_region_sq (by kernel_rfl) 38 hz (by kernel_rfl) (fun (xx : Unit) jx => nth [.pointer (some ⟨b1, 0, none⟩), .int .i64 c.floors, .pointer (some ⟨b1, 1, none⟩), .int .i64 c.cars, .pointer (some ⟨b1, 2, none⟩), .int .i64 c.seats, .pointer (some ⟨b1, 3, none⟩), .int .i64 c.calls, .pointer (some ⟨b1, 4, none⟩), .int .i64 c.lines, .pointer (some ⟨b1, 5, none⟩), .int .i64 c.keys, .pointer (some ⟨b1, 6, none⟩), .int .i64 c.window, .pointer (some ⟨b1, 7, none⟩), .int .i64 c.burst, .pointer (some ⟨b1, 8, none⟩), .int .i64 c.rate, .pointer (some ⟨b1, 9, none⟩), .int .i64 c.idle, .pointer (some ⟨b1, 10, none⟩), .int .i64 c.inn, .pointer (some ⟨b1, 11, none⟩), .int .i64 c.out, .pointer (some ⟨b1, 12, none⟩), .int .i64 c.feed, .pointer (some ⟨b1, 13, none⟩), .int .i64 c.retries, .pointer (some ⟨b1, 14, none⟩), .int .i64 c.life, .pointer (some ⟨b1, 15, none⟩), .int .i64 c.door, .pointer (some ⟨b1, 16, none⟩), .int .i64 c.holds, .agg #[.int .i64 c.floors, .int .i64 c.cars, .int .i64 c.seats, .int .i64 c.calls, .int .i64 c.lines, .int .i64 c.keys, .int .i64 c.window, .int .i64 c.burst, .int .i64 c.rate, .int .i64 c.idle, .int .i64 c.inn, .int .i64 c.out, .int .i64 c.feed, .int .i64 c.retries, .int .i64 c.life, .int .i64 c.door, .int .i64 c.holds], undef] jx) (fun (LL : Nat → Bool) (xx : Unit) ww => Hp [] wa ww (bif LL 35 then [rB b2 133 [.int .i64 c.floors, .int .i64 c.cars, .int .i64 c.seats, .int .i64 c.calls, .int .i64 c.lines, .int .i64 c.keys, .int .i64 c.window, .int .i64 c.burst, .int .i64 c.rate, .int .i64 c.idle, .int .i64 c.inn, .int .i64 c.out, .int .i64 c.feed, .int .i64 c.retries, .int .i64 c.life, .int .i64 c.door, .int .i64 c.holds], rB b1 24 (cL c)] else [rB b2 133 [.int .i64 0, .int .i64 0, .int .i64 0, .int .i64 0, .int .i64 0, .int .i64 0, .int .i64 0, .int .i64 0, .int .i64 0, .int .i64 0, .int .i64 0, .int .i64 0, .int .i64 0, .int .i64 0, .int .i64 0, .int .i64 0, .int .i64 0], rB b1 24 (cL c)])) () H.out ?_ (steps_al ?_) ?_ ?_
  · intro L1 L2 xx ww hL sg
    have lh35 := hL 35 (by decide)
    simp only [lh35] at sg
    exact sg
  · refine al_cons ?_ (al_cons ?_ (al_cons ?_ (al_cons ?_ (al_cons ?_ (al_cons ?_ (al_cons ?_ (al_cons ?_ (al_cons ?_ (al_cons ?_ (al_cons ?_ (al_cons ?_ (al_cons ?_ (al_cons ?_ (al_cons ?_ (al_cons ?_ (al_cons ?_ (al_cons ?_ (al_cons ?_ (al_cons ?_ (al_cons ?_ (al_cons ?_ (al_cons ?_ (al_cons ?_ (al_cons ?_ (al_cons ?_ (al_cons ?_ (al_cons ?_ (al_cons ?_ (al_cons ?_ (al_cons ?_ (al_cons ?_ (al_cons ?_ (al_cons ?_ (al_cons ?_ (al_cons ?_ (al_nil))))))))))))))))))))))))))))))))))))
    · intro LL xx ac wc sg hst hwant QQ hgo
      have se1 : ac.eval (.tmp 1) = _ := ((sg.free 1 (by kernel_rfl)).trans so1)
      have sg1 := gt_of se1
      exact op_val hwant hgo hst _ (by simp only [execOp, nth]; go_simp <;> omega) rfl
    · intro LL xx ac wc sg hst hwant QQ hgo
      have H := Lib.hid hst
      simp only [sg.des 35 rfl, cond_true, cond_false] at H
      refine hpA_load1 tyint H rfl (sg.slot 0 (sg.anc 0 rfl)) hwant (by (repeat (first | exact List.Mem.head _ | apply List.Mem.tail))) (by rfl) ?_
      exact hgo _ () _ (fun _ _ => rfl) rfl hst
    · intro LL xx ac wc sg hst hwant QQ hgo
      have se1 : ac.eval (.tmp 1) = _ := ((sg.free 1 (by kernel_rfl)).trans so1)
      have sg1 := gt_of se1
      exact op_val hwant hgo hst _ (by simp only [execOp, nth]; go_simp <;> omega) rfl
    · intro LL xx ac wc sg hst hwant QQ hgo
      have H := Lib.hid hst
      simp only [sg.des 35 rfl, cond_true, cond_false] at H
      refine hpA_load1 tyint H rfl (sg.slot 2 (sg.anc 2 rfl)) hwant (by (repeat (first | exact List.Mem.head _ | apply List.Mem.tail))) (by rfl) ?_
      exact hgo _ () _ (fun _ _ => rfl) rfl hst
    · intro LL xx ac wc sg hst hwant QQ hgo
      have se1 : ac.eval (.tmp 1) = _ := ((sg.free 1 (by kernel_rfl)).trans so1)
      have sg1 := gt_of se1
      exact op_val hwant hgo hst _ (by simp only [execOp, nth]; go_simp <;> omega) rfl
    · intro LL xx ac wc sg hst hwant QQ hgo
      have H := Lib.hid hst
      simp only [sg.des 35 rfl, cond_true, cond_false] at H
      refine hpA_load1 tyint H rfl (sg.slot 4 (sg.anc 4 rfl)) hwant (by (repeat (first | exact List.Mem.head _ | apply List.Mem.tail))) (by rfl) ?_
      exact hgo _ () _ (fun _ _ => rfl) rfl hst
    · intro LL xx ac wc sg hst hwant QQ hgo
      have se1 : ac.eval (.tmp 1) = _ := ((sg.free 1 (by kernel_rfl)).trans so1)
      have sg1 := gt_of se1
      exact op_val hwant hgo hst _ (by simp only [execOp, nth]; go_simp <;> omega) rfl
    · intro LL xx ac wc sg hst hwant QQ hgo
      have H := Lib.hid hst
      simp only [sg.des 35 rfl, cond_true, cond_false] at H
      refine hpA_load1 tyint H rfl (sg.slot 6 (sg.anc 6 rfl)) hwant (by (repeat (first | exact List.Mem.head _ | apply List.Mem.tail))) (by rfl) ?_
      exact hgo _ () _ (fun _ _ => rfl) rfl hst
    · intro LL xx ac wc sg hst hwant QQ hgo
      have se1 : ac.eval (.tmp 1) = _ := ((sg.free 1 (by kernel_rfl)).trans so1)
      have sg1 := gt_of se1
      exact op_val hwant hgo hst _ (by simp only [execOp, nth]; go_simp <;> omega) rfl
    · intro LL xx ac wc sg hst hwant QQ hgo
      have H := Lib.hid hst
      simp only [sg.des 35 rfl, cond_true, cond_false] at H
      refine hpA_load1 tyint H rfl (sg.slot 8 (sg.anc 8 rfl)) hwant (by (repeat (first | exact List.Mem.head _ | apply List.Mem.tail))) (by rfl) ?_
      exact hgo _ () _ (fun _ _ => rfl) rfl hst
    · intro LL xx ac wc sg hst hwant QQ hgo
      have se1 : ac.eval (.tmp 1) = _ := ((sg.free 1 (by kernel_rfl)).trans so1)
      have sg1 := gt_of se1
      exact op_val hwant hgo hst _ (by simp only [execOp, nth]; go_simp <;> omega) rfl
    · intro LL xx ac wc sg hst hwant QQ hgo
      have H := Lib.hid hst
      simp only [sg.des 35 rfl, cond_true, cond_false] at H
      refine hpA_load1 tyint H rfl (sg.slot 10 (sg.anc 10 rfl)) hwant (by (repeat (first | exact List.Mem.head _ | apply List.Mem.tail))) (by rfl) ?_
      exact hgo _ () _ (fun _ _ => rfl) rfl hst
    · intro LL xx ac wc sg hst hwant QQ hgo
      have se1 : ac.eval (.tmp 1) = _ := ((sg.free 1 (by kernel_rfl)).trans so1)
      have sg1 := gt_of se1
      exact op_val hwant hgo hst _ (by simp only [execOp, nth]; go_simp <;> omega) rfl
    · intro LL xx ac wc sg hst hwant QQ hgo
      have H := Lib.hid hst
      simp only [sg.des 35 rfl, cond_true, cond_false] at H
      refine hpA_load1 tyint H rfl (sg.slot 12 (sg.anc 12 rfl)) hwant (by (repeat (first | exact List.Mem.head _ | apply List.Mem.tail))) (by rfl) ?_
      exact hgo _ () _ (fun _ _ => rfl) rfl hst
    · intro LL xx ac wc sg hst hwant QQ hgo
      have se1 : ac.eval (.tmp 1) = _ := ((sg.free 1 (by kernel_rfl)).trans so1)
      have sg1 := gt_of se1
      exact op_val hwant hgo hst _ (by simp only [execOp, nth]; go_simp <;> omega) rfl
    · intro LL xx ac wc sg hst hwant QQ hgo
      have H := Lib.hid hst
      simp only [sg.des 35 rfl, cond_true, cond_false] at H
      refine hpA_load1 tyint H rfl (sg.slot 14 (sg.anc 14 rfl)) hwant (by (repeat (first | exact List.Mem.head _ | apply List.Mem.tail))) (by rfl) ?_
      exact hgo _ () _ (fun _ _ => rfl) rfl hst
    · intro LL xx ac wc sg hst hwant QQ hgo
      have se1 : ac.eval (.tmp 1) = _ := ((sg.free 1 (by kernel_rfl)).trans so1)
      have sg1 := gt_of se1
      exact op_val hwant hgo hst _ (by simp only [execOp, nth]; go_simp <;> omega) rfl
    · intro LL xx ac wc sg hst hwant QQ hgo
      have H := Lib.hid hst
      simp only [sg.des 35 rfl, cond_true, cond_false] at H
      refine hpA_load1 tyint H rfl (sg.slot 16 (sg.anc 16 rfl)) hwant (by (repeat (first | exact List.Mem.head _ | apply List.Mem.tail))) (by rfl) ?_
      exact hgo _ () _ (fun _ _ => rfl) rfl hst
    · intro LL xx ac wc sg hst hwant QQ hgo
      have se1 : ac.eval (.tmp 1) = _ := ((sg.free 1 (by kernel_rfl)).trans so1)
      have sg1 := gt_of se1
      exact op_val hwant hgo hst _ (by simp only [execOp, nth]; go_simp <;> omega) rfl
    · intro LL xx ac wc sg hst hwant QQ hgo
      have H := Lib.hid hst
      simp only [sg.des 35 rfl, cond_true, cond_false] at H
      refine hpA_load1 tyint H rfl (sg.slot 18 (sg.anc 18 rfl)) hwant (by (repeat (first | exact List.Mem.head _ | apply List.Mem.tail))) (by rfl) ?_
      exact hgo _ () _ (fun _ _ => rfl) rfl hst
    · intro LL xx ac wc sg hst hwant QQ hgo
      have se1 : ac.eval (.tmp 1) = _ := ((sg.free 1 (by kernel_rfl)).trans so1)
      have sg1 := gt_of se1
      exact op_val hwant hgo hst _ (by simp only [execOp, nth]; go_simp <;> omega) rfl
    · intro LL xx ac wc sg hst hwant QQ hgo
      have H := Lib.hid hst
      simp only [sg.des 35 rfl, cond_true, cond_false] at H
      refine hpA_load1 tyint H rfl (sg.slot 20 (sg.anc 20 rfl)) hwant (by (repeat (first | exact List.Mem.head _ | apply List.Mem.tail))) (by rfl) ?_
      exact hgo _ () _ (fun _ _ => rfl) rfl hst
    · intro LL xx ac wc sg hst hwant QQ hgo
      have se1 : ac.eval (.tmp 1) = _ := ((sg.free 1 (by kernel_rfl)).trans so1)
      have sg1 := gt_of se1
      exact op_val hwant hgo hst _ (by simp only [execOp, nth]; go_simp <;> omega) rfl
    · intro LL xx ac wc sg hst hwant QQ hgo
      have H := Lib.hid hst
      simp only [sg.des 35 rfl, cond_true, cond_false] at H
      refine hpA_load1 tyint H rfl (sg.slot 22 (sg.anc 22 rfl)) hwant (by (repeat (first | exact List.Mem.head _ | apply List.Mem.tail))) (by rfl) ?_
      exact hgo _ () _ (fun _ _ => rfl) rfl hst
    · intro LL xx ac wc sg hst hwant QQ hgo
      have se1 : ac.eval (.tmp 1) = _ := ((sg.free 1 (by kernel_rfl)).trans so1)
      have sg1 := gt_of se1
      exact op_val hwant hgo hst _ (by simp only [execOp, nth]; go_simp <;> omega) rfl
    · intro LL xx ac wc sg hst hwant QQ hgo
      have H := Lib.hid hst
      simp only [sg.des 35 rfl, cond_true, cond_false] at H
      refine hpA_load1 tyint H rfl (sg.slot 24 (sg.anc 24 rfl)) hwant (by (repeat (first | exact List.Mem.head _ | apply List.Mem.tail))) (by rfl) ?_
      exact hgo _ () _ (fun _ _ => rfl) rfl hst
    · intro LL xx ac wc sg hst hwant QQ hgo
      have se1 : ac.eval (.tmp 1) = _ := ((sg.free 1 (by kernel_rfl)).trans so1)
      have sg1 := gt_of se1
      exact op_val hwant hgo hst _ (by simp only [execOp, nth]; go_simp <;> omega) rfl
    · intro LL xx ac wc sg hst hwant QQ hgo
      have H := Lib.hid hst
      simp only [sg.des 35 rfl, cond_true, cond_false] at H
      refine hpA_load1 tyint H rfl (sg.slot 26 (sg.anc 26 rfl)) hwant (by (repeat (first | exact List.Mem.head _ | apply List.Mem.tail))) (by rfl) ?_
      exact hgo _ () _ (fun _ _ => rfl) rfl hst
    · intro LL xx ac wc sg hst hwant QQ hgo
      have se1 : ac.eval (.tmp 1) = _ := ((sg.free 1 (by kernel_rfl)).trans so1)
      have sg1 := gt_of se1
      exact op_val hwant hgo hst _ (by simp only [execOp, nth]; go_simp <;> omega) rfl
    · intro LL xx ac wc sg hst hwant QQ hgo
      have H := Lib.hid hst
      simp only [sg.des 35 rfl, cond_true, cond_false] at H
      refine hpA_load1 tyint H rfl (sg.slot 28 (sg.anc 28 rfl)) hwant (by (repeat (first | exact List.Mem.head _ | apply List.Mem.tail))) (by rfl) ?_
      exact hgo _ () _ (fun _ _ => rfl) rfl hst
    · intro LL xx ac wc sg hst hwant QQ hgo
      have se1 : ac.eval (.tmp 1) = _ := ((sg.free 1 (by kernel_rfl)).trans so1)
      have sg1 := gt_of se1
      exact op_val hwant hgo hst _ (by simp only [execOp, nth]; go_simp <;> omega) rfl
    · intro LL xx ac wc sg hst hwant QQ hgo
      have H := Lib.hid hst
      simp only [sg.des 35 rfl, cond_true, cond_false] at H
      refine hpA_load1 tyint H rfl (sg.slot 30 (sg.anc 30 rfl)) hwant (by (repeat (first | exact List.Mem.head _ | apply List.Mem.tail))) (by rfl) ?_
      exact hgo _ () _ (fun _ _ => rfl) rfl hst
    · intro LL xx ac wc sg hst hwant QQ hgo
      have se1 : ac.eval (.tmp 1) = _ := ((sg.free 1 (by kernel_rfl)).trans so1)
      have sg1 := gt_of se1
      exact op_val hwant hgo hst _ (by simp only [execOp, nth]; go_simp <;> omega) rfl
    · intro LL xx ac wc sg hst hwant QQ hgo
      have H := Lib.hid hst
      simp only [sg.des 35 rfl, cond_true, cond_false] at H
      refine hpA_load1 tyint H rfl (sg.slot 32 (sg.anc 32 rfl)) hwant (by (repeat (first | exact List.Mem.head _ | apply List.Mem.tail))) (by rfl) ?_
      exact hgo _ () _ (fun _ _ => rfl) rfl hst
    · intro LL xx ac wc sg hst hwant QQ hgo
      have se4 : ac.eval (.tmp 4) = _ := (sg.slot 1 (sg.anc 1 rfl))
      have sg4 := gt_of se4
      have se6 : ac.eval (.tmp 6) = _ := (sg.slot 3 (sg.anc 3 rfl))
      have sg6 := gt_of se6
      have se8 : ac.eval (.tmp 8) = _ := (sg.slot 5 (sg.anc 5 rfl))
      have sg8 := gt_of se8
      have se10 : ac.eval (.tmp 10) = _ := (sg.slot 7 (sg.anc 7 rfl))
      have sg10 := gt_of se10
      have se12 : ac.eval (.tmp 12) = _ := (sg.slot 9 (sg.anc 9 rfl))
      have sg12 := gt_of se12
      have se14 : ac.eval (.tmp 14) = _ := (sg.slot 11 (sg.anc 11 rfl))
      have sg14 := gt_of se14
      have se16 : ac.eval (.tmp 16) = _ := (sg.slot 13 (sg.anc 13 rfl))
      have sg16 := gt_of se16
      have se18 : ac.eval (.tmp 18) = _ := (sg.slot 15 (sg.anc 15 rfl))
      have sg18 := gt_of se18
      have se20 : ac.eval (.tmp 20) = _ := (sg.slot 17 (sg.anc 17 rfl))
      have sg20 := gt_of se20
      have se22 : ac.eval (.tmp 22) = _ := (sg.slot 19 (sg.anc 19 rfl))
      have sg22 := gt_of se22
      have se24 : ac.eval (.tmp 24) = _ := (sg.slot 21 (sg.anc 21 rfl))
      have sg24 := gt_of se24
      have se26 : ac.eval (.tmp 26) = _ := (sg.slot 23 (sg.anc 23 rfl))
      have sg26 := gt_of se26
      have se28 : ac.eval (.tmp 28) = _ := (sg.slot 25 (sg.anc 25 rfl))
      have sg28 := gt_of se28
      have se30 : ac.eval (.tmp 30) = _ := (sg.slot 27 (sg.anc 27 rfl))
      have sg30 := gt_of se30
      have se32 : ac.eval (.tmp 32) = _ := (sg.slot 29 (sg.anc 29 rfl))
      have sg32 := gt_of se32
      have se34 : ac.eval (.tmp 34) = _ := (sg.slot 31 (sg.anc 31 rfl))
      have sg34 := gt_of se34
      have se36 : ac.eval (.tmp 36) = _ := (sg.slot 33 (sg.anc 33 rfl))
      have sg36 := gt_of se36
      (try simp only [nth] at se4 sg4 se6 sg6 se8 sg8 se10 sg10 se12 sg12 se14 sg14 se16 sg16 se18 sg18 se20 sg20 se22 sg22 se24 sg24 se26 sg26 se28 sg28 se30 sg30 se32 sg32 se34 sg34 se36 sg36)
      (try simp only [kA, kL, rkA, rkL, cA, cL] at se4 sg4 se6 sg6 se8 sg8 se10 sg10 se12 sg12 se14 sg14 se16 sg16 se18 sg18 se20 sg20 se22 sg22 se24 sg24 se26 sg26 se28 sg28 se30 sg30 se32 sg32 se34 sg34 se36 sg36)
      exact op_val hwant hgo hst _ (by simp only [execOp, nth, kA, kL, rkA, rkL, cA, cL]; go_simp <;> omega) rfl
    · intro LL xx ac wc sg hst hwant QQ hgo
      have H := Lib.hid hst
      simp only [sg.self, cond_true, cond_false] at H
      refine hpA_store ty_17_int H rfl rfl ((sg.free 2 (by kernel_rfl)).trans so2) (sg.slot 34 (sg.anc 34 rfl)) rfl (by repeat (first | apply Put.head | apply Put.tail)) (by simp [kA, kL, rkA, rkL, cA, cL]) (by simp [kA, kL, rkA, rkL, cA, cL, Value.oneCell']) (by first | rfl | (simp only [spl]; rfl)) rfl ?_
      intro wd H2
      exact hgo _ () _ (fun _ _ => rfl) rfl (by simp only [(show upd LL 35 35 = true from rfl), cond_true, cond_false]; exact H2.out)
  · exact skips [] (by kernel_rfl) (fun _ h => by cases h)
  · intro xx ac1 wz hfr hsl hst
    exact hfin ac1 wz (hfr.size.trans hz) hfr.defers (fr_keep hfr [3, 4, 5, 6, 7, 8, 9, 10, 11, 12, 13, 14, 15, 16, 17, 18, 19, 20, 21, 22, 23, 24, 25, 26, 27, 28, 29, 30, 31, 32, 33, 34, 35, 36, 37] (by kernel_rfl)) (Lib.hid hst)
set_option maxRecDepth 20000 in
theorem listR (c : Cfg) (w : World) : Calls Try.prog 82 #[.agg (cA c)] w fun e w' => e = .returned (.agg #[.int .i64 c.floors, .int .i64 c.cars, .int .i64 c.seats, .int .i64 c.calls, .int .i64 c.lines, .int .i64 c.keys, .int .i64 c.window, .int .i64 c.burst, .int .i64 c.rate, .int .i64 c.idle, .int .i64 c.inn, .int .i64 c.out, .int .i64 c.feed, .int .i64 c.retries, .int .i64 c.life, .int .i64 c.door, .int .i64 c.holds]) ∧ Off [] w w' := by
  have H := Lib.hid (Hp.start [] w)
  refine calls_start Try.func82 rfl 38 rfl (by simp) (fun aa nn dd sl => ?_)
  have ss0 : aa.eval (.tmp 0) = .agg (cA c) := sl 0 (by simp)
  clear sl
  refine wp_seq_k fun KK1 hK1 => ?_
  refine listR_r0 c H aa nn ss0 ?_
  clear H nn
  intro b1 b2 aa ww nn dd1 kp ss1 ss2 H
  replace ss0 := (kp 0 rfl).trans ss0
  replace dd := dd1.trans dd
  clear dd1 kp
  refine then_normal ?_
  refine hK1 _ _ ?_
  refine wp_seq_k fun KK2 hK2 => ?_
  refine listR_r1 c b1 b2 H aa nn ss1 ss2 ?_
  clear H nn
  intro aa ww nn dd1 kp H
  replace ss0 := (kp 0 rfl).trans ss0
  replace ss1 := (kp 1 rfl).trans ss1
  replace ss2 := (kp 2 rfl).trans ss2
  replace dd := dd1.trans dd
  clear dd1 kp
  refine then_normal ?_
  refine hK2 _ _ ?_
  refine wp_ret ?_
  exact hp_ret_c ty_17_int H rfl dd ss2  (by (repeat (first | exact List.Mem.head _ | apply List.Mem.tail))) rfl ⟨rfl, H.out.off⟩
theorem good_step {c : Cfg} {i : Nat} (h : ∀ k, k < i → loL.getD k 0 ≤ (cfL c).getD k 0 ∧ (cfL c).getD k 0 ≤ hiL.getD k 0) (q1 : decide ((cfL c).getD i 0 < loL.getD i 0) = false) (q2 : decide (hiL.getD i 0 < (cfL c).getD i 0) = false) :
    ∀ k, k < i + 1 → loL.getD k 0 ≤ (cfL c).getD k 0 ∧ (cfL c).getD k 0 ≤ hiL.getD k 0 := fun k hk => by
  rcases Nat.lt_or_ge k i with h1 | h1
  · exact h k h1
  · obtain rfl : k = i := by omega
    have := of_decide_eq_false q1
    have := of_decide_eq_false q2
    omega
set_option maxRecDepth 20000 in
theorem goodR_r0 (c : Cfg) {wa wb : World} (H : Hid (Hp [] wa wb [])) (ac0 : Act) (hz : ac0.tmps.size = 31) (so0 : ac0.eval (.tmp 0) = .agg (cA c)) {QR : Exit → Act → World → Prop} (hfin : ∀ (b1 : Nat) (ac1 : Act) (wz : World), ac1.tmps.size = 31 → ac1.defers = ac0.defers → (∀ t, ([1, 2] : List Nat).contains t = false → ac1.eval (.tmp t) = ac0.eval (.tmp t)) → ac1.eval (.tmp 1) = .pointer (some ⟨b1, 0, none⟩) → ac1.eval (.tmp 2) = .bool false →  Hid (Hp [] wa wz [rB b1 24 (cL c)]) → QR .normal ac1 wz) : (regAt Try.f52 0).wp Try.prog QR ac0 wb := by
  refine wp_region_sq (by kernel_rfl) 31 hz (by kernel_rfl) (fun (xx : Nat) jx => match xx with | b1 => nth [.pointer (some ⟨b1, 0, none⟩), .bool false] jx) (fun (LL : Nat → Bool) (xx : Nat) ww => match xx with | b1 => Hp [] wa ww (bif LL 0 then [rB b1 24 (cL c)] else [])) default H.out ?_ (steps_al ?_) ?_ ?_
  · intro L1 L2 xx ww hL sg
    have lh0 := hL 0 (by decide)
    simp only [lh0] at sg
    exact sg
  · refine al_cons ?_ (al_cons ?_ (al_nil))
    · intro LL xx ac wc sg hst hwant QQ hgo
      revert sg hst hgo; revert xx; intro xold sg hst hgo
      have H := Lib.hid hst
      simp only [sg.self, cond_true, cond_false] at H
      refine hp_box rfl 24 _ rfl _ ((sg.free 0 (by kernel_rfl)).trans so0) _ (by rfl) H ?_
      intro wd b1 H2
      exact hgo _ b1 _ (sg.agree (x' := b1) (n := 2) rfl (by (iterate 2 (refine ix_cons (by first | exact fun _ => rfl | exact no sg.self | exact no (sg.des _ rfl)) ?_)); exact ix_nil)) rfl (by simp only [(show upd LL 0 0 = true from rfl), cond_true, cond_false]; exact H2.out)
    · intro LL xx ac wc sg hst hwant QQ hgo
      revert sg hst hgo; revert xx; intro b1 sg hst hgo
      exact op_val hwant hgo hst _ (exec_assign rfl rfl) rfl
  · exact skips [] (by kernel_rfl) (fun _ h => by cases h)
  · intro xx ac1 wz hfr hsl hst
    revert hsl hst; revert xx; intro b1 hsl hst
    exact hfin b1 ac1 wz (hfr.size.trans hz) hfr.defers (fr_keep hfr [1, 2] (by kernel_rfl)) (hsl 0 (by decide)) (hsl 1 (by decide)) (Lib.hid hst)
set_option maxRecDepth 20000 in
theorem goodR_r1 (c : Cfg) (b1 : Nat) {wa wb : World} (H : Hid (Hp [] wa wb [rB b1 24 (cL c)])) (ac0 : Act) (hz : ac0.tmps.size = 31)  {QR : Exit → Act → World → Prop} (hfin : ∀ (b3 : Nat) (ac1 : Act) (wz : World), ac1.tmps.size = 31 → ac1.defers = ac0.defers → (∀ t, ([3, 7] : List Nat).contains t = false → ac1.eval (.tmp t) = ac0.eval (.tmp t)) → ac1.eval (.tmp 3) = .pointer (some ⟨b3, 0, none⟩) →  Hid (Hp [] wa wz [rB b3 133 [.int .i64 2, .int .i64 1, .int .i64 1, .int .i64 1, .int .i64 1, .int .i64 1, .int .i64 1, .int .i64 1, .int .i64 1, .int .i64 1, .int .i64 1, .int .i64 1, .int .i64 1, .int .i64 0, .int .i64 0, .int .i64 1, .int .i64 0], rB b1 24 (cL c)]) → QR .normal ac1 wz) : (regAt Try.f52 1).wp Try.prog QR ac0 wb := by
  refine wp_region_sq (by kernel_rfl) 31 hz (by kernel_rfl) (fun (xx : Nat) jx => match xx with | b3 => nth [.agg #[.int .i64 2, .int .i64 1, .int .i64 1, .int .i64 1, .int .i64 1, .int .i64 1, .int .i64 1, .int .i64 1, .int .i64 1, .int .i64 1, .int .i64 1, .int .i64 1, .int .i64 1, .int .i64 0, .int .i64 0, .int .i64 1, .int .i64 0], .pointer (some ⟨b3, 0, none⟩), undef] jx) (fun (LL : Nat → Bool) (xx : Nat) ww => match xx with | b3 => Hp [] wa ww (bif LL 2 then [rB b3 133 [.int .i64 2, .int .i64 1, .int .i64 1, .int .i64 1, .int .i64 1, .int .i64 1, .int .i64 1, .int .i64 1, .int .i64 1, .int .i64 1, .int .i64 1, .int .i64 1, .int .i64 1, .int .i64 0, .int .i64 0, .int .i64 1, .int .i64 0], rB b1 24 (cL c)] else (bif LL 1 then [rB b3 133 [.int .i64 0, .int .i64 0, .int .i64 0, .int .i64 0, .int .i64 0, .int .i64 0, .int .i64 0, .int .i64 0, .int .i64 0, .int .i64 0, .int .i64 0, .int .i64 0, .int .i64 0, .int .i64 0, .int .i64 0, .int .i64 0, .int .i64 0], rB b1 24 (cL c)] else [rB b1 24 (cL c)]))) default H.out ?_ (steps_al ?_) ?_ ?_
  · intro L1 L2 xx ww hL sg
    have lh1 := hL 1 (by decide)
    have lh2 := hL 2 (by decide)
    simp only [lh1, lh2] at sg
    exact sg
  · refine al_cons ?_ (al_cons ?_ (al_cons ?_ (al_nil)))
    · intro LL xx ac wc sg hst hwant QQ hgo
      revert sg hst hgo; revert xx; intro b3 sg hst hgo
      exact op_val hwant hgo hst _ (by simp only [execOp, nth, kA, kL, rkA, rkL, cA, cL]; go_simp <;> omega) rfl
    · intro LL xx ac wc sg hst hwant QQ hgo
      revert sg hst hgo; revert xx; intro xold sg hst hgo
      have H := Lib.hid hst
      simp only [sg.self, sg.des 2 rfl, cond_true, cond_false] at H
      refine hpA_alloc ty_17_int H rfl rfl ?_
      intro wd b3 H2
      exact hgo _ b3 _ (sg.agree (x' := b3) (n := 3) rfl (by (iterate 3 (refine ix_cons (by first | exact fun _ => rfl | exact no sg.self | exact no (sg.des _ rfl)) ?_)); exact ix_nil)) rfl (by simp only [(show upd LL 1 1 = true from rfl), (show upd LL 1 2 = LL 2 from rfl), sg.des 2 rfl, cond_true, cond_false]; exact H2.out)
    · intro LL xx ac wc sg hst hwant QQ hgo
      revert sg hst hgo; revert xx; intro b3 sg hst hgo
      have H := Lib.hid hst
      simp only [sg.anc 1 rfl, sg.self, cond_true, cond_false] at H
      refine hpA_store ty_17_int H rfl rfl (sg.slot 1 (sg.anc 1 rfl)) (sg.slot 0 (sg.anc 0 rfl)) rfl (by repeat (first | apply Put.head | apply Put.tail)) (by simp [kA, kL, rkA, rkL, cA, cL]) (by simp [kA, kL, rkA, rkL, cA, cL, Value.oneCell']) (by first | rfl | (simp only [spl]; rfl)) rfl ?_
      intro wd H2
      exact hgo _ b3 _ (sg.agree (x' := b3) (n := 3) rfl (by (iterate 3 (refine ix_cons (by first | exact fun _ => rfl | exact no sg.self | exact no (sg.des _ rfl)) ?_)); exact ix_nil)) rfl (by simp only [(show upd LL 2 1 = LL 1 from rfl), sg.anc 1 rfl, (show upd LL 2 2 = true from rfl), cond_true, cond_false]; exact H2.out)
  · exact skips [] (by kernel_rfl) (fun _ h => by cases h)
  · intro xx ac1 wz hfr hsl hst
    revert hsl hst; revert xx; intro b3 hsl hst
    exact hfin b3 ac1 wz (hfr.size.trans hz) hfr.defers (fr_keep hfr [3, 7] (by kernel_rfl)) (hsl 1 (by decide)) (Lib.hid hst)
set_option maxRecDepth 20000 in
theorem goodR_r2 (c : Cfg) (b1 : Nat) (b3 : Nat) {wa wb : World} (H : Hid (Hp [] wa wb [rB b3 133 [.int .i64 2, .int .i64 1, .int .i64 1, .int .i64 1, .int .i64 1, .int .i64 1, .int .i64 1, .int .i64 1, .int .i64 1, .int .i64 1, .int .i64 1, .int .i64 1, .int .i64 1, .int .i64 0, .int .i64 0, .int .i64 1, .int .i64 0], rB b1 24 (cL c)])) (ac0 : Act) (hz : ac0.tmps.size = 31)  {QR : Exit → Act → World → Prop} (hfin : ∀ (b4 : Nat) (ac1 : Act) (wz : World), ac1.tmps.size = 31 → ac1.defers = ac0.defers → (∀ t, ([4, 8] : List Nat).contains t = false → ac1.eval (.tmp t) = ac0.eval (.tmp t)) → ac1.eval (.tmp 4) = .pointer (some ⟨b4, 0, none⟩) →  Hid (Hp [] wa wz [rB b4 133 [.int .i64 32, .int .i64 4, .int .i64 8, .int .i64 64, .int .i64 8, .int .i64 64, .int .i64 65536, .int .i64 1024, .int .i64 1024, .int .i64 65536, .int .i64 16, .int .i64 16, .int .i64 64, .int .i64 8, .int .i64 1048576, .int .i64 4, .int .i64 4], rB b3 133 [.int .i64 2, .int .i64 1, .int .i64 1, .int .i64 1, .int .i64 1, .int .i64 1, .int .i64 1, .int .i64 1, .int .i64 1, .int .i64 1, .int .i64 1, .int .i64 1, .int .i64 1, .int .i64 0, .int .i64 0, .int .i64 1, .int .i64 0], rB b1 24 (cL c)]) → QR .normal ac1 wz) : (regAt Try.f52 2).wp Try.prog QR ac0 wb := by
  refine wp_region_sq (by kernel_rfl) 31 hz (by kernel_rfl) (fun (xx : Nat) jx => match xx with | b4 => nth [.agg #[.int .i64 32, .int .i64 4, .int .i64 8, .int .i64 64, .int .i64 8, .int .i64 64, .int .i64 65536, .int .i64 1024, .int .i64 1024, .int .i64 65536, .int .i64 16, .int .i64 16, .int .i64 64, .int .i64 8, .int .i64 1048576, .int .i64 4, .int .i64 4], .pointer (some ⟨b4, 0, none⟩), undef] jx) (fun (LL : Nat → Bool) (xx : Nat) ww => match xx with | b4 => Hp [] wa ww (bif LL 2 then [rB b4 133 [.int .i64 32, .int .i64 4, .int .i64 8, .int .i64 64, .int .i64 8, .int .i64 64, .int .i64 65536, .int .i64 1024, .int .i64 1024, .int .i64 65536, .int .i64 16, .int .i64 16, .int .i64 64, .int .i64 8, .int .i64 1048576, .int .i64 4, .int .i64 4], rB b3 133 [.int .i64 2, .int .i64 1, .int .i64 1, .int .i64 1, .int .i64 1, .int .i64 1, .int .i64 1, .int .i64 1, .int .i64 1, .int .i64 1, .int .i64 1, .int .i64 1, .int .i64 1, .int .i64 0, .int .i64 0, .int .i64 1, .int .i64 0], rB b1 24 (cL c)] else (bif LL 1 then [rB b4 133 [.int .i64 0, .int .i64 0, .int .i64 0, .int .i64 0, .int .i64 0, .int .i64 0, .int .i64 0, .int .i64 0, .int .i64 0, .int .i64 0, .int .i64 0, .int .i64 0, .int .i64 0, .int .i64 0, .int .i64 0, .int .i64 0, .int .i64 0], rB b3 133 [.int .i64 2, .int .i64 1, .int .i64 1, .int .i64 1, .int .i64 1, .int .i64 1, .int .i64 1, .int .i64 1, .int .i64 1, .int .i64 1, .int .i64 1, .int .i64 1, .int .i64 1, .int .i64 0, .int .i64 0, .int .i64 1, .int .i64 0], rB b1 24 (cL c)] else [rB b3 133 [.int .i64 2, .int .i64 1, .int .i64 1, .int .i64 1, .int .i64 1, .int .i64 1, .int .i64 1, .int .i64 1, .int .i64 1, .int .i64 1, .int .i64 1, .int .i64 1, .int .i64 1, .int .i64 0, .int .i64 0, .int .i64 1, .int .i64 0], rB b1 24 (cL c)]))) default H.out ?_ (steps_al ?_) ?_ ?_
  · intro L1 L2 xx ww hL sg
    have lh1 := hL 1 (by decide)
    have lh2 := hL 2 (by decide)
    simp only [lh1, lh2] at sg
    exact sg
  · refine al_cons ?_ (al_cons ?_ (al_cons ?_ (al_nil)))
    · intro LL xx ac wc sg hst hwant QQ hgo
      revert sg hst hgo; revert xx; intro b4 sg hst hgo
      exact op_val hwant hgo hst _ (by simp only [execOp, nth, kA, kL, rkA, rkL, cA, cL]; go_simp <;> omega) rfl
    · intro LL xx ac wc sg hst hwant QQ hgo
      revert sg hst hgo; revert xx; intro xold sg hst hgo
      have H := Lib.hid hst
      simp only [sg.self, sg.des 2 rfl, cond_true, cond_false] at H
      refine hpA_alloc ty_17_int H rfl rfl ?_
      intro wd b4 H2
      exact hgo _ b4 _ (sg.agree (x' := b4) (n := 3) rfl (by (iterate 3 (refine ix_cons (by first | exact fun _ => rfl | exact no sg.self | exact no (sg.des _ rfl)) ?_)); exact ix_nil)) rfl (by simp only [(show upd LL 1 1 = true from rfl), (show upd LL 1 2 = LL 2 from rfl), sg.des 2 rfl, cond_true, cond_false]; exact H2.out)
    · intro LL xx ac wc sg hst hwant QQ hgo
      revert sg hst hgo; revert xx; intro b4 sg hst hgo
      have H := Lib.hid hst
      simp only [sg.anc 1 rfl, sg.self, cond_true, cond_false] at H
      refine hpA_store ty_17_int H rfl rfl (sg.slot 1 (sg.anc 1 rfl)) (sg.slot 0 (sg.anc 0 rfl)) rfl (by repeat (first | apply Put.head | apply Put.tail)) (by simp [kA, kL, rkA, rkL, cA, cL]) (by simp [kA, kL, rkA, rkL, cA, cL, Value.oneCell']) (by first | rfl | (simp only [spl]; rfl)) rfl ?_
      intro wd H2
      exact hgo _ b4 _ (sg.agree (x' := b4) (n := 3) rfl (by (iterate 3 (refine ix_cons (by first | exact fun _ => rfl | exact no sg.self | exact no (sg.des _ rfl)) ?_)); exact ix_nil)) rfl (by simp only [(show upd LL 2 1 = LL 1 from rfl), sg.anc 1 rfl, (show upd LL 2 2 = true from rfl), cond_true, cond_false]; exact H2.out)
  · exact skips [] (by kernel_rfl) (fun _ h => by cases h)
  · intro xx ac1 wz hfr hsl hst
    revert hsl hst; revert xx; intro b4 hsl hst
    exact hfin b4 ac1 wz (hfr.size.trans hz) hfr.defers (fr_keep hfr [4, 8] (by kernel_rfl)) (hsl 1 (by decide)) (Lib.hid hst)
set_option maxRecDepth 20000 in
theorem goodR_r3 (c : Cfg) (b1 : Nat) (b3 : Nat) (b4 : Nat) {wa wb : World} (H : Hid (Hp [] wa wb [rB b4 133 [.int .i64 32, .int .i64 4, .int .i64 8, .int .i64 64, .int .i64 8, .int .i64 64, .int .i64 65536, .int .i64 1024, .int .i64 1024, .int .i64 65536, .int .i64 16, .int .i64 16, .int .i64 64, .int .i64 8, .int .i64 1048576, .int .i64 4, .int .i64 4], rB b3 133 [.int .i64 2, .int .i64 1, .int .i64 1, .int .i64 1, .int .i64 1, .int .i64 1, .int .i64 1, .int .i64 1, .int .i64 1, .int .i64 1, .int .i64 1, .int .i64 1, .int .i64 1, .int .i64 0, .int .i64 0, .int .i64 1, .int .i64 0], rB b1 24 (cL c)])) (ac0 : Act) (hz : ac0.tmps.size = 31) (so1 : ac0.eval (.tmp 1) = .pointer (some ⟨b1, 0, none⟩)) {QR : Exit → Act → World → Prop} (hfin : ∀ (b5 : Nat) (ac1 : Act) (wz : World), ac1.tmps.size = 31 → ac1.defers = ac0.defers → (∀ t, ([5, 9, 10] : List Nat).contains t = false → ac1.eval (.tmp t) = ac0.eval (.tmp t)) → ac1.eval (.tmp 5) = .pointer (some ⟨b5, 0, none⟩) →  Hid (Hp [] wa wz [rB b5 133 [.int .i64 c.floors, .int .i64 c.cars, .int .i64 c.seats, .int .i64 c.calls, .int .i64 c.lines, .int .i64 c.keys, .int .i64 c.window, .int .i64 c.burst, .int .i64 c.rate, .int .i64 c.idle, .int .i64 c.inn, .int .i64 c.out, .int .i64 c.feed, .int .i64 c.retries, .int .i64 c.life, .int .i64 c.door, .int .i64 c.holds], rB b4 133 [.int .i64 32, .int .i64 4, .int .i64 8, .int .i64 64, .int .i64 8, .int .i64 64, .int .i64 65536, .int .i64 1024, .int .i64 1024, .int .i64 65536, .int .i64 16, .int .i64 16, .int .i64 64, .int .i64 8, .int .i64 1048576, .int .i64 4, .int .i64 4], rB b3 133 [.int .i64 2, .int .i64 1, .int .i64 1, .int .i64 1, .int .i64 1, .int .i64 1, .int .i64 1, .int .i64 1, .int .i64 1, .int .i64 1, .int .i64 1, .int .i64 1, .int .i64 1, .int .i64 0, .int .i64 0, .int .i64 1, .int .i64 0], rB b1 24 (cL c)]) → QR .normal ac1 wz) : (regAt Try.f52 3).wp Try.prog QR ac0 wb := by
  refine wp_region_sq (by kernel_rfl) 31 hz (by kernel_rfl) (fun (xx : Nat) jx => match xx with | b5 => nth [.agg (cA c), .agg #[.int .i64 c.floors, .int .i64 c.cars, .int .i64 c.seats, .int .i64 c.calls, .int .i64 c.lines, .int .i64 c.keys, .int .i64 c.window, .int .i64 c.burst, .int .i64 c.rate, .int .i64 c.idle, .int .i64 c.inn, .int .i64 c.out, .int .i64 c.feed, .int .i64 c.retries, .int .i64 c.life, .int .i64 c.door, .int .i64 c.holds], .pointer (some ⟨b5, 0, none⟩), undef] jx) (fun (LL : Nat → Bool) (xx : Nat) ww => match xx with | b5 => Hp [] wa ww (bif LL 3 then [rB b5 133 [.int .i64 c.floors, .int .i64 c.cars, .int .i64 c.seats, .int .i64 c.calls, .int .i64 c.lines, .int .i64 c.keys, .int .i64 c.window, .int .i64 c.burst, .int .i64 c.rate, .int .i64 c.idle, .int .i64 c.inn, .int .i64 c.out, .int .i64 c.feed, .int .i64 c.retries, .int .i64 c.life, .int .i64 c.door, .int .i64 c.holds], rB b4 133 [.int .i64 32, .int .i64 4, .int .i64 8, .int .i64 64, .int .i64 8, .int .i64 64, .int .i64 65536, .int .i64 1024, .int .i64 1024, .int .i64 65536, .int .i64 16, .int .i64 16, .int .i64 64, .int .i64 8, .int .i64 1048576, .int .i64 4, .int .i64 4], rB b3 133 [.int .i64 2, .int .i64 1, .int .i64 1, .int .i64 1, .int .i64 1, .int .i64 1, .int .i64 1, .int .i64 1, .int .i64 1, .int .i64 1, .int .i64 1, .int .i64 1, .int .i64 1, .int .i64 0, .int .i64 0, .int .i64 1, .int .i64 0], rB b1 24 (cL c)] else (bif LL 2 then [rB b5 133 [.int .i64 0, .int .i64 0, .int .i64 0, .int .i64 0, .int .i64 0, .int .i64 0, .int .i64 0, .int .i64 0, .int .i64 0, .int .i64 0, .int .i64 0, .int .i64 0, .int .i64 0, .int .i64 0, .int .i64 0, .int .i64 0, .int .i64 0], rB b4 133 [.int .i64 32, .int .i64 4, .int .i64 8, .int .i64 64, .int .i64 8, .int .i64 64, .int .i64 65536, .int .i64 1024, .int .i64 1024, .int .i64 65536, .int .i64 16, .int .i64 16, .int .i64 64, .int .i64 8, .int .i64 1048576, .int .i64 4, .int .i64 4], rB b3 133 [.int .i64 2, .int .i64 1, .int .i64 1, .int .i64 1, .int .i64 1, .int .i64 1, .int .i64 1, .int .i64 1, .int .i64 1, .int .i64 1, .int .i64 1, .int .i64 1, .int .i64 1, .int .i64 0, .int .i64 0, .int .i64 1, .int .i64 0], rB b1 24 (cL c)] else [rB b4 133 [.int .i64 32, .int .i64 4, .int .i64 8, .int .i64 64, .int .i64 8, .int .i64 64, .int .i64 65536, .int .i64 1024, .int .i64 1024, .int .i64 65536, .int .i64 16, .int .i64 16, .int .i64 64, .int .i64 8, .int .i64 1048576, .int .i64 4, .int .i64 4], rB b3 133 [.int .i64 2, .int .i64 1, .int .i64 1, .int .i64 1, .int .i64 1, .int .i64 1, .int .i64 1, .int .i64 1, .int .i64 1, .int .i64 1, .int .i64 1, .int .i64 1, .int .i64 1, .int .i64 0, .int .i64 0, .int .i64 1, .int .i64 0], rB b1 24 (cL c)]))) default H.out ?_ (steps_al ?_) ?_ ?_
  · intro L1 L2 xx ww hL sg
    have lh2 := hL 2 (by decide)
    have lh3 := hL 3 (by decide)
    simp only [lh2, lh3] at sg
    exact sg
  · refine al_cons ?_ (al_cons ?_ (al_cons ?_ (al_cons ?_ (al_nil))))
    · intro LL xx ac wc sg hst hwant QQ hgo
      revert sg hst hgo; revert xx; intro b5 sg hst hgo
      have H := Lib.hid hst
      simp only [sg.des 2 rfl, sg.des 3 rfl, cond_true, cond_false] at H
      refine hpA_load tyapi_Config H rfl ((sg.free 1 (by kernel_rfl)).trans so1) hwant (by (repeat (first | exact List.Mem.head _ | apply List.Mem.tail))) (by rfl) rfl ?_
      exact hgo _ b5 _ (fun _ _ => rfl) rfl hst
    · intro LL xx ac wc sg hst hwant QQ hgo
      revert sg hst hgo; revert xx; intro b5 sg hst hgo
      have se9 : ac.eval (.tmp 9) = _ := (sg.slot 0 (sg.anc 0 rfl))
      have sg9 := gt_of se9
      (try simp only [nth] at se9 sg9)
      refine op_call hwant hgo 82 _ (by simp only [execOp]; go_simp) (listR c wc) ?_
      rintro er wd ⟨rfl, hof⟩
      exact ⟨_, b5, rfl, fun _ _ => rfl, rfl, Hp.quiet hst hof⟩
    · intro LL xx ac wc sg hst hwant QQ hgo
      revert sg hst hgo; revert xx; intro xold sg hst hgo
      have H := Lib.hid hst
      simp only [sg.self, sg.des 3 rfl, cond_true, cond_false] at H
      refine hpA_alloc ty_17_int H rfl rfl ?_
      intro wd b5 H2
      exact hgo _ b5 _ (sg.agree (x' := b5) (n := 4) rfl (by (iterate 4 (refine ix_cons (by first | exact fun _ => rfl | exact no sg.self | exact no (sg.des _ rfl)) ?_)); exact ix_nil)) rfl (by simp only [(show upd LL 2 2 = true from rfl), (show upd LL 2 3 = LL 3 from rfl), sg.des 3 rfl, cond_true, cond_false]; exact H2.out)
    · intro LL xx ac wc sg hst hwant QQ hgo
      revert sg hst hgo; revert xx; intro b5 sg hst hgo
      have H := Lib.hid hst
      simp only [sg.anc 2 rfl, sg.self, cond_true, cond_false] at H
      refine hpA_store ty_17_int H rfl rfl (sg.slot 2 (sg.anc 2 rfl)) (sg.slot 1 (sg.anc 1 rfl)) rfl (by repeat (first | apply Put.head | apply Put.tail)) (by simp [kA, kL, rkA, rkL, cA, cL]) (by simp [kA, kL, rkA, rkL, cA, cL, Value.oneCell']) (by first | rfl | (simp only [spl]; rfl)) rfl ?_
      intro wd H2
      exact hgo _ b5 _ (sg.agree (x' := b5) (n := 4) rfl (by (iterate 4 (refine ix_cons (by first | exact fun _ => rfl | exact no sg.self | exact no (sg.des _ rfl)) ?_)); exact ix_nil)) rfl (by simp only [(show upd LL 3 2 = LL 2 from rfl), sg.anc 2 rfl, (show upd LL 3 3 = true from rfl), cond_true, cond_false]; exact H2.out)
  · exact skips [] (by kernel_rfl) (fun _ h => by cases h)
  · intro xx ac1 wz hfr hsl hst
    revert hsl hst; revert xx; intro b5 hsl hst
    exact hfin b5 ac1 wz (hfr.size.trans hz) hfr.defers (fr_keep hfr [5, 9, 10] (by kernel_rfl)) (hsl 2 (by decide)) (Lib.hid hst)
set_option maxRecDepth 20000 in
theorem goodR_r4 (c : Cfg) (b1 : Nat) (b3 : Nat) (b4 : Nat) (b5 : Nat) {wa wb : World} (H : Hid (Hp [] wa wb [rB b5 133 [.int .i64 c.floors, .int .i64 c.cars, .int .i64 c.seats, .int .i64 c.calls, .int .i64 c.lines, .int .i64 c.keys, .int .i64 c.window, .int .i64 c.burst, .int .i64 c.rate, .int .i64 c.idle, .int .i64 c.inn, .int .i64 c.out, .int .i64 c.feed, .int .i64 c.retries, .int .i64 c.life, .int .i64 c.door, .int .i64 c.holds], rB b4 133 [.int .i64 32, .int .i64 4, .int .i64 8, .int .i64 64, .int .i64 8, .int .i64 64, .int .i64 65536, .int .i64 1024, .int .i64 1024, .int .i64 65536, .int .i64 16, .int .i64 16, .int .i64 64, .int .i64 8, .int .i64 1048576, .int .i64 4, .int .i64 4], rB b3 133 [.int .i64 2, .int .i64 1, .int .i64 1, .int .i64 1, .int .i64 1, .int .i64 1, .int .i64 1, .int .i64 1, .int .i64 1, .int .i64 1, .int .i64 1, .int .i64 1, .int .i64 1, .int .i64 0, .int .i64 0, .int .i64 1, .int .i64 0], rB b1 24 (cL c)])) (ac0 : Act) (hz : ac0.tmps.size = 31)  {QR : Exit → Act → World → Prop} (hfin : ∀ (ac1 : Act) (wz : World), ac1.tmps.size = 31 → ac1.defers = ac0.defers → (∀ t, ([6] : List Nat).contains t = false → ac1.eval (.tmp t) = ac0.eval (.tmp t)) → ac1.eval (.tmp 6) = .int .i64 0 →  Hid (Hp [] wa wz [rB b5 133 [.int .i64 c.floors, .int .i64 c.cars, .int .i64 c.seats, .int .i64 c.calls, .int .i64 c.lines, .int .i64 c.keys, .int .i64 c.window, .int .i64 c.burst, .int .i64 c.rate, .int .i64 c.idle, .int .i64 c.inn, .int .i64 c.out, .int .i64 c.feed, .int .i64 c.retries, .int .i64 c.life, .int .i64 c.door, .int .i64 c.holds], rB b4 133 [.int .i64 32, .int .i64 4, .int .i64 8, .int .i64 64, .int .i64 8, .int .i64 64, .int .i64 65536, .int .i64 1024, .int .i64 1024, .int .i64 65536, .int .i64 16, .int .i64 16, .int .i64 64, .int .i64 8, .int .i64 1048576, .int .i64 4, .int .i64 4], rB b3 133 [.int .i64 2, .int .i64 1, .int .i64 1, .int .i64 1, .int .i64 1, .int .i64 1, .int .i64 1, .int .i64 1, .int .i64 1, .int .i64 1, .int .i64 1, .int .i64 1, .int .i64 1, .int .i64 0, .int .i64 0, .int .i64 1, .int .i64 0], rB b1 24 (cL c)]) → QR .normal ac1 wz) : (regAt Try.f52 4).wp Try.prog QR ac0 wb := by
  refine wp_region_sq (by kernel_rfl) 31 hz (by kernel_rfl) (fun (xx : Unit) jx => nth [.int .i64 0] jx) (fun (LL : Nat → Bool) (xx : Unit) ww => Hp [] wa ww [rB b5 133 [.int .i64 c.floors, .int .i64 c.cars, .int .i64 c.seats, .int .i64 c.calls, .int .i64 c.lines, .int .i64 c.keys, .int .i64 c.window, .int .i64 c.burst, .int .i64 c.rate, .int .i64 c.idle, .int .i64 c.inn, .int .i64 c.out, .int .i64 c.feed, .int .i64 c.retries, .int .i64 c.life, .int .i64 c.door, .int .i64 c.holds], rB b4 133 [.int .i64 32, .int .i64 4, .int .i64 8, .int .i64 64, .int .i64 8, .int .i64 64, .int .i64 65536, .int .i64 1024, .int .i64 1024, .int .i64 65536, .int .i64 16, .int .i64 16, .int .i64 64, .int .i64 8, .int .i64 1048576, .int .i64 4, .int .i64 4], rB b3 133 [.int .i64 2, .int .i64 1, .int .i64 1, .int .i64 1, .int .i64 1, .int .i64 1, .int .i64 1, .int .i64 1, .int .i64 1, .int .i64 1, .int .i64 1, .int .i64 1, .int .i64 1, .int .i64 0, .int .i64 0, .int .i64 1, .int .i64 0], rB b1 24 (cL c)]) () H.out ?_ (steps_al ?_) ?_ ?_
  · exact fun _ _ _ _ _ h => h
  · refine al_cons ?_ (al_nil)
    · intro LL xx ac wc sg hst hwant QQ hgo
      exact op_val hwant hgo hst _ (exec_assign rfl rfl) rfl
  · exact skips [] (by kernel_rfl) (fun _ h => by cases h)
  · intro xx ac1 wz hfr hsl hst
    exact hfin ac1 wz (hfr.size.trans hz) hfr.defers (fr_keep hfr [6] (by kernel_rfl)) (hsl 0 (by decide)) (Lib.hid hst)
set_option maxRecDepth 20000 in
theorem goodR_r5 (c : Cfg) (b1 : Nat) (b3 : Nat) (b4 : Nat) (b5 : Nat) (i : Nat) (hi : i ≤ 17) {wa wb : World} (H : Hid (Hp [] wa wb [rB b5 133 [.int .i64 c.floors, .int .i64 c.cars, .int .i64 c.seats, .int .i64 c.calls, .int .i64 c.lines, .int .i64 c.keys, .int .i64 c.window, .int .i64 c.burst, .int .i64 c.rate, .int .i64 c.idle, .int .i64 c.inn, .int .i64 c.out, .int .i64 c.feed, .int .i64 c.retries, .int .i64 c.life, .int .i64 c.door, .int .i64 c.holds], rB b4 133 [.int .i64 32, .int .i64 4, .int .i64 8, .int .i64 64, .int .i64 8, .int .i64 64, .int .i64 65536, .int .i64 1024, .int .i64 1024, .int .i64 65536, .int .i64 16, .int .i64 16, .int .i64 64, .int .i64 8, .int .i64 1048576, .int .i64 4, .int .i64 4], rB b3 133 [.int .i64 2, .int .i64 1, .int .i64 1, .int .i64 1, .int .i64 1, .int .i64 1, .int .i64 1, .int .i64 1, .int .i64 1, .int .i64 1, .int .i64 1, .int .i64 1, .int .i64 1, .int .i64 0, .int .i64 0, .int .i64 1, .int .i64 0], rB b1 24 (cL c)])) (ac0 : Act) (hz : ac0.tmps.size = 31) (so6 : ac0.eval (.tmp 6) = .int .i64 i) {QR : Exit → Act → World → Prop} (hfin : ∀ (ac1 : Act) (wz : World), ac1.tmps.size = 31 → ac1.defers = ac0.defers → (∀ t, ([11, 12] : List Nat).contains t = false → ac1.eval (.tmp t) = ac0.eval (.tmp t)) → ac1.eval (.tmp 12) = .bool (decide ((i : Int) < 17)) →  Hid (Hp [] wa wz [rB b5 133 [.int .i64 c.floors, .int .i64 c.cars, .int .i64 c.seats, .int .i64 c.calls, .int .i64 c.lines, .int .i64 c.keys, .int .i64 c.window, .int .i64 c.burst, .int .i64 c.rate, .int .i64 c.idle, .int .i64 c.inn, .int .i64 c.out, .int .i64 c.feed, .int .i64 c.retries, .int .i64 c.life, .int .i64 c.door, .int .i64 c.holds], rB b4 133 [.int .i64 32, .int .i64 4, .int .i64 8, .int .i64 64, .int .i64 8, .int .i64 64, .int .i64 65536, .int .i64 1024, .int .i64 1024, .int .i64 65536, .int .i64 16, .int .i64 16, .int .i64 64, .int .i64 8, .int .i64 1048576, .int .i64 4, .int .i64 4], rB b3 133 [.int .i64 2, .int .i64 1, .int .i64 1, .int .i64 1, .int .i64 1, .int .i64 1, .int .i64 1, .int .i64 1, .int .i64 1, .int .i64 1, .int .i64 1, .int .i64 1, .int .i64 1, .int .i64 0, .int .i64 0, .int .i64 1, .int .i64 0], rB b1 24 (cL c)]) → QR .normal ac1 wz) : (regAt Try.f52 5).wp Try.prog QR ac0 wb := by
  refine wp_region_sq (by kernel_rfl) 31 hz (by kernel_rfl) (fun (xx : Unit) jx => nth [.int .i64 i, .bool (decide ((i : Int) < 17))] jx) (fun (LL : Nat → Bool) (xx : Unit) ww => Hp [] wa ww [rB b5 133 [.int .i64 c.floors, .int .i64 c.cars, .int .i64 c.seats, .int .i64 c.calls, .int .i64 c.lines, .int .i64 c.keys, .int .i64 c.window, .int .i64 c.burst, .int .i64 c.rate, .int .i64 c.idle, .int .i64 c.inn, .int .i64 c.out, .int .i64 c.feed, .int .i64 c.retries, .int .i64 c.life, .int .i64 c.door, .int .i64 c.holds], rB b4 133 [.int .i64 32, .int .i64 4, .int .i64 8, .int .i64 64, .int .i64 8, .int .i64 64, .int .i64 65536, .int .i64 1024, .int .i64 1024, .int .i64 65536, .int .i64 16, .int .i64 16, .int .i64 64, .int .i64 8, .int .i64 1048576, .int .i64 4, .int .i64 4], rB b3 133 [.int .i64 2, .int .i64 1, .int .i64 1, .int .i64 1, .int .i64 1, .int .i64 1, .int .i64 1, .int .i64 1, .int .i64 1, .int .i64 1, .int .i64 1, .int .i64 1, .int .i64 1, .int .i64 0, .int .i64 0, .int .i64 1, .int .i64 0], rB b1 24 (cL c)]) () H.out ?_ (steps_al ?_) ?_ ?_
  · exact fun _ _ _ _ _ h => h
  · refine al_cons ?_ (al_cons ?_ (al_nil))
    · intro LL xx ac wc sg hst hwant QQ hgo
      exact op_val hwant hgo hst _ (exec_move rfl ((sg.free 6 (by kernel_rfl)).trans so6)) rfl
    · intro LL xx ac wc sg hst hwant QQ hgo
      have se11 : ac.eval (.tmp 11) = _ := (sg.slot 0 (sg.anc 0 rfl))
      have sg11 := gt_of se11
      (try simp only [nth] at se11 sg11)
      exact op_val hwant hgo hst _ (by simp only [execOp, nth]; go_simp <;> omega) rfl
  · exact skips [] (by kernel_rfl) (fun _ h => by cases h)
  · intro xx ac1 wz hfr hsl hst
    exact hfin ac1 wz (hfr.size.trans hz) hfr.defers (fr_keep hfr [11, 12] (by kernel_rfl)) (hsl 1 (by decide)) (Lib.hid hst)
set_option maxRecDepth 20000 in
theorem goodR_r7 (c : Cfg) (b1 : Nat) (b3 : Nat) (b4 : Nat) (b5 : Nat) (i : Nat) (hi : i ≤ 17) (z1d : (i : Int) < 17) {wa wb : World} (H : Hid (Hp [] wa wb [rB b5 133 [.int .i64 c.floors, .int .i64 c.cars, .int .i64 c.seats, .int .i64 c.calls, .int .i64 c.lines, .int .i64 c.keys, .int .i64 c.window, .int .i64 c.burst, .int .i64 c.rate, .int .i64 c.idle, .int .i64 c.inn, .int .i64 c.out, .int .i64 c.feed, .int .i64 c.retries, .int .i64 c.life, .int .i64 c.door, .int .i64 c.holds], rB b4 133 [.int .i64 32, .int .i64 4, .int .i64 8, .int .i64 64, .int .i64 8, .int .i64 64, .int .i64 65536, .int .i64 1024, .int .i64 1024, .int .i64 65536, .int .i64 16, .int .i64 16, .int .i64 64, .int .i64 8, .int .i64 1048576, .int .i64 4, .int .i64 4], rB b3 133 [.int .i64 2, .int .i64 1, .int .i64 1, .int .i64 1, .int .i64 1, .int .i64 1, .int .i64 1, .int .i64 1, .int .i64 1, .int .i64 1, .int .i64 1, .int .i64 1, .int .i64 1, .int .i64 0, .int .i64 0, .int .i64 1, .int .i64 0], rB b1 24 (cL c)])) (ac0 : Act) (hz : ac0.tmps.size = 31) (so3 : ac0.eval (.tmp 3) = .pointer (some ⟨b3, 0, none⟩)) (so4 : ac0.eval (.tmp 4) = .pointer (some ⟨b4, 0, none⟩)) (so5 : ac0.eval (.tmp 5) = .pointer (some ⟨b5, 0, none⟩)) (so6 : ac0.eval (.tmp 6) = .int .i64 i) {QR : Exit → Act → World → Prop} (hfin : ∀ (ac1 : Act) (wz : World), ac1.tmps.size = 31 → ac1.defers = ac0.defers → (∀ t, ([15, 16, 17, 18, 19, 20, 21, 22, 23, 24, 25, 26, 27, 28, 29, 30] : List Nat).contains t = false → ac1.eval (.tmp t) = ac0.eval (.tmp t)) → ac1.eval (.tmp 30) = .bool ((decide (((cfL c).getD i 0) < (loL.getD i 0))) || (decide ((hiL.getD i 0) < ((cfL c).getD i 0)))) →  Hid (Hp [] wa wz [rB b5 133 [.int .i64 c.floors, .int .i64 c.cars, .int .i64 c.seats, .int .i64 c.calls, .int .i64 c.lines, .int .i64 c.keys, .int .i64 c.window, .int .i64 c.burst, .int .i64 c.rate, .int .i64 c.idle, .int .i64 c.inn, .int .i64 c.out, .int .i64 c.feed, .int .i64 c.retries, .int .i64 c.life, .int .i64 c.door, .int .i64 c.holds], rB b4 133 [.int .i64 32, .int .i64 4, .int .i64 8, .int .i64 64, .int .i64 8, .int .i64 64, .int .i64 65536, .int .i64 1024, .int .i64 1024, .int .i64 65536, .int .i64 16, .int .i64 16, .int .i64 64, .int .i64 8, .int .i64 1048576, .int .i64 4, .int .i64 4], rB b3 133 [.int .i64 2, .int .i64 1, .int .i64 1, .int .i64 1, .int .i64 1, .int .i64 1, .int .i64 1, .int .i64 1, .int .i64 1, .int .i64 1, .int .i64 1, .int .i64 1, .int .i64 1, .int .i64 0, .int .i64 0, .int .i64 1, .int .i64 0], rB b1 24 (cL c)]) → QR .normal ac1 wz) : (regAt Try.f52 7).wp Try.prog QR ac0 wb := by
  refine wp_region_st mixedP ⟨[0, 1, 2, 0, 1, 2, 3, 4, 5, 6, 7, 5, 6, 7, 8, 9], by kernel_rfl⟩ [[], [0], [0, 1], [], [3], [3, 4], [0, 1, 2, 3, 4, 5], [0, 1, 2, 3, 4, 5, 6], [0, 1, 2, 3, 4, 5, 6, 7], [0, 1, 2, 3, 4, 5, 6, 7, 8], [0, 1, 2, 3, 4, 5, 6, 7, 8, 9], [0, 1, 2, 3, 4, 5, 6, 7], [0, 1, 2, 3, 4, 5, 6, 7, 11], [0, 1, 2, 3, 4, 5, 6, 7, 11, 12], [0, 1, 2, 3, 4, 5, 6, 7, 8, 9, 10, 11, 12, 13], [0, 1, 2, 3, 4, 5, 6, 7, 8, 9, 10, 11, 12, 13, 14]] (by kernel_rfl) (by kernel_rfl) 31 hz (by kernel_rfl) (fun (xx : Unit) jx => nth [.int .i64 i, .pointer (some ⟨b5, i, none⟩), .int .i64 ((cfL c).getD i 0), .int .i64 i, .pointer (some ⟨b3, i, none⟩), .int .i64 (loL.getD i 0), .bool (decide (((cfL c).getD i 0) < (loL.getD i 0))), .bool (decide (((cfL c).getD i 0) < (loL.getD i 0))), bif !(decide (((cfL c).getD i 0) < (loL.getD i 0))) then .int .i64 i else undef, bif !(decide (((cfL c).getD i 0) < (loL.getD i 0))) then .pointer (some ⟨b5, i, none⟩) else undef, bif !(decide (((cfL c).getD i 0) < (loL.getD i 0))) then .int .i64 ((cfL c).getD i 0) else undef, bif !(decide (((cfL c).getD i 0) < (loL.getD i 0))) then .int .i64 i else undef, bif !(decide (((cfL c).getD i 0) < (loL.getD i 0))) then .pointer (some ⟨b4, i, none⟩) else undef, bif !(decide (((cfL c).getD i 0) < (loL.getD i 0))) then .int .i64 (hiL.getD i 0) else undef, bif !(decide (((cfL c).getD i 0) < (loL.getD i 0))) then .bool (decide ((hiL.getD i 0) < ((cfL c).getD i 0))) else undef, .bool ((decide (((cfL c).getD i 0) < (loL.getD i 0))) || (decide ((hiL.getD i 0) < ((cfL c).getD i 0))))] jx) (fun (LL : Nat → Bool) (xx : Unit) ww => Hp [] wa ww [rB b5 133 [.int .i64 c.floors, .int .i64 c.cars, .int .i64 c.seats, .int .i64 c.calls, .int .i64 c.lines, .int .i64 c.keys, .int .i64 c.window, .int .i64 c.burst, .int .i64 c.rate, .int .i64 c.idle, .int .i64 c.inn, .int .i64 c.out, .int .i64 c.feed, .int .i64 c.retries, .int .i64 c.life, .int .i64 c.door, .int .i64 c.holds], rB b4 133 [.int .i64 32, .int .i64 4, .int .i64 8, .int .i64 64, .int .i64 8, .int .i64 64, .int .i64 65536, .int .i64 1024, .int .i64 1024, .int .i64 65536, .int .i64 16, .int .i64 16, .int .i64 64, .int .i64 8, .int .i64 1048576, .int .i64 4, .int .i64 4], rB b3 133 [.int .i64 2, .int .i64 1, .int .i64 1, .int .i64 1, .int .i64 1, .int .i64 1, .int .i64 1, .int .i64 1, .int .i64 1, .int .i64 1, .int .i64 1, .int .i64 1, .int .i64 1, .int .i64 0, .int .i64 0, .int .i64 1, .int .i64 0], rB b1 24 (cL c)]) () H.out.drew ?_ (steps_al ?_) ?_ ?_
  · exact fun _ _ _ _ _ h => h
  · refine al_cons ?_ (al_cons ?_ (al_cons ?_ (al_cons ?_ (al_cons ?_ (al_cons ?_ (al_cons ?_ (al_cons ?_ (al_cons ?_ (al_cons ?_ (al_cons ?_ (al_cons ?_ (al_cons ?_ (al_cons ?_ (al_cons ?_ (al_cons ?_ (al_nil))))))))))))))))
    · intro LL xx ac wc sg hst hwant QQ hgo
      exact op_val hwant hgo hst _ (exec_move rfl ((sg.free 6 (by kernel_rfl)).trans so6)) rfl
    · intro LL xx ac wc sg hst hwant QQ hgo
      have se5 : ac.eval (.tmp 5) = _ := ((sg.free 5 (by kernel_rfl)).trans so5)
      have sg5 := gt_of se5
      have se15 : ac.eval (.tmp 15) = _ := (sg.slot 0 (sg.anc 0 rfl))
      have sg15 := gt_of se15
      (try simp only [nth] at se5 sg5 se15 sg15)
      exact op_val hwant hgo hst _ (by simp only [execOp, nth]; go_simp <;> omega) rfl
    · intro LL xx ac wc sg hst hwant QQ hgo
      have H := Lib.hid hst
      refine hpA_load1 tyint H rfl (sg.slot 1 (sg.anc 1 rfl)) hwant (by (repeat (first | exact List.Mem.head _ | apply List.Mem.tail))) (cell_of (cfL c) (i := i) (by simp [cfL, loL, hiL]; omega)) ?_
      exact hgo _ () _ (fun _ _ => rfl) rfl hst
    · intro LL xx ac wc sg hst hwant QQ hgo
      exact op_val hwant hgo hst _ (exec_move rfl ((sg.free 6 (by kernel_rfl)).trans so6)) rfl
    · intro LL xx ac wc sg hst hwant QQ hgo
      have se3 : ac.eval (.tmp 3) = _ := ((sg.free 3 (by kernel_rfl)).trans so3)
      have sg3 := gt_of se3
      have se18 : ac.eval (.tmp 18) = _ := (sg.slot 3 (sg.anc 3 rfl))
      have sg18 := gt_of se18
      (try simp only [nth] at se3 sg3 se18 sg18)
      exact op_val hwant hgo hst _ (by simp only [execOp, nth]; go_simp <;> omega) rfl
    · intro LL xx ac wc sg hst hwant QQ hgo
      have H := Lib.hid hst
      refine hpA_load1 tyint H rfl (sg.slot 4 (sg.anc 4 rfl)) hwant (by (repeat (first | exact List.Mem.head _ | apply List.Mem.tail))) (cell_of loL (i := i) (by simp [cfL, loL, hiL]; omega)) ?_
      exact hgo _ () _ (fun _ _ => rfl) rfl hst
    · intro LL xx ac wc sg hst hwant QQ hgo
      have se17 : ac.eval (.tmp 17) = _ := (sg.slot 2 (sg.anc 2 rfl))
      have sg17 := gt_of se17
      have se20 : ac.eval (.tmp 20) = _ := (sg.slot 5 (sg.anc 5 rfl))
      have sg20 := gt_of se20
      (try simp only [nth] at se17 sg17 se20 sg20)
      exact op_val hwant hgo hst _ (by simp only [execOp, nth]; go_simp <;> omega) rfl
    · intro LL xx ac wc sg hst hwant QQ hgo
      exact op_val hwant hgo hst _ (exec_move rfl (sg.slot 6 (sg.anc 6 rfl))) rfl
    · intro LL xx ac wc sg hst hwant QQ hgo
      have hG : (!(decide (((cfL c).getD i 0) < (loL.getD i 0)))) = true := (want_f rfl rfl (sg.slot 7 (sg.anc 7 rfl))).symm.trans hwant
      exact op_val hwant hgo hst _ (exec_move rfl ((sg.free 6 (by kernel_rfl)).trans so6)) (cI hG)
    · intro LL xx ac wc sg hst hwant QQ hgo
      have hG : (!(decide (((cfL c).getD i 0) < (loL.getD i 0)))) = true := (want_f rfl rfl (sg.slot 7 (sg.anc 7 rfl))).symm.trans hwant
      have se5 : ac.eval (.tmp 5) = _ := ((sg.free 5 (by kernel_rfl)).trans so5)
      have sg5 := gt_of se5
      have se23 : ac.eval (.tmp 23) = _ := (cT (sg.slot 8 (sg.anc 8 rfl)) hG)
      have sg23 := gt_of se23
      (try simp only [nth] at se5 sg5 se23 sg23)
      exact op_val hwant hgo hst _ (by simp only [execOp, nth]; go_simp <;> omega) (cI hG)
    · intro LL xx ac wc sg hst hwant QQ hgo
      have hG : (!(decide (((cfL c).getD i 0) < (loL.getD i 0)))) = true := (want_f rfl rfl (sg.slot 7 (sg.anc 7 rfl))).symm.trans hwant
      have H := Lib.hid hst
      refine hpA_load1 tyint H rfl (cT (sg.slot 9 (sg.anc 9 rfl)) hG) hwant (by (repeat (first | exact List.Mem.head _ | apply List.Mem.tail))) (cell_of (cfL c) (i := i) (by simp [cfL, loL, hiL]; omega)) ?_
      exact hgo _ () _ (fun _ _ => rfl) (cI hG) hst
    · intro LL xx ac wc sg hst hwant QQ hgo
      have hG : (!(decide (((cfL c).getD i 0) < (loL.getD i 0)))) = true := (want_f rfl rfl (sg.slot 7 (sg.anc 7 rfl))).symm.trans hwant
      exact op_val hwant hgo hst _ (exec_move rfl ((sg.free 6 (by kernel_rfl)).trans so6)) (cI hG)
    · intro LL xx ac wc sg hst hwant QQ hgo
      have hG : (!(decide (((cfL c).getD i 0) < (loL.getD i 0)))) = true := (want_f rfl rfl (sg.slot 7 (sg.anc 7 rfl))).symm.trans hwant
      have se4 : ac.eval (.tmp 4) = _ := ((sg.free 4 (by kernel_rfl)).trans so4)
      have sg4 := gt_of se4
      have se26 : ac.eval (.tmp 26) = _ := (cT (sg.slot 11 (sg.anc 11 rfl)) hG)
      have sg26 := gt_of se26
      (try simp only [nth] at se4 sg4 se26 sg26)
      exact op_val hwant hgo hst _ (by simp only [execOp, nth]; go_simp <;> omega) (cI hG)
    · intro LL xx ac wc sg hst hwant QQ hgo
      have hG : (!(decide (((cfL c).getD i 0) < (loL.getD i 0)))) = true := (want_f rfl rfl (sg.slot 7 (sg.anc 7 rfl))).symm.trans hwant
      have H := Lib.hid hst
      refine hpA_load1 tyint H rfl (cT (sg.slot 12 (sg.anc 12 rfl)) hG) hwant (by (repeat (first | exact List.Mem.head _ | apply List.Mem.tail))) (cell_of hiL (i := i) (by simp [cfL, loL, hiL]; omega)) ?_
      exact hgo _ () _ (fun _ _ => rfl) (cI hG) hst
    · intro LL xx ac wc sg hst hwant QQ hgo
      have hG : (!(decide (((cfL c).getD i 0) < (loL.getD i 0)))) = true := (want_f rfl rfl (sg.slot 7 (sg.anc 7 rfl))).symm.trans hwant
      have se25 : ac.eval (.tmp 25) = _ := (cT (sg.slot 10 (sg.anc 10 rfl)) hG)
      have sg25 := gt_of se25
      have se28 : ac.eval (.tmp 28) = _ := (cT (sg.slot 13 (sg.anc 13 rfl)) hG)
      have sg28 := gt_of se28
      (try simp only [nth] at se25 sg25 se28 sg28)
      exact op_val hwant hgo hst _ (by simp only [execOp, nth]; go_simp <;> omega) (cI hG)
    · intro LL xx ac wc sg hst hwant QQ hgo
      exact op_val hwant hgo hst (.bool ((decide (((cfL c).getD i 0) < (loL.getD i 0))) || (decide ((hiL.getD i 0) < ((cfL c).getD i 0))))) (exec_or (Y := decide ((hiL.getD i 0) < ((cfL c).getD i 0))) rfl (sg.slot 7 (sg.anc 7 rfl)) (fun qq => cT (sg.slot 14 (sg.anc 14 rfl)) (bk qq))) rfl
  · refine skips [8, 9, 10, 11, 12, 13, 14] (by kernel_rfl) ?_
    refine List.forall_mem_cons.2 ⟨?_, List.forall_mem_cons.2 ⟨?_, List.forall_mem_cons.2 ⟨?_, List.forall_mem_cons.2 ⟨?_, List.forall_mem_cons.2 ⟨?_, List.forall_mem_cons.2 ⟨?_, List.forall_mem_cons.2 ⟨?_, fun _ h => by cases h⟩⟩⟩⟩⟩⟩⟩
    · intro oo hop LL xx ac sg hwant
      cases Option.some.inj hop
      have hG : (!(decide (((cfL c).getD i 0) < (loL.getD i 0)))) = false := (want_f rfl rfl (sg.slot 7 (sg.anc 7 rfl))).symm.trans hwant
      exact ⟨cF hG, fun _ h => h⟩
    · intro oo hop LL xx ac sg hwant
      cases Option.some.inj hop
      have hG : (!(decide (((cfL c).getD i 0) < (loL.getD i 0)))) = false := (want_f rfl rfl (sg.slot 7 (sg.anc 7 rfl))).symm.trans hwant
      exact ⟨cF hG, fun _ h => h⟩
    · intro oo hop LL xx ac sg hwant
      cases Option.some.inj hop
      have hG : (!(decide (((cfL c).getD i 0) < (loL.getD i 0)))) = false := (want_f rfl rfl (sg.slot 7 (sg.anc 7 rfl))).symm.trans hwant
      exact ⟨cF hG, fun _ h => h⟩
    · intro oo hop LL xx ac sg hwant
      cases Option.some.inj hop
      have hG : (!(decide (((cfL c).getD i 0) < (loL.getD i 0)))) = false := (want_f rfl rfl (sg.slot 7 (sg.anc 7 rfl))).symm.trans hwant
      exact ⟨cF hG, fun _ h => h⟩
    · intro oo hop LL xx ac sg hwant
      cases Option.some.inj hop
      have hG : (!(decide (((cfL c).getD i 0) < (loL.getD i 0)))) = false := (want_f rfl rfl (sg.slot 7 (sg.anc 7 rfl))).symm.trans hwant
      exact ⟨cF hG, fun _ h => h⟩
    · intro oo hop LL xx ac sg hwant
      cases Option.some.inj hop
      have hG : (!(decide (((cfL c).getD i 0) < (loL.getD i 0)))) = false := (want_f rfl rfl (sg.slot 7 (sg.anc 7 rfl))).symm.trans hwant
      exact ⟨cF hG, fun _ h => h⟩
    · intro oo hop LL xx ac sg hwant
      cases Option.some.inj hop
      have hG : (!(decide (((cfL c).getD i 0) < (loL.getD i 0)))) = false := (want_f rfl rfl (sg.slot 7 (sg.anc 7 rfl))).symm.trans hwant
      exact ⟨cF hG, fun _ h => h⟩
  · intro xx ac1 wz hfr hsl hst
    exact hfin ac1 wz (hfr.size.trans hz) hfr.defers (fr_keep hfr [15, 16, 17, 18, 19, 20, 21, 22, 23, 24, 25, 26, 27, 28, 29, 30] (by kernel_rfl)) (hsl 15 (by decide)) (Lib.hid hst)
set_option maxRecDepth 20000 in
theorem goodR_r8 (c : Cfg) (b1 : Nat) (b3 : Nat) (b4 : Nat) (b5 : Nat) (i : Nat) (hi : i ≤ 17) (z1d : (i : Int) < 17) {wa wb : World} (H : Hid (Hp [] wa wb [rB b5 133 [.int .i64 c.floors, .int .i64 c.cars, .int .i64 c.seats, .int .i64 c.calls, .int .i64 c.lines, .int .i64 c.keys, .int .i64 c.window, .int .i64 c.burst, .int .i64 c.rate, .int .i64 c.idle, .int .i64 c.inn, .int .i64 c.out, .int .i64 c.feed, .int .i64 c.retries, .int .i64 c.life, .int .i64 c.door, .int .i64 c.holds], rB b4 133 [.int .i64 32, .int .i64 4, .int .i64 8, .int .i64 64, .int .i64 8, .int .i64 64, .int .i64 65536, .int .i64 1024, .int .i64 1024, .int .i64 65536, .int .i64 16, .int .i64 16, .int .i64 64, .int .i64 8, .int .i64 1048576, .int .i64 4, .int .i64 4], rB b3 133 [.int .i64 2, .int .i64 1, .int .i64 1, .int .i64 1, .int .i64 1, .int .i64 1, .int .i64 1, .int .i64 1, .int .i64 1, .int .i64 1, .int .i64 1, .int .i64 1, .int .i64 1, .int .i64 0, .int .i64 0, .int .i64 1, .int .i64 0], rB b1 24 (cL c)])) (ac0 : Act) (hz : ac0.tmps.size = 31)  {QR : Exit → Act → World → Prop} (hfin : ∀ (ac1 : Act) (wz : World), ac1.tmps.size = 31 → ac1.defers = ac0.defers → (∀ t, ([2] : List Nat).contains t = false → ac1.eval (.tmp t) = ac0.eval (.tmp t)) → ac1.eval (.tmp 2) = .bool false →  Hid (Hp [] wa wz [rB b5 133 [.int .i64 c.floors, .int .i64 c.cars, .int .i64 c.seats, .int .i64 c.calls, .int .i64 c.lines, .int .i64 c.keys, .int .i64 c.window, .int .i64 c.burst, .int .i64 c.rate, .int .i64 c.idle, .int .i64 c.inn, .int .i64 c.out, .int .i64 c.feed, .int .i64 c.retries, .int .i64 c.life, .int .i64 c.door, .int .i64 c.holds], rB b4 133 [.int .i64 32, .int .i64 4, .int .i64 8, .int .i64 64, .int .i64 8, .int .i64 64, .int .i64 65536, .int .i64 1024, .int .i64 1024, .int .i64 65536, .int .i64 16, .int .i64 16, .int .i64 64, .int .i64 8, .int .i64 1048576, .int .i64 4, .int .i64 4], rB b3 133 [.int .i64 2, .int .i64 1, .int .i64 1, .int .i64 1, .int .i64 1, .int .i64 1, .int .i64 1, .int .i64 1, .int .i64 1, .int .i64 1, .int .i64 1, .int .i64 1, .int .i64 1, .int .i64 0, .int .i64 0, .int .i64 1, .int .i64 0], rB b1 24 (cL c)]) → QR .normal ac1 wz) : (regAt Try.f52 8).wp Try.prog QR ac0 wb := by
  refine wp_region_sq (by kernel_rfl) 31 hz (by kernel_rfl) (fun (xx : Unit) jx => nth [.bool false] jx) (fun (LL : Nat → Bool) (xx : Unit) ww => Hp [] wa ww [rB b5 133 [.int .i64 c.floors, .int .i64 c.cars, .int .i64 c.seats, .int .i64 c.calls, .int .i64 c.lines, .int .i64 c.keys, .int .i64 c.window, .int .i64 c.burst, .int .i64 c.rate, .int .i64 c.idle, .int .i64 c.inn, .int .i64 c.out, .int .i64 c.feed, .int .i64 c.retries, .int .i64 c.life, .int .i64 c.door, .int .i64 c.holds], rB b4 133 [.int .i64 32, .int .i64 4, .int .i64 8, .int .i64 64, .int .i64 8, .int .i64 64, .int .i64 65536, .int .i64 1024, .int .i64 1024, .int .i64 65536, .int .i64 16, .int .i64 16, .int .i64 64, .int .i64 8, .int .i64 1048576, .int .i64 4, .int .i64 4], rB b3 133 [.int .i64 2, .int .i64 1, .int .i64 1, .int .i64 1, .int .i64 1, .int .i64 1, .int .i64 1, .int .i64 1, .int .i64 1, .int .i64 1, .int .i64 1, .int .i64 1, .int .i64 1, .int .i64 0, .int .i64 0, .int .i64 1, .int .i64 0], rB b1 24 (cL c)]) () H.out ?_ (steps_al ?_) ?_ ?_
  · exact fun _ _ _ _ _ h => h
  · refine al_cons ?_ (al_nil)
    · intro LL xx ac wc sg hst hwant QQ hgo
      exact op_val hwant hgo hst _ (exec_assign rfl rfl) rfl
  · exact skips [] (by kernel_rfl) (fun _ h => by cases h)
  · intro xx ac1 wz hfr hsl hst
    exact hfin ac1 wz (hfr.size.trans hz) hfr.defers (fr_keep hfr [2] (by kernel_rfl)) (hsl 0 (by decide)) (Lib.hid hst)
set_option maxRecDepth 20000 in
theorem goodR_r6 (c : Cfg) (b1 : Nat) (b3 : Nat) (b4 : Nat) (b5 : Nat) (i : Nat) (hi : i ≤ 17) (z1d : (i : Int) < 17) (z2ld : ¬ (((cfL c).getD i 0) < (loL.getD i 0))) (z2rd : ¬ ((hiL.getD i 0) < ((cfL c).getD i 0))) {wa wb : World} (H : Hid (Hp [] wa wb [rB b5 133 [.int .i64 c.floors, .int .i64 c.cars, .int .i64 c.seats, .int .i64 c.calls, .int .i64 c.lines, .int .i64 c.keys, .int .i64 c.window, .int .i64 c.burst, .int .i64 c.rate, .int .i64 c.idle, .int .i64 c.inn, .int .i64 c.out, .int .i64 c.feed, .int .i64 c.retries, .int .i64 c.life, .int .i64 c.door, .int .i64 c.holds], rB b4 133 [.int .i64 32, .int .i64 4, .int .i64 8, .int .i64 64, .int .i64 8, .int .i64 64, .int .i64 65536, .int .i64 1024, .int .i64 1024, .int .i64 65536, .int .i64 16, .int .i64 16, .int .i64 64, .int .i64 8, .int .i64 1048576, .int .i64 4, .int .i64 4], rB b3 133 [.int .i64 2, .int .i64 1, .int .i64 1, .int .i64 1, .int .i64 1, .int .i64 1, .int .i64 1, .int .i64 1, .int .i64 1, .int .i64 1, .int .i64 1, .int .i64 1, .int .i64 1, .int .i64 0, .int .i64 0, .int .i64 1, .int .i64 0], rB b1 24 (cL c)])) (ac0 : Act) (hz : ac0.tmps.size = 31) (so6 : ac0.eval (.tmp 6) = .int .i64 i) {QR : Exit → Act → World → Prop} (hfin : ∀ (ac1 : Act) (wz : World), ac1.tmps.size = 31 → ac1.defers = ac0.defers → (∀ t, ([6, 13, 14] : List Nat).contains t = false → ac1.eval (.tmp t) = ac0.eval (.tmp t)) → ac1.eval (.tmp 6) = .int .i64 (i + 1) →  Hid (Hp [] wa wz [rB b5 133 [.int .i64 c.floors, .int .i64 c.cars, .int .i64 c.seats, .int .i64 c.calls, .int .i64 c.lines, .int .i64 c.keys, .int .i64 c.window, .int .i64 c.burst, .int .i64 c.rate, .int .i64 c.idle, .int .i64 c.inn, .int .i64 c.out, .int .i64 c.feed, .int .i64 c.retries, .int .i64 c.life, .int .i64 c.door, .int .i64 c.holds], rB b4 133 [.int .i64 32, .int .i64 4, .int .i64 8, .int .i64 64, .int .i64 8, .int .i64 64, .int .i64 65536, .int .i64 1024, .int .i64 1024, .int .i64 65536, .int .i64 16, .int .i64 16, .int .i64 64, .int .i64 8, .int .i64 1048576, .int .i64 4, .int .i64 4], rB b3 133 [.int .i64 2, .int .i64 1, .int .i64 1, .int .i64 1, .int .i64 1, .int .i64 1, .int .i64 1, .int .i64 1, .int .i64 1, .int .i64 1, .int .i64 1, .int .i64 1, .int .i64 1, .int .i64 0, .int .i64 0, .int .i64 1, .int .i64 0], rB b1 24 (cL c)]) → QR .normal ac1 wz) : (regAt Try.f52 6).wp Try.prog QR ac0 wb := by
  refine wp_region_sq (by kernel_rfl) 31 hz (by kernel_rfl) (fun (xx : Unit) jx => nth [.int .i64 i, .int .i64 (i + 1), .int .i64 (i + 1)] jx) (fun (LL : Nat → Bool) (xx : Unit) ww => Hp [] wa ww [rB b5 133 [.int .i64 c.floors, .int .i64 c.cars, .int .i64 c.seats, .int .i64 c.calls, .int .i64 c.lines, .int .i64 c.keys, .int .i64 c.window, .int .i64 c.burst, .int .i64 c.rate, .int .i64 c.idle, .int .i64 c.inn, .int .i64 c.out, .int .i64 c.feed, .int .i64 c.retries, .int .i64 c.life, .int .i64 c.door, .int .i64 c.holds], rB b4 133 [.int .i64 32, .int .i64 4, .int .i64 8, .int .i64 64, .int .i64 8, .int .i64 64, .int .i64 65536, .int .i64 1024, .int .i64 1024, .int .i64 65536, .int .i64 16, .int .i64 16, .int .i64 64, .int .i64 8, .int .i64 1048576, .int .i64 4, .int .i64 4], rB b3 133 [.int .i64 2, .int .i64 1, .int .i64 1, .int .i64 1, .int .i64 1, .int .i64 1, .int .i64 1, .int .i64 1, .int .i64 1, .int .i64 1, .int .i64 1, .int .i64 1, .int .i64 1, .int .i64 0, .int .i64 0, .int .i64 1, .int .i64 0], rB b1 24 (cL c)]) () H.out ?_ (steps_al ?_) ?_ ?_
  · exact fun _ _ _ _ _ h => h
  · refine al_cons ?_ (al_cons ?_ (al_cons ?_ (al_nil)))
    · intro LL xx ac wc sg hst hwant QQ hgo
      exact op_val hwant hgo hst _ (exec_move rfl ((sg.yet 6 2 (sg.des 2 rfl) (by kernel_rfl)).trans so6)) rfl
    · intro LL xx ac wc sg hst hwant QQ hgo
      have se13 : ac.eval (.tmp 13) = _ := (sg.slot 0 (sg.anc 0 rfl))
      have sg13 := gt_of se13
      (try simp only [nth] at se13 sg13)
      have hnw : IntKind.i64.wrap (i + 1 : Int) = i + 1 := IntWalk.i64_in _ (by omega)
      exact op_val hwant hgo hst _ (by simp only [execOp, nth]; go_simp <;> omega) rfl
    · intro LL xx ac wc sg hst hwant QQ hgo
      exact op_val hwant hgo hst _ (exec_assign rfl (sg.slot 1 (sg.anc 1 rfl))) rfl
  · exact skips [] (by kernel_rfl) (fun _ h => by cases h)
  · intro xx ac1 wz hfr hsl hst
    exact hfin ac1 wz (hfr.size.trans hz) hfr.defers (fr_keep hfr [6, 13, 14] (by kernel_rfl)) (hsl 2 (by decide)) (Lib.hid hst)
set_option maxRecDepth 20000 in
theorem goodR_r9 (c : Cfg) (b1 : Nat) (b3 : Nat) (b4 : Nat) (b5 : Nat) (i : Nat) (hi : i ≤ 17) (z1d : ¬ ((i : Int) < 17)) {wa wb : World} (H : Hid (Hp [] wa wb [rB b5 133 [.int .i64 c.floors, .int .i64 c.cars, .int .i64 c.seats, .int .i64 c.calls, .int .i64 c.lines, .int .i64 c.keys, .int .i64 c.window, .int .i64 c.burst, .int .i64 c.rate, .int .i64 c.idle, .int .i64 c.inn, .int .i64 c.out, .int .i64 c.feed, .int .i64 c.retries, .int .i64 c.life, .int .i64 c.door, .int .i64 c.holds], rB b4 133 [.int .i64 32, .int .i64 4, .int .i64 8, .int .i64 64, .int .i64 8, .int .i64 64, .int .i64 65536, .int .i64 1024, .int .i64 1024, .int .i64 65536, .int .i64 16, .int .i64 16, .int .i64 64, .int .i64 8, .int .i64 1048576, .int .i64 4, .int .i64 4], rB b3 133 [.int .i64 2, .int .i64 1, .int .i64 1, .int .i64 1, .int .i64 1, .int .i64 1, .int .i64 1, .int .i64 1, .int .i64 1, .int .i64 1, .int .i64 1, .int .i64 1, .int .i64 1, .int .i64 0, .int .i64 0, .int .i64 1, .int .i64 0], rB b1 24 (cL c)])) (ac0 : Act) (hz : ac0.tmps.size = 31)  {QR : Exit → Act → World → Prop} (hfin : ∀ (ac1 : Act) (wz : World), ac1.tmps.size = 31 → ac1.defers = ac0.defers → (∀ t, ([2] : List Nat).contains t = false → ac1.eval (.tmp t) = ac0.eval (.tmp t)) → ac1.eval (.tmp 2) = .bool true →  Hid (Hp [] wa wz [rB b5 133 [.int .i64 c.floors, .int .i64 c.cars, .int .i64 c.seats, .int .i64 c.calls, .int .i64 c.lines, .int .i64 c.keys, .int .i64 c.window, .int .i64 c.burst, .int .i64 c.rate, .int .i64 c.idle, .int .i64 c.inn, .int .i64 c.out, .int .i64 c.feed, .int .i64 c.retries, .int .i64 c.life, .int .i64 c.door, .int .i64 c.holds], rB b4 133 [.int .i64 32, .int .i64 4, .int .i64 8, .int .i64 64, .int .i64 8, .int .i64 64, .int .i64 65536, .int .i64 1024, .int .i64 1024, .int .i64 65536, .int .i64 16, .int .i64 16, .int .i64 64, .int .i64 8, .int .i64 1048576, .int .i64 4, .int .i64 4], rB b3 133 [.int .i64 2, .int .i64 1, .int .i64 1, .int .i64 1, .int .i64 1, .int .i64 1, .int .i64 1, .int .i64 1, .int .i64 1, .int .i64 1, .int .i64 1, .int .i64 1, .int .i64 1, .int .i64 0, .int .i64 0, .int .i64 1, .int .i64 0], rB b1 24 (cL c)]) → QR .normal ac1 wz) : (regAt Try.f52 9).wp Try.prog QR ac0 wb := by
  refine wp_region_sq (by kernel_rfl) 31 hz (by kernel_rfl) (fun (xx : Unit) jx => nth [.bool true] jx) (fun (LL : Nat → Bool) (xx : Unit) ww => Hp [] wa ww [rB b5 133 [.int .i64 c.floors, .int .i64 c.cars, .int .i64 c.seats, .int .i64 c.calls, .int .i64 c.lines, .int .i64 c.keys, .int .i64 c.window, .int .i64 c.burst, .int .i64 c.rate, .int .i64 c.idle, .int .i64 c.inn, .int .i64 c.out, .int .i64 c.feed, .int .i64 c.retries, .int .i64 c.life, .int .i64 c.door, .int .i64 c.holds], rB b4 133 [.int .i64 32, .int .i64 4, .int .i64 8, .int .i64 64, .int .i64 8, .int .i64 64, .int .i64 65536, .int .i64 1024, .int .i64 1024, .int .i64 65536, .int .i64 16, .int .i64 16, .int .i64 64, .int .i64 8, .int .i64 1048576, .int .i64 4, .int .i64 4], rB b3 133 [.int .i64 2, .int .i64 1, .int .i64 1, .int .i64 1, .int .i64 1, .int .i64 1, .int .i64 1, .int .i64 1, .int .i64 1, .int .i64 1, .int .i64 1, .int .i64 1, .int .i64 1, .int .i64 0, .int .i64 0, .int .i64 1, .int .i64 0], rB b1 24 (cL c)]) () H.out ?_ (steps_al ?_) ?_ ?_
  · exact fun _ _ _ _ _ h => h
  · refine al_cons ?_ (al_nil)
    · intro LL xx ac wc sg hst hwant QQ hgo
      exact op_val hwant hgo hst _ (exec_assign rfl rfl) rfl
  · exact skips [] (by kernel_rfl) (fun _ h => by cases h)
  · intro xx ac1 wz hfr hsl hst
    exact hfin ac1 wz (hfr.size.trans hz) hfr.defers (fr_keep hfr [2] (by kernel_rfl)) (hsl 0 (by decide)) (Lib.hid hst)
set_option maxRecDepth 20000 in
theorem goodR (c : Cfg) (w : World) : Calls Try.prog 52 #[.agg (cA c)] w fun e w' => e = .returned (.bool (checkV c == 0)) ∧ Off [] w w' := by
  have H := Lib.hid (Hp.start [] w)
  refine calls_start Try.func52 rfl 31 rfl (by simp) (fun aa nn dd sl => ?_)
  have ss0 : aa.eval (.tmp 0) = .agg (cA c) := sl 0 (by simp)
  clear sl
  refine wp_seq_k fun KK1 hK1 => ?_
  refine goodR_r0 c H aa nn ss0 ?_
  clear H nn
  intro b1 aa ww nn dd1 kp ss1 ss2 H
  replace ss0 := (kp 0 rfl).trans ss0
  replace dd := dd1.trans dd
  clear dd1 kp
  refine then_normal ?_
  refine hK1 _ _ ?_
  refine wp_seq_k fun KK2 hK2 => ?_
  refine goodR_r1 c b1 H aa nn  ?_
  clear H nn
  intro b3 aa ww nn dd1 kp ss3 H
  replace ss0 := (kp 0 rfl).trans ss0
  replace ss1 := (kp 1 rfl).trans ss1
  replace ss2 := (kp 2 rfl).trans ss2
  replace dd := dd1.trans dd
  clear dd1 kp
  refine then_normal ?_
  refine hK2 _ _ ?_
  refine wp_seq_k fun KK3 hK3 => ?_
  refine goodR_r2 c b1 b3 H aa nn  ?_
  clear H nn
  intro b4 aa ww nn dd1 kp ss4 H
  replace ss0 := (kp 0 rfl).trans ss0
  replace ss1 := (kp 1 rfl).trans ss1
  replace ss2 := (kp 2 rfl).trans ss2
  replace ss3 := (kp 3 rfl).trans ss3
  replace dd := dd1.trans dd
  clear dd1 kp
  refine then_normal ?_
  refine hK3 _ _ ?_
  refine wp_seq_k fun KK4 hK4 => ?_
  refine goodR_r3 c b1 b3 b4 H aa nn ss1 ?_
  clear H nn
  intro b5 aa ww nn dd1 kp ss5 H
  replace ss0 := (kp 0 rfl).trans ss0
  replace ss1 := (kp 1 rfl).trans ss1
  replace ss2 := (kp 2 rfl).trans ss2
  replace ss3 := (kp 3 rfl).trans ss3
  replace ss4 := (kp 4 rfl).trans ss4
  replace dd := dd1.trans dd
  clear dd1 kp
  refine then_normal ?_
  refine hK4 _ _ ?_
  refine wp_seq_k fun KK5 hK5 => ?_
  refine wp_seq_k fun KK6 hK6 => ?_
  refine goodR_r4 c b1 b3 b4 b5 H aa nn  ?_
  clear H nn
  intro aa ww nn dd1 kp ss6 H
  replace ss0 := (kp 0 rfl).trans ss0
  replace ss1 := (kp 1 rfl).trans ss1
  replace ss2 := (kp 2 rfl).trans ss2
  replace ss3 := (kp 3 rfl).trans ss3
  replace ss4 := (kp 4 rfl).trans ss4
  replace ss5 := (kp 5 rfl).trans ss5
  replace dd := dd1.trans dd
  clear dd1 kp
  refine then_normal ?_
  refine hK6 _ _ ?_
  refine wp_block ?_
  refine wp_loop (fun ab wv => ∃ i : Nat, i ≤ 17 ∧ Hid (∀ k, k < i → loL.getD k 0 ≤ (cfL c).getD k 0 ∧ (cfL c).getD k 0 ≤ hiL.getD k 0) ∧ ab.tmps.size = 31 ∧ ab.defers = [] ∧ ab.eval (.tmp 0) = .agg (cA c) ∧ ab.eval (.tmp 1) = .pointer (some ⟨b1, 0, none⟩) ∧ ab.eval (.tmp 3) = .pointer (some ⟨b3, 0, none⟩) ∧ ab.eval (.tmp 4) = .pointer (some ⟨b4, 0, none⟩) ∧ ab.eval (.tmp 5) = .pointer (some ⟨b5, 0, none⟩) ∧ ab.eval (.tmp 6) = .int .i64 i ∧ Hid (Hp [] w wv [rB b5 133 [.int .i64 c.floors, .int .i64 c.cars, .int .i64 c.seats, .int .i64 c.calls, .int .i64 c.lines, .int .i64 c.keys, .int .i64 c.window, .int .i64 c.burst, .int .i64 c.rate, .int .i64 c.idle, .int .i64 c.inn, .int .i64 c.out, .int .i64 c.feed, .int .i64 c.retries, .int .i64 c.life, .int .i64 c.door, .int .i64 c.holds], rB b4 133 [.int .i64 32, .int .i64 4, .int .i64 8, .int .i64 64, .int .i64 8, .int .i64 64, .int .i64 65536, .int .i64 1024, .int .i64 1024, .int .i64 65536, .int .i64 16, .int .i64 16, .int .i64 64, .int .i64 8, .int .i64 1048576, .int .i64 4, .int .i64 4], rB b3 133 [.int .i64 2, .int .i64 1, .int .i64 1, .int .i64 1, .int .i64 1, .int .i64 1, .int .i64 1, .int .i64 1, .int .i64 1, .int .i64 1, .int .i64 1, .int .i64 1, .int .i64 1, .int .i64 0, .int .i64 0, .int .i64 1, .int .i64 0], rB b1 24 (cL c)])) (fun ab _ => 17 - (intOf (ab.eval (.tmp 6))).toNat) ⟨0, (by omega), (Lib.hid (fun k hk => absurd hk (by omega))), nn, dd, ss0, ss1, ss3, ss4, ss5, ss6, H⟩ (fun aa wv hI => ?_)
  clear H nn dd ss0 ss1 ss2 ss3 ss4 ss5 ss6
  obtain ⟨i, hi, hr, nn, dd, ss0, ss1, ss3, ss4, ss5, ss6, H⟩ := hI
  have mu1_6 := ss6
  refine wp_seq_k fun KK7 hK7 => ?_
  refine wp_seq_k fun KK8 hK8 => ?_
  refine goodR_r5 c b1 b3 b4 b5 i hi H aa nn ss6 ?_
  clear H nn
  intro aa ww nn dd1 kp ss12 H
  replace ss0 := (kp 0 rfl).trans ss0
  replace ss1 := (kp 1 rfl).trans ss1
  replace ss3 := (kp 3 rfl).trans ss3
  replace ss4 := (kp 4 rfl).trans ss4
  replace ss5 := (kp 5 rfl).trans ss5
  replace ss6 := (kp 6 rfl).trans ss6
  replace dd := dd1.trans dd
  clear dd1 kp
  refine then_normal ?_
  refine hK8 _ _ ?_
  refine wp_cond_split ss12 (fun z1 => ?_) (fun z1 => ?_)
  · skip
    have z1d : (i : Int) < 17 := of_decide_eq_true z1
    refine wp_skip ?_
    refine then_normal ?_
    refine hK7 _ _ ?_
    refine wp_seq_k fun KK9 hK9 => ?_
    refine wp_block ?_
    refine wp_seq_k fun KK10 hK10 => ?_
    refine goodR_r7 c b1 b3 b4 b5 i hi z1d H aa nn ss3 ss4 ss5 ss6 ?_
    clear H nn
    intro aa ww nn dd1 kp ss30 H
    replace ss0 := (kp 0 rfl).trans ss0
    replace ss1 := (kp 1 rfl).trans ss1
    replace ss3 := (kp 3 rfl).trans ss3
    replace ss4 := (kp 4 rfl).trans ss4
    replace ss5 := (kp 5 rfl).trans ss5
    replace ss6 := (kp 6 rfl).trans ss6
    replace ss12 := (kp 12 rfl).trans ss12
    replace dd := dd1.trans dd
    clear dd1 kp
    refine then_normal ?_
    refine hK10 _ _ ?_
    refine wp_cond_split ss30 (fun z2 => ?_) (fun z2 => ?_)
    · skip
      refine wp_seq_k fun KK11 hK11 => ?_
      refine goodR_r8 c b1 b3 b4 b5 i hi z1d H aa nn  ?_
      clear H nn
      intro aa ww nn dd1 kp ss2 H
      replace ss0 := (kp 0 rfl).trans ss0
      replace ss1 := (kp 1 rfl).trans ss1
      replace ss3 := (kp 3 rfl).trans ss3
      replace ss4 := (kp 4 rfl).trans ss4
      replace ss5 := (kp 5 rfl).trans ss5
      replace ss6 := (kp 6 rfl).trans ss6
      replace ss12 := (kp 12 rfl).trans ss12
      replace ss30 := (kp 30 rfl).trans ss30
      replace dd := dd1.trans dd
      clear dd1 kp
      refine then_normal ?_
      refine hK11 _ _ ?_
      refine wp_ret ?_
      refine block_ret ?_
      refine then_ret ?_
      refine then_ret ?_
      refine block_ret ?_
      refine then_ret ?_
      exact ret1 rfl dd ss2 ⟨congrArg (fun z => Ending.returned (.bool z)) (good_no (by omega) z2), H.out.off⟩
    · skip
      have z2l : (decide (((cfL c).getD i 0) < (loL.getD i 0))) = false := ol z2
      have z2ld : ¬ (((cfL c).getD i 0) < (loL.getD i 0)) := of_decide_eq_false z2l
      have z2r : (decide ((hiL.getD i 0) < ((cfL c).getD i 0))) = false := orr z2
      have z2rd : ¬ ((hiL.getD i 0) < ((cfL c).getD i 0)) := of_decide_eq_false z2r
      refine wp_skip ?_
      refine block_normal ?_
      refine then_normal ?_
      refine hK9 _ _ ?_
      refine goodR_r6 c b1 b3 b4 b5 i hi z1d z2ld z2rd H aa nn ss6 ?_
      clear H nn ss6
      intro aa ww nn dd1 kp ss6 H
      replace ss0 := (kp 0 rfl).trans ss0
      replace ss1 := (kp 1 rfl).trans ss1
      replace ss3 := (kp 3 rfl).trans ss3
      replace ss4 := (kp 4 rfl).trans ss4
      replace ss5 := (kp 5 rfl).trans ss5
      replace ss12 := (kp 12 rfl).trans ss12
      replace ss30 := (kp 30 rfl).trans ss30
      replace dd := dd1.trans dd
      clear dd1 kp
      refine then_normal ?_
      refine ⟨⟨i + 1, (by omega), (Lib.hid (good_step hr.out z2l z2r)), nn, dd, ss0, ss1, ss3, ss4, ss5, ss6, H⟩, ?_⟩
      simp only [mu1_6, ss6, intOf]
      omega
  · skip
    have z1d : ¬ ((i : Int) < 17) := of_decide_eq_false z1
    refine wp_exit ?_
    refine then_exit ?_
    refine then_exit ?_
    refine block_exit ?_
    refine then_normal ?_
    refine hK5 _ _ ?_
    refine wp_seq_k fun KK12 hK12 => ?_
    refine goodR_r9 c b1 b3 b4 b5 i hi z1d H aa nn  ?_
    clear H nn
    intro aa ww nn dd1 kp ss2 H
    replace ss0 := (kp 0 rfl).trans ss0
    replace ss1 := (kp 1 rfl).trans ss1
    replace ss3 := (kp 3 rfl).trans ss3
    replace ss4 := (kp 4 rfl).trans ss4
    replace ss5 := (kp 5 rfl).trans ss5
    replace ss6 := (kp 6 rfl).trans ss6
    replace ss12 := (kp 12 rfl).trans ss12
    replace dd := dd1.trans dd
    clear dd1 kp
    refine then_normal ?_
    refine hK12 _ _ ?_
    refine wp_ret ?_
    exact ret1 rfl dd ss2 ⟨congrArg (fun z => Ending.returned (.bool z)) (good_yes (fun k hk => hr.out k (by omega))), H.out.off⟩
end Go.Proofs.Ytfhhfmkfkoemjaa.Se6
