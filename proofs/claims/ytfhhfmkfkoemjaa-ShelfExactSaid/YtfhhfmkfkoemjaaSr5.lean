/- Layer 6: Keep of all. -/
import Derived.Test.YtfhhfmkfkoemjaaProg
import Derived.Below
import Derived.WalkKit
import Derived.KernelRfl
import Derived.RowKit3
import Derived.Deep.LoopGhost
import Derived.Deep.QuietTactic
import Derived.BigQuiet
import Derived.WideLaws
import Derived.Deep.DeepCutAuto
import Derived.Deep.CutBlock
import Derived.Lib.Hide
import Derived.Laws.BitsLemmas
import Derived.Laws.Bits64
import Derived.Laws.BitsAllLaws
import Derived.IntWalk
import Derived.Outline
import Derived.WalkSpells
import Derived.Test.YtfhhfmkfkoemjaaMem
import Derived.Test.YtfhhfmkfkoemjaaSr4
namespace Go.Proofs.Ytfhhfmkfkoemjaa.Si6
open Go.RowKit Go.Proofs.Ytfhhfmkfkoemjaa.Mem Go.Proofs.Ytfhhfmkfkoemjaa.Reg
set_option linter.unusedVariables false
set_option linter.unusedSimpArgs false

set_option maxRecDepth 20000 in
theorem keepNil_r0 (room : Int) (a : Option Addr) (c : Nat) (l : List PairV) {wa wb : World} (H : Hid (Hp [] wa wb [rS a c 2 (l.map rowOf)])) (ac0 : Act) (hz : ac0.tmps.size = 33) (so0 : ac0.eval (.tmp 0) = .agg #[.int .i64 room, .slice a l.length c]) {QR : Exit → Act → World → Prop} (hfin : ∀ (b2 : Nat) (b4 : Nat) (ac1 : Act) (wz : World), ac1.tmps.size = 33 → ac1.defers = ac0.defers → (∀ t, ([2, 4] : List Nat).contains t = false → ac1.eval (.tmp t) = ac0.eval (.tmp t)) → ac1.eval (.tmp 2) = .pointer (some ⟨b2, 0, none⟩) → ac1.eval (.tmp 4) = .pointer (some ⟨b4, 0, none⟩) →  Hid (Hp [] wa wz [rB b4 43 [.int .i64 0, .slice none 0 0], rB b2 43 [.int .i64 room, .slice a l.length c], rS a c 2 (l.map rowOf)]) → QR .normal ac1 wz) : (regAt Try.f32 0).wp Try.prog QR ac0 wb := by
  refine wp_region_sq (by kernel_rfl) 33 hz (by kernel_rfl) (fun (xx : Nat × Nat) jx => match xx with | (b2, b4) => nth [.pointer (some ⟨b2, 0, none⟩), .pointer (some ⟨b4, 0, none⟩)] jx) (fun (LL : Nat → Bool) (xx : Nat × Nat) ww => match xx with | (b2, b4) => Hp [] wa ww (bif LL 1 then [rB b4 43 [.int .i64 0, .slice none 0 0], rB b2 43 [.int .i64 room, .slice a l.length c], rS a c 2 (l.map rowOf)] else (bif LL 0 then [rB b2 43 [.int .i64 room, .slice a l.length c], rS a c 2 (l.map rowOf)] else [rS a c 2 (l.map rowOf)]))) (default, default) H.out ?_ (steps_al ?_) ?_ ?_
  · intro L1 L2 xx ww hL sg
    have lh0 := hL 0 (by decide)
    have lh1 := hL 1 (by decide)
    simp only [lh0, lh1] at sg
    exact sg
  · refine al_cons ?_ (al_cons ?_ (al_nil))
    · intro LL xx ac wc sg hst hwant QQ hgo
      obtain ⟨_, b4⟩ := xx
      have H := Lib.hid hst
      simp only [sg.self, sg.des 1 rfl, cond_true, cond_false] at H
      refine hp_box rfl 43 _ rfl _ ((sg.free 0 (by kernel_rfl)).trans so0) _ (by rfl) H ?_
      intro wd b2 H2
      exact hgo _ (b2, b4) _ (sg.agree (x' := (b2, b4)) (n := 2) rfl (by (iterate 2 (refine ix_cons (by first | exact fun _ => rfl | exact no sg.self | exact no (sg.des _ rfl)) ?_)); exact ix_nil)) rfl (by simp only [(show upd LL 0 0 = true from rfl), (show upd LL 0 1 = LL 1 from rfl), sg.des 1 rfl, cond_true, cond_false]; exact H2.out)
    · intro LL xx ac wc sg hst hwant QQ hgo
      obtain ⟨b2, _⟩ := xx
      have H := Lib.hid hst
      simp only [sg.anc 0 rfl, sg.self, cond_true, cond_false] at H
      refine hpA_alloc tyshelf_Shelf_string__int_ H rfl rfl ?_
      intro wd b4 H2
      exact hgo _ (b2, b4) _ (sg.agree (x' := (b2, b4)) (n := 2) rfl (by (iterate 2 (refine ix_cons (by first | exact fun _ => rfl | exact no sg.self | exact no (sg.des _ rfl)) ?_)); exact ix_nil)) rfl (by simp only [(show upd LL 1 0 = LL 0 from rfl), sg.anc 0 rfl, (show upd LL 1 1 = true from rfl), cond_true, cond_false]; exact H2.out)
  · exact skips [] (by kernel_rfl) (fun _ h => by cases h)
  · intro xx ac1 wz hfr hsl hst
    obtain ⟨b2, b4⟩ := xx
    exact hfin b2 b4 ac1 wz (hfr.size.trans hz) hfr.defers (fr_keep hfr [2, 4] (by kernel_rfl)) (hsl 0 (by decide)) (hsl 1 (by decide)) (Lib.hid hst)
set_option maxRecDepth 20000 in
theorem keepNil_r1 (room : Int) (a : Option Addr) (c : Nat) (l : List PairV) (b2 : Nat) (b4 : Nat) {wa wb : World} (H : Hid (Hp [] wa wb [rB b4 43 [.int .i64 0, .slice none 0 0], rB b2 43 [.int .i64 room, .slice a l.length c], rS a c 2 (l.map rowOf)])) (ac0 : Act) (hz : ac0.tmps.size = 33) (so1 : ac0.eval (.tmp 1) = .nilFunc) {QR : Exit → Act → World → Prop} (hfin : ∀ (ac1 : Act) (wz : World), ac1.tmps.size = 33 → ac1.defers = ac0.defers → (∀ t, ([8, 9] : List Nat).contains t = false → ac1.eval (.tmp t) = ac0.eval (.tmp t)) → ac1.eval (.tmp 9) = .bool true →  Hid (Hp [] wa wz [rB b4 43 [.int .i64 0, .slice none 0 0], rB b2 43 [.int .i64 room, .slice a l.length c], rS a c 2 (l.map rowOf)]) → QR .normal ac1 wz) : (regAt Try.f32 1).wp Try.prog QR ac0 wb := by
  refine wp_region_sq (by kernel_rfl) 33 hz (by kernel_rfl) (fun (xx : Unit) jx => nth [.nilFunc, .bool true] jx) (fun (LL : Nat → Bool) (xx : Unit) ww => Hp [] wa ww [rB b4 43 [.int .i64 0, .slice none 0 0], rB b2 43 [.int .i64 room, .slice a l.length c], rS a c 2 (l.map rowOf)]) () H.out ?_ (steps_al ?_) ?_ ?_
  · exact fun _ _ _ _ _ h => h
  · refine al_cons ?_ (al_cons ?_ (al_nil))
    · intro LL xx ac wc sg hst hwant QQ hgo
      exact op_val hwant hgo hst _ (exec_move rfl ((sg.free 1 (by kernel_rfl)).trans so1)) rfl
    · intro LL xx ac wc sg hst hwant QQ hgo
      exact op_val hwant hgo hst _ (exec_nilnil rfl (sg.slot 0 (sg.anc 0 rfl)) rfl Try.underlying58) rfl
  · exact skips [] (by kernel_rfl) (fun _ h => by cases h)
  · intro xx ac1 wz hfr hsl hst
    exact hfin ac1 wz (hfr.size.trans hz) hfr.defers (fr_keep hfr [8, 9] (by kernel_rfl)) (hsl 1 (by decide)) (Lib.hid hst)
set_option maxRecDepth 20000 in
theorem keepNil_r2 (room : Int) (a : Option Addr) (c : Nat) (l : List PairV) (b2 : Nat) (b4 : Nat) {wa wb : World} (H : Hid (Hp [] wa wb [rB b4 43 [.int .i64 0, .slice none 0 0], rB b2 43 [.int .i64 room, .slice a l.length c], rS a c 2 (l.map rowOf)])) (ac0 : Act) (hz : ac0.tmps.size = 33) (so2 : ac0.eval (.tmp 2) = .pointer (some ⟨b2, 0, none⟩)) (so4 : ac0.eval (.tmp 4) = .pointer (some ⟨b4, 0, none⟩)) {QR : Exit → Act → World → Prop} (hfin : ∀ (ac1 : Act) (wz : World), ac1.tmps.size = 33 → ac1.defers = ac0.defers → (∀ t, ([10] : List Nat).contains t = false → ac1.eval (.tmp t) = ac0.eval (.tmp t)) →  Hid (Hp [] wa wz [rB b4 43 [.int .i64 room, .slice a l.length c], rB b2 43 [.int .i64 room, .slice a l.length c], rS a c 2 (l.map rowOf)]) → QR .normal ac1 wz) : (regAt Try.f32 2).wp Try.prog QR ac0 wb := by
  refine wp_region_sq (by kernel_rfl) 33 hz (by kernel_rfl) (fun (xx : Unit) jx => nth [.agg #[.int .i64 room, .slice a l.length c], undef] jx) (fun (LL : Nat → Bool) (xx : Unit) ww => Hp [] wa ww (bif LL 1 then [rB b4 43 [.int .i64 room, .slice a l.length c], rB b2 43 [.int .i64 room, .slice a l.length c], rS a c 2 (l.map rowOf)] else [rB b4 43 [.int .i64 0, .slice none 0 0], rB b2 43 [.int .i64 room, .slice a l.length c], rS a c 2 (l.map rowOf)])) () H.out ?_ (steps_al ?_) ?_ ?_
  · intro L1 L2 xx ww hL sg
    have lh1 := hL 1 (by decide)
    simp only [lh1] at sg
    exact sg
  · refine al_cons ?_ (al_cons ?_ (al_nil))
    · intro LL xx ac wc sg hst hwant QQ hgo
      have H := Lib.hid hst
      simp only [sg.des 1 rfl, cond_true, cond_false] at H
      refine hpA_load tyshelf_Shelf_string__int_ H rfl ((sg.free 2 (by kernel_rfl)).trans so2) hwant (by (repeat (first | exact List.Mem.head _ | apply List.Mem.tail))) (by rfl) rfl ?_
      exact hgo _ () _ (fun _ _ => rfl) rfl hst
    · intro LL xx ac wc sg hst hwant QQ hgo
      have H := Lib.hid hst
      simp only [sg.self, cond_true, cond_false] at H
      refine hpA_store tyshelf_Shelf_string__int_ H rfl rfl ((sg.free 4 (by kernel_rfl)).trans so4) (sg.slot 0 (sg.anc 0 rfl)) rfl (by repeat (first | apply Put.head | apply Put.tail)) (by simp [List.length_cons]) (by simp [List.length_cons, Value.oneCell']) (by first | rfl | (simp only [spl]; rfl)) rfl ?_
      intro wd H2
      exact hgo _ () _ (fun _ _ => rfl) rfl (by simp only [(show upd LL 1 1 = true from rfl), cond_true, cond_false]; exact H2.out)
  · exact skips [] (by kernel_rfl) (fun _ h => by cases h)
  · intro xx ac1 wz hfr hsl hst
    exact hfin ac1 wz (hfr.size.trans hz) hfr.defers (fr_keep hfr [10] (by kernel_rfl)) (Lib.hid hst)
set_option maxRecDepth 20000 in
theorem keepNil (room : Int) (a : Option Addr) (c : Nat) (l : List PairV) (w : World) (h : (rS a c 2 (l.map rowOf)).holds w) : Calls Try.prog 32 #[.agg #[.int .i64 room, .slice a l.length c], .nilFunc] w fun e w' => e = .returned (.agg #[.int .i64 room, .slice a l.length c]) ∧ Off [] w w' := by
  have H := Lib.hid (Hp.start [] w)
  have H := hp_old H h (by decide)
  clear h
  refine calls_start Try.func32 rfl 33 rfl (by simp) (fun aa nn dd sl => ?_)
  have ss0 : aa.eval (.tmp 0) = .agg #[.int .i64 room, .slice a l.length c] := sl 0 (by simp)
  have ss1 : aa.eval (.tmp 1) = .nilFunc := sl 1 (by simp)
  clear sl
  refine wp_seq_k fun KK1 hK1 => ?_
  refine keepNil_r0 room a c l H aa nn ss0 ?_
  clear H nn
  intro b2 b4 aa ww nn dd1 kp ss2 ss4 H
  replace ss0 := (kp 0 rfl).trans ss0
  replace ss1 := (kp 1 rfl).trans ss1
  replace dd := dd1.trans dd
  clear dd1 kp
  refine then_normal ?_
  refine hK1 _ _ ?_
  refine wp_seq_k fun KK2 hK2 => ?_
  refine wp_seq_k fun KK3 hK3 => ?_
  refine keepNil_r1 room a c l b2 b4 H aa nn ss1 ?_
  clear H nn
  intro aa ww nn dd1 kp ss9 H
  replace ss0 := (kp 0 rfl).trans ss0
  replace ss1 := (kp 1 rfl).trans ss1
  replace ss2 := (kp 2 rfl).trans ss2
  replace ss4 := (kp 4 rfl).trans ss4
  replace dd := dd1.trans dd
  clear dd1 kp
  refine then_normal ?_
  refine hK3 _ _ ?_
  refine wp_cond_true ss9 ?_
  refine wp_seq_k fun KK4 hK4 => ?_
  refine keepNil_r2 room a c l b2 b4 H aa nn ss2 ss4 ?_
  clear H nn
  intro aa ww nn dd1 kp H
  replace ss0 := (kp 0 rfl).trans ss0
  replace ss1 := (kp 1 rfl).trans ss1
  replace ss2 := (kp 2 rfl).trans ss2
  replace ss4 := (kp 4 rfl).trans ss4
  replace ss9 := (kp 9 rfl).trans ss9
  replace dd := dd1.trans dd
  clear dd1 kp
  refine then_normal ?_
  refine hK4 _ _ ?_
  refine wp_ret ?_
  refine then_ret ?_
  exact hp_ret_c tyshelf_Shelf_string__int_ H rfl dd ss4  (by (repeat (first | exact List.Mem.head _ | apply List.Mem.tail))) rfl ⟨rfl, H.out.off⟩
end Go.Proofs.Ytfhhfmkfkoemjaa.Si6
