/- The reference of layer 10: its functions. -/
import Derived.Test.YtfhhfmkfkoemjaaProg
import Derived.Below
import Derived.WalkKit
import Derived.KernelRfl
import Derived.RowKit3
import Derived.Deep.LoopGhost
import Derived.Deep.QuietTactic
import Derived.BigQuiet
import Derived.WideLaws
import Derived.Deep.DeepCutAuto
import Derived.Deep.CutBlock
import Derived.Lib.Hide
import Derived.Laws.BitsLemmas
import Derived.Laws.Bits64
import Derived.Laws.BitsAllLaws
import Derived.IntWalk
import Derived.Outline
import Derived.WalkSpells
import Derived.Test.YtfhhfmkfkoemjaaMem
import Derived.Test.YtfhhfmkfkoemjaaKr1
namespace Go.Proofs.Ytfhhfmkfkoemjaa.Se6
open Go.RowKit Go.Proofs.Ytfhhfmkfkoemjaa.Mem Go.Proofs.Ytfhhfmkfkoemjaa.Reg Go.Proofs.Ytfhhfmkfkoemjaa.Pk Go.Proofs.Ytfhhfmkfkoemjaa.Si
set_option linter.unusedVariables false
set_option linter.unusedSimpArgs false

structure EntR where
  who : Int
  key : Int
  body : ByteArray
  answer : ByteArray
def entRow (x : EntR) : List Value := [.int .i64 x.who, .int .u64 x.key, .string x.body, .string x.answer]
def goodRV (c : Cfg) (key now : Int) : Bool := ((checkV c == 0) && decide (key / 4294967296 ≤ now)) && decide (IntKind.i64.wrap (now - key / 4294967296) ≤ c.window)
def keepR (c : Cfg) (now : Int) (e : EntR) : Bool := decide (now ≤ IntKind.i64.wrap (e.key / 4294967296 + c.window))
def hitR (who key : Int) (e : EntR) : Bool := (e.who == who) && (e.key == key)
/-- a look, by the reference -/
def lookR (c : Cfg) (l : List EntR) (now who key : Int) (body : ByteArray) : ByteArray × Int :=
  bif ((((decide (now < 0)) || (decide (1073741824 < now))) || (decide (who < 1))) || (decide (1073741824 < who))) || (!(goodRV c key now)) then (⟨#[]⟩, 4)
  else match (l.filter (keepR c now)).find? (hitR who key) with
    | some e => bif e.body.toList == body.toList then (e.answer, 2) else (⟨#[]⟩, 3)
    | none => bif decide (c.keys ≤ (((l.filter (keepR c now)).length : Nat) : Int)) then (⟨#[]⟩, 5) else (⟨#[]⟩, 1)
theorem find_at {α : Type} (f : α → Bool) : ∀ (l : List α) (j : Nat) (x : α), (∀ k, k < j → ∀ y, l[k]? = some y → f y = false) → l[j]? = some x → f x = true → l.find? f = some x
  | [], _, _, _, h, _ => by simp at h
  | a :: l, 0, x, _, h, hf => by simp at h; subst h; simp [hf]
  | a :: l, j + 1, x, hn, h, hf => by
    have h0 := hn 0 (by omega) a rfl
    rw [List.find?_cons_of_neg (by simp [h0])]
    exact find_at f l j x (fun k hk y hy => hn (k + 1) (by omega) y (by simpa using hy)) (by simpa using h) hf
theorem find_no {α : Type} (f : α → Bool) (l : List α) (h : ∀ k, k < l.length → ∀ y, l[k]? = some y → f y = false) : l.find? f = none := by
  rw [List.find?_eq_none]
  intro x hx
  obtain ⟨k, hk, rfl⟩ := List.getElem_of_mem hx
  rw [h k hk _ (List.getElem?_eq_getElem hk)]
  decide
theorem take_yes {α : Type} {l : List α} {f : α → Bool} {i : Nat} {x : α} (h : l[i]? = some x) (hf : f x = true) : (l.take (i + 1)).filter f = (l.take i).filter f ++ [x] := by
  rw [List.take_add_one, h, List.filter_append]
  simp [hf]
theorem take_no {α : Type} {l : List α} {f : α → Bool} {i : Nat} {x : α} (h : l[i]? = some x) (hf : f x = false) : (l.take (i + 1)).filter f = (l.take i).filter f := by
  rw [List.take_add_one, h, List.filter_append]
  simp [hf]
theorem take_le {α : Type} (l : List α) (f : α → Bool) (i : Nat) : ((l.take i).filter f).length ≤ i := Nat.le_trans (List.length_filter_le _ _) (List.length_take_le _ _)
theorem elEnt : ElI Try.prog 97 136 4 48 := ElI.of (by kernel_rfl) (by kernel_rfl) (by decide)
theorem tyhoistwayref10_Keys : TyI Try.prog 99 19 true [.int .i64 0, .int .i64 0, .int .i64 0, .int .i64 0, .int .i64 0, .int .i64 0, .int .i64 0, .int .i64 0, .int .i64 0, .int .i64 0, .int .i64 0, .int .i64 0, .int .i64 0, .int .i64 0, .int .i64 0, .int .i64 0, .int .i64 0, .int .u32 0, .slice none 0 0] := ⟨by kernel_rfl, by kernel_rfl, by kernel_rfl⟩
theorem tyhoistwayref10_Entry : TyI Try.prog 136 4 true [.int .i64 0, .int .u64 0, .string ⟨#[]⟩, .string ⟨#[]⟩] := ⟨by kernel_rfl, by kernel_rfl, by kernel_rfl⟩
theorem tyS_hoistwayref10_Entry : TyI Try.prog 97 1 false [.slice none 0 0] := ⟨by kernel_rfl, by kernel_rfl, by kernel_rfl⟩
theorem tyuint64 : TyI Try.prog 75 1 false [.int .u64 0] := ⟨by kernel_rfl, by kernel_rfl, by kernel_rfl⟩
set_option maxRecDepth 20000 in
theorem stampR_r0 (key : Int) (hk0 : 0 ≤ key) (hk1 : key ≤ 18446744073709551615) (hq : key.tdiv 4294967296 = key / 4294967296) (hw : IntKind.u64.wrap (key / 4294967296) = key / 4294967296) (hw2 : IntKind.i64.wrap (key / 4294967296) = key / 4294967296) {wa wb : World} (H : Hid (Hp [] wa wb [])) (ac0 : Act) (hz : ac0.tmps.size = 6)  {QR : Exit → Act → World → Prop} (hfin : ∀ (ac1 : Act) (wz : World), ac1.tmps.size = 6 → ac1.defers = ac0.defers → (∀ t, ([2] : List Nat).contains t = false → ac1.eval (.tmp t) = ac0.eval (.tmp t)) → ac1.eval (.tmp 2) = .int .i64 0 →  Hid (Hp [] wa wz []) → QR .normal ac1 wz) : (regAt Try.f54 0).wp Try.prog QR ac0 wb := by
  refine wp_region_sq (by kernel_rfl) 6 hz (by kernel_rfl) (fun (xx : Unit) jx => nth [.int .i64 0] jx) (fun (LL : Nat → Bool) (xx : Unit) ww => Hp [] wa ww []) () H.out ?_ (steps_al ?_) ?_ ?_
  · exact fun _ _ _ _ _ h => h
  · refine al_cons ?_ (al_nil)
    · intro LL xx ac wc sg hst hwant QQ hgo
      exact op_val hwant hgo hst _ (exec_assign rfl rfl) rfl
  · exact skips [] (by kernel_rfl) (fun _ h => by cases h)
  · intro xx ac1 wz hfr hsl hst
    exact hfin ac1 wz (hfr.size.trans hz) hfr.defers (fr_keep hfr [2] (by kernel_rfl)) (hsl 0 (by decide)) (Lib.hid hst)
set_option maxRecDepth 20000 in
theorem stampR_r1 (key : Int) (hk0 : 0 ≤ key) (hk1 : key ≤ 18446744073709551615) (hq : key.tdiv 4294967296 = key / 4294967296) (hw : IntKind.u64.wrap (key / 4294967296) = key / 4294967296) (hw2 : IntKind.i64.wrap (key / 4294967296) = key / 4294967296) {wa wb : World} (H : Hid (Hp [] wa wb [])) (ac0 : Act) (hz : ac0.tmps.size = 6) (so0 : ac0.eval (.tmp 0) = .int .u64 key) {QR : Exit → Act → World → Prop} (hfin : ∀ (ac1 : Act) (wz : World), ac1.tmps.size = 6 → ac1.defers = ac0.defers → (∀ t, ([2, 3, 4, 5] : List Nat).contains t = false → ac1.eval (.tmp t) = ac0.eval (.tmp t)) → ac1.eval (.tmp 2) = .int .i64 (key / 4294967296) →  Hid (Hp [] wa wz []) → QR .normal ac1 wz) : (regAt Try.f54 1).wp Try.prog QR ac0 wb := by
  refine wp_region_sq (by kernel_rfl) 6 hz (by kernel_rfl) (fun (xx : Unit) jx => nth [.int .u64 key, .int .u64 (key / 4294967296), .int .i64 (key / 4294967296), .int .i64 (key / 4294967296)] jx) (fun (LL : Nat → Bool) (xx : Unit) ww => Hp [] wa ww []) () H.out ?_ (steps_al ?_) ?_ ?_
  · exact fun _ _ _ _ _ h => h
  · refine al_cons ?_ (al_cons ?_ (al_cons ?_ (al_cons ?_ (al_nil))))
    · intro LL xx ac wc sg hst hwant QQ hgo
      exact op_val hwant hgo hst _ (exec_move rfl ((sg.free 0 (by kernel_rfl)).trans so0)) rfl
    · intro LL xx ac wc sg hst hwant QQ hgo
      have se3 : ac.eval (.tmp 3) = _ := (sg.slot 0 (sg.anc 0 rfl))
      have sg3 := gt_of se3
      (try simp only [nth] at se3 sg3)
      exact op_val hwant hgo hst _ (by simp only [execOp, nth]; go_simp <;> omega) rfl
    · intro LL xx ac wc sg hst hwant QQ hgo
      have se4 : ac.eval (.tmp 4) = _ := (sg.slot 1 (sg.anc 1 rfl))
      have sg4 := gt_of se4
      (try simp only [nth] at se4 sg4)
      exact op_val hwant hgo hst _ (by simp only [execOp, nth]; go_simp <;> omega) rfl
    · intro LL xx ac wc sg hst hwant QQ hgo
      exact op_val hwant hgo hst _ (exec_assign rfl (sg.slot 2 (sg.anc 2 rfl))) rfl
  · exact skips [] (by kernel_rfl) (fun _ h => by cases h)
  · intro xx ac1 wz hfr hsl hst
    exact hfin ac1 wz (hfr.size.trans hz) hfr.defers (fr_keep hfr [2, 3, 4, 5] (by kernel_rfl)) (hsl 3 (by decide)) (Lib.hid hst)
set_option maxRecDepth 20000 in
theorem stampR (key : Int) (w : World) (hk0 : 0 ≤ key) (hk1 : key ≤ 18446744073709551615) : Calls Try.prog 54 #[.int .u64 key] w fun e w' => e = .returned (.int .i64 (key / 4294967296)) ∧ Off [] w w' := by
  have H := Lib.hid (Hp.start [] w)
  refine calls_start Try.func54 rfl 6 rfl (by simp) (fun aa nn dd sl => ?_)
  have ss0 : aa.eval (.tmp 0) = .int .u64 key := sl 0 (by simp)
  clear sl
  have hq : key.tdiv 4294967296 = key / 4294967296 := Int.tdiv_eq_ediv_of_nonneg hk0
  have hw : IntKind.u64.wrap (key / 4294967296) = key / 4294967296 := IntWalk.u64_in _ (by omega)
  have hw2 : IntKind.i64.wrap (key / 4294967296) = key / 4294967296 := IntWalk.i64_in _ (by omega)
  refine wp_seq_k fun KK1 hK1 => ?_
  refine stampR_r0 key hk0 hk1 hq hw hw2 H aa nn  ?_
  clear H nn
  intro aa ww nn dd1 kp ss2 H
  replace ss0 := (kp 0 rfl).trans ss0
  replace dd := dd1.trans dd
  clear dd1 kp
  refine then_normal ?_
  refine hK1 _ _ ?_
  refine wp_seq_k fun KK2 hK2 => ?_
  refine stampR_r1 key hk0 hk1 hq hw hw2 H aa nn ss0 ?_
  clear H nn ss2
  intro aa ww nn dd1 kp ss2 H
  replace ss0 := (kp 0 rfl).trans ss0
  replace dd := dd1.trans dd
  clear dd1 kp
  refine then_normal ?_
  refine hK2 _ _ ?_
  refine wp_ret ?_
  exact ret1 rfl dd ss2 ⟨rfl, H.out.off⟩
set_option maxRecDepth 20000 in
theorem goodR10_r0 (c : Cfg) (key : Int) (hk0 : 0 ≤ key) (hk1 : key ≤ 18446744073709551615) {wa wb : World} (H : Hid (Hp [] wa wb [])) (ac0 : Act) (hz : ac0.tmps.size = 24) (so0 : ac0.eval (.tmp 0) = .agg (cA c)) {QR : Exit → Act → World → Prop} (hfin : ∀ (b3 : Nat) (ac1 : Act) (wz : World), ac1.tmps.size = 24 → ac1.defers = ac0.defers → (∀ t, ([3, 6] : List Nat).contains t = false → ac1.eval (.tmp t) = ac0.eval (.tmp t)) → ac1.eval (.tmp 3) = .pointer (some ⟨b3, 0, none⟩) → ac1.eval (.tmp 6) = .bool false →  Hid (Hp [] wa wz [rB b3 24 (cL c)]) → QR .normal ac1 wz) : (regAt Try.f53 0).wp Try.prog QR ac0 wb := by
  refine wp_region_sq (by kernel_rfl) 24 hz (by kernel_rfl) (fun (xx : Nat) jx => match xx with | b3 => nth [.pointer (some ⟨b3, 0, none⟩), .bool false] jx) (fun (LL : Nat → Bool) (xx : Nat) ww => match xx with | b3 => Hp [] wa ww (bif LL 0 then [rB b3 24 (cL c)] else [])) default H.out ?_ (steps_al ?_) ?_ ?_
  · intro L1 L2 xx ww hL sg
    have lh0 := hL 0 (by decide)
    simp only [lh0] at sg
    exact sg
  · refine al_cons ?_ (al_cons ?_ (al_nil))
    · intro LL xx ac wc sg hst hwant QQ hgo
      revert sg hst hgo; revert xx; intro xold sg hst hgo
      have H := Lib.hid hst
      simp only [sg.self, cond_true, cond_false] at H
      refine hp_box rfl 24 _ rfl _ ((sg.free 0 (by kernel_rfl)).trans so0) _ (by rfl) H ?_
      intro wd b3 H2
      exact hgo _ b3 _ (sg.agree (x' := b3) (n := 2) rfl (by (iterate 2 (refine ix_cons (by first | exact fun _ => rfl | exact no sg.self | exact no (sg.des _ rfl)) ?_)); exact ix_nil)) rfl (by simp only [(show upd LL 0 0 = true from rfl), cond_true, cond_false]; exact H2.out)
    · intro LL xx ac wc sg hst hwant QQ hgo
      revert sg hst hgo; revert xx; intro b3 sg hst hgo
      exact op_val hwant hgo hst _ (exec_assign rfl rfl) rfl
  · exact skips [] (by kernel_rfl) (fun _ h => by cases h)
  · intro xx ac1 wz hfr hsl hst
    revert hsl hst; revert xx; intro b3 hsl hst
    exact hfin b3 ac1 wz (hfr.size.trans hz) hfr.defers (fr_keep hfr [3, 6] (by kernel_rfl)) (hsl 0 (by decide)) (hsl 1 (by decide)) (Lib.hid hst)
set_option maxRecDepth 20000 in
theorem goodR10_r1 (c : Cfg) (key : Int) (now : Int) (hk0 : 0 ≤ key) (hk1 : key ≤ 18446744073709551615) (b3 : Nat) {wa wb : World} (H : Hid (Hp [] wa wb [rB b3 24 (cL c)])) (ac0 : Act) (hz : ac0.tmps.size = 24) (so1 : ac0.eval (.tmp 1) = .int .u64 key) (so2 : ac0.eval (.tmp 2) = .int .i64 now) (so3 : ac0.eval (.tmp 3) = .pointer (some ⟨b3, 0, none⟩)) {QR : Exit → Act → World → Prop} (hfin : ∀ (ac1 : Act) (wz : World), ac1.tmps.size = 24 → ac1.defers = ac0.defers → (∀ t, ([6, 7, 8, 9, 10, 11, 12, 13, 14, 15, 16, 17, 18, 19, 20, 21, 22, 23] : List Nat).contains t = false → ac1.eval (.tmp t) = ac0.eval (.tmp t)) → ac1.eval (.tmp 6) = .bool (((checkV c == 0) && (decide ((key / 4294967296) ≤ now))) && (decide ((IntKind.i64.wrap (now - (key / 4294967296))) ≤ c.window))) →  Hid (Hp [] wa wz [rB b3 24 (cL c)]) → QR .normal ac1 wz) : (regAt Try.f53 1).wp Try.prog QR ac0 wb := by
  refine wp_region_st mixedP ⟨[0, 1, 2, 3, 3, 4, 5, 6, 7, 8, 8, 9, 10, 8, 9, 11, 12, 13], by kernel_rfl⟩ [[], [0], [0, 1], [0, 1, 2], [0, 1, 2], [0, 1, 2, 4], [0, 1, 2, 3, 4, 5], [0, 1, 2, 3, 4, 5, 6], [0, 1, 2, 3, 4, 5, 6, 7], [0, 1, 2, 3, 4, 5, 6, 7, 8], [0, 1, 2, 3, 4, 5, 6, 7, 8], [0, 1, 2, 3, 4, 5, 6, 7, 8, 10], [0, 1, 2, 3, 4, 5, 6, 7, 8, 9, 10, 11], [0, 1, 2, 3, 4, 5, 6, 7, 8], [0, 1, 2, 3, 4, 5, 6, 7, 8, 13], [0, 1, 2, 3, 4, 5, 6, 7, 8, 9, 10, 11, 12, 13, 14], [0, 1, 2, 3, 4, 5, 6, 7, 8, 9, 10, 11, 12, 13, 14, 15], [0, 1, 2, 3, 4, 5, 6, 7, 8, 9, 10, 11, 12, 13, 14, 15, 16]] (by kernel_rfl) (by kernel_rfl) 24 hz (by kernel_rfl) (fun (xx : Unit) jx => nth [.agg (cA c), .bool (checkV c == 0), .bool (checkV c == 0), bif (checkV c == 0) then .int .i64 now else undef, bif (checkV c == 0) then .int .u64 key else undef, bif (checkV c == 0) then .int .i64 (key / 4294967296) else undef, bif (checkV c == 0) then .bool (decide ((key / 4294967296) ≤ now)) else undef, .bool ((checkV c == 0) && (decide ((key / 4294967296) ≤ now))), .bool ((checkV c == 0) && (decide ((key / 4294967296) ≤ now))), bif ((checkV c == 0) && (decide ((key / 4294967296) ≤ now))) then .int .i64 now else undef, bif ((checkV c == 0) && (decide ((key / 4294967296) ≤ now))) then .int .u64 key else undef, bif ((checkV c == 0) && (decide ((key / 4294967296) ≤ now))) then .int .i64 (key / 4294967296) else undef, bif ((checkV c == 0) && (decide ((key / 4294967296) ≤ now))) then .int .i64 (IntKind.i64.wrap (now - (key / 4294967296))) else undef, bif ((checkV c == 0) && (decide ((key / 4294967296) ≤ now))) then .pointer (some ⟨b3, 6, none⟩) else undef, bif ((checkV c == 0) && (decide ((key / 4294967296) ≤ now))) then .int .i64 c.window else undef, bif ((checkV c == 0) && (decide ((key / 4294967296) ≤ now))) then .bool (decide ((IntKind.i64.wrap (now - (key / 4294967296))) ≤ c.window)) else undef, .bool (((checkV c == 0) && (decide ((key / 4294967296) ≤ now))) && (decide ((IntKind.i64.wrap (now - (key / 4294967296))) ≤ c.window))), .bool (((checkV c == 0) && (decide ((key / 4294967296) ≤ now))) && (decide ((IntKind.i64.wrap (now - (key / 4294967296))) ≤ c.window)))] jx) (fun (LL : Nat → Bool) (xx : Unit) ww => Hp [] wa ww [rB b3 24 (cL c)]) () H.out.drew ?_ (steps_al ?_) ?_ ?_
  · exact fun _ _ _ _ _ h => h
  · refine al_cons ?_ (al_cons ?_ (al_cons ?_ (al_cons ?_ (al_cons ?_ (al_cons ?_ (al_cons ?_ (al_cons ?_ (al_cons ?_ (al_cons ?_ (al_cons ?_ (al_cons ?_ (al_cons ?_ (al_cons ?_ (al_cons ?_ (al_cons ?_ (al_cons ?_ (al_cons ?_ (al_nil))))))))))))))))))
    · intro LL xx ac wc sg hst hwant QQ hgo
      have H := Lib.hid hst
      refine hpA_load tyapi_Config H rfl ((sg.free 3 (by kernel_rfl)).trans so3) hwant (by (repeat (first | exact List.Mem.head _ | apply List.Mem.tail))) (by rfl) rfl ?_
      exact hgo _ () _ (fun _ _ => rfl) rfl hst
    · intro LL xx ac wc sg hst hwant QQ hgo
      have se7 : ac.eval (.tmp 7) = _ := (sg.slot 0 (sg.anc 0 rfl))
      have sg7 := gt_of se7
      (try simp only [nth] at se7 sg7)
      refine op_call hwant hgo 52 _ (by simp only [execOp]; go_simp) (goodR c wc) ?_
      rintro er wd ⟨rfl, hof⟩
      exact ⟨_, (), rfl, fun _ _ => rfl, rfl, Hp.quiet hst hof⟩
    · intro LL xx ac wc sg hst hwant QQ hgo
      exact op_val hwant hgo hst _ (exec_move rfl (sg.slot 1 (sg.anc 1 rfl))) rfl
    · intro LL xx ac wc sg hst hwant QQ hgo
      have hG : (checkV c == 0) = true := (want_t rfl rfl (sg.slot 2 (sg.anc 2 rfl))).symm.trans hwant
      exact op_val hwant hgo hst _ (exec_move rfl ((sg.free 2 (by kernel_rfl)).trans so2)) (cI hG)
    · intro LL xx ac wc sg hst hwant QQ hgo
      have hG : (checkV c == 0) = true := (want_t rfl rfl (sg.slot 2 (sg.anc 2 rfl))).symm.trans hwant
      exact op_val hwant hgo hst _ (exec_move rfl ((sg.free 1 (by kernel_rfl)).trans so1)) (cI hG)
    · intro LL xx ac wc sg hst hwant QQ hgo
      have hG : (checkV c == 0) = true := (want_t rfl rfl (sg.slot 2 (sg.anc 2 rfl))).symm.trans hwant
      have se11 : ac.eval (.tmp 11) = _ := (cT (sg.slot 4 (sg.anc 4 rfl)) hG)
      have sg11 := gt_of se11
      (try simp only [nth] at se11 sg11)
      refine op_call hwant hgo 54 _ (by simp only [execOp]; go_simp) (stampR key wc hk0 hk1) ?_
      rintro er wd ⟨rfl, hof⟩
      exact ⟨_, (), rfl, fun _ _ => rfl, (cI hG), Hp.quiet hst hof⟩
    · intro LL xx ac wc sg hst hwant QQ hgo
      have hG : (checkV c == 0) = true := (want_t rfl rfl (sg.slot 2 (sg.anc 2 rfl))).symm.trans hwant
      have se10 : ac.eval (.tmp 10) = _ := (cT (sg.slot 3 (sg.anc 3 rfl)) hG)
      have sg10 := gt_of se10
      have se12 : ac.eval (.tmp 12) = _ := (cT (sg.slot 5 (sg.anc 5 rfl)) hG)
      have sg12 := gt_of se12
      (try simp only [nth] at se10 sg10 se12 sg12)
      exact op_val hwant hgo hst _ (by simp only [execOp, nth]; go_simp <;> omega) (cI hG)
    · intro LL xx ac wc sg hst hwant QQ hgo
      exact op_val hwant hgo hst (.bool ((checkV c == 0) && (decide ((key / 4294967296) ≤ now)))) (exec_and (Y := decide ((key / 4294967296) ≤ now)) rfl (sg.slot 2 (sg.anc 2 rfl)) (fun qq => cT (sg.slot 6 (sg.anc 6 rfl)) qq)) rfl
    · intro LL xx ac wc sg hst hwant QQ hgo
      exact op_val hwant hgo hst _ (exec_move rfl (sg.slot 7 (sg.anc 7 rfl))) rfl
    · intro LL xx ac wc sg hst hwant QQ hgo
      have hG : ((checkV c == 0) && (decide ((key / 4294967296) ≤ now))) = true := (want_t rfl rfl (sg.slot 8 (sg.anc 8 rfl))).symm.trans hwant
      exact op_val hwant hgo hst _ (exec_move rfl ((sg.free 2 (by kernel_rfl)).trans so2)) (cI hG)
    · intro LL xx ac wc sg hst hwant QQ hgo
      have hG : ((checkV c == 0) && (decide ((key / 4294967296) ≤ now))) = true := (want_t rfl rfl (sg.slot 8 (sg.anc 8 rfl))).symm.trans hwant
      exact op_val hwant hgo hst _ (exec_move rfl ((sg.free 1 (by kernel_rfl)).trans so1)) (cI hG)
    · intro LL xx ac wc sg hst hwant QQ hgo
      have hG : ((checkV c == 0) && (decide ((key / 4294967296) ≤ now))) = true := (want_t rfl rfl (sg.slot 8 (sg.anc 8 rfl))).symm.trans hwant
      have se17 : ac.eval (.tmp 17) = _ := (cT (sg.slot 10 (sg.anc 10 rfl)) hG)
      have sg17 := gt_of se17
      (try simp only [nth] at se17 sg17)
      refine op_call hwant hgo 54 _ (by simp only [execOp]; go_simp) (stampR key wc hk0 hk1) ?_
      rintro er wd ⟨rfl, hof⟩
      exact ⟨_, (), rfl, fun _ _ => rfl, (cI hG), Hp.quiet hst hof⟩
    · intro LL xx ac wc sg hst hwant QQ hgo
      have hG : ((checkV c == 0) && (decide ((key / 4294967296) ≤ now))) = true := (want_t rfl rfl (sg.slot 8 (sg.anc 8 rfl))).symm.trans hwant
      have se16 : ac.eval (.tmp 16) = _ := (cT (sg.slot 9 (sg.anc 9 rfl)) hG)
      have sg16 := gt_of se16
      have se18 : ac.eval (.tmp 18) = _ := (cT (sg.slot 11 (sg.anc 11 rfl)) hG)
      have sg18 := gt_of se18
      (try simp only [nth] at se16 sg16 se18 sg18)
      exact op_val hwant hgo hst _ (by simp only [execOp, nth]; go_simp <;> omega) (cI hG)
    · intro LL xx ac wc sg hst hwant QQ hgo
      have hG : ((checkV c == 0) && (decide ((key / 4294967296) ≤ now))) = true := (want_t rfl rfl (sg.slot 8 (sg.anc 8 rfl))).symm.trans hwant
      have se3 : ac.eval (.tmp 3) = _ := ((sg.free 3 (by kernel_rfl)).trans so3)
      have sg3 := gt_of se3
      exact op_val hwant hgo hst _ (by simp only [execOp, nth]; go_simp <;> omega) (cI hG)
    · intro LL xx ac wc sg hst hwant QQ hgo
      have hG : ((checkV c == 0) && (decide ((key / 4294967296) ≤ now))) = true := (want_t rfl rfl (sg.slot 8 (sg.anc 8 rfl))).symm.trans hwant
      have H := Lib.hid hst
      refine hpA_load1 tyint H rfl (cT (sg.slot 13 (sg.anc 13 rfl)) hG) hwant (by (repeat (first | exact List.Mem.head _ | apply List.Mem.tail))) (by rfl) ?_
      exact hgo _ () _ (fun _ _ => rfl) (cI hG) hst
    · intro LL xx ac wc sg hst hwant QQ hgo
      have hG : ((checkV c == 0) && (decide ((key / 4294967296) ≤ now))) = true := (want_t rfl rfl (sg.slot 8 (sg.anc 8 rfl))).symm.trans hwant
      have se19 : ac.eval (.tmp 19) = _ := (cT (sg.slot 12 (sg.anc 12 rfl)) hG)
      have sg19 := gt_of se19
      have se21 : ac.eval (.tmp 21) = _ := (cT (sg.slot 14 (sg.anc 14 rfl)) hG)
      have sg21 := gt_of se21
      (try simp only [nth] at se19 sg19 se21 sg21)
      exact op_val hwant hgo hst _ (by simp only [execOp, nth]; go_simp <;> omega) (cI hG)
    · intro LL xx ac wc sg hst hwant QQ hgo
      exact op_val hwant hgo hst (.bool (((checkV c == 0) && (decide ((key / 4294967296) ≤ now))) && (decide ((IntKind.i64.wrap (now - (key / 4294967296))) ≤ c.window)))) (exec_and (Y := decide ((IntKind.i64.wrap (now - (key / 4294967296))) ≤ c.window)) rfl (sg.slot 8 (sg.anc 8 rfl)) (fun qq => cT (sg.slot 15 (sg.anc 15 rfl)) qq)) rfl
    · intro LL xx ac wc sg hst hwant QQ hgo
      exact op_val hwant hgo hst _ (exec_assign rfl (sg.slot 16 (sg.anc 16 rfl))) rfl
  · refine skips [3, 4, 5, 6, 9, 10, 11, 12, 13, 14, 15] (by kernel_rfl) ?_
    refine List.forall_mem_cons.2 ⟨?_, List.forall_mem_cons.2 ⟨?_, List.forall_mem_cons.2 ⟨?_, List.forall_mem_cons.2 ⟨?_, List.forall_mem_cons.2 ⟨?_, List.forall_mem_cons.2 ⟨?_, List.forall_mem_cons.2 ⟨?_, List.forall_mem_cons.2 ⟨?_, List.forall_mem_cons.2 ⟨?_, List.forall_mem_cons.2 ⟨?_, List.forall_mem_cons.2 ⟨?_, fun _ h => by cases h⟩⟩⟩⟩⟩⟩⟩⟩⟩⟩⟩
    · intro oo hop LL xx ac sg hwant
      cases Option.some.inj hop
      have hG : (checkV c == 0) = false := (want_t rfl rfl (sg.slot 2 (sg.anc 2 rfl))).symm.trans hwant
      exact ⟨cF hG, fun _ h => h⟩
    · intro oo hop LL xx ac sg hwant
      cases Option.some.inj hop
      have hG : (checkV c == 0) = false := (want_t rfl rfl (sg.slot 2 (sg.anc 2 rfl))).symm.trans hwant
      exact ⟨cF hG, fun _ h => h⟩
    · intro oo hop LL xx ac sg hwant
      cases Option.some.inj hop
      have hG : (checkV c == 0) = false := (want_t rfl rfl (sg.slot 2 (sg.anc 2 rfl))).symm.trans hwant
      exact ⟨cF hG, fun _ h => h⟩
    · intro oo hop LL xx ac sg hwant
      cases Option.some.inj hop
      have hG : (checkV c == 0) = false := (want_t rfl rfl (sg.slot 2 (sg.anc 2 rfl))).symm.trans hwant
      exact ⟨cF hG, fun _ h => h⟩
    · intro oo hop LL xx ac sg hwant
      cases Option.some.inj hop
      have hG : ((checkV c == 0) && (decide ((key / 4294967296) ≤ now))) = false := (want_t rfl rfl (sg.slot 8 (sg.anc 8 rfl))).symm.trans hwant
      exact ⟨cF hG, fun _ h => h⟩
    · intro oo hop LL xx ac sg hwant
      cases Option.some.inj hop
      have hG : ((checkV c == 0) && (decide ((key / 4294967296) ≤ now))) = false := (want_t rfl rfl (sg.slot 8 (sg.anc 8 rfl))).symm.trans hwant
      exact ⟨cF hG, fun _ h => h⟩
    · intro oo hop LL xx ac sg hwant
      cases Option.some.inj hop
      have hG : ((checkV c == 0) && (decide ((key / 4294967296) ≤ now))) = false := (want_t rfl rfl (sg.slot 8 (sg.anc 8 rfl))).symm.trans hwant
      exact ⟨cF hG, fun _ h => h⟩
    · intro oo hop LL xx ac sg hwant
      cases Option.some.inj hop
      have hG : ((checkV c == 0) && (decide ((key / 4294967296) ≤ now))) = false := (want_t rfl rfl (sg.slot 8 (sg.anc 8 rfl))).symm.trans hwant
      exact ⟨cF hG, fun _ h => h⟩
    · intro oo hop LL xx ac sg hwant
      cases Option.some.inj hop
      have hG : ((checkV c == 0) && (decide ((key / 4294967296) ≤ now))) = false := (want_t rfl rfl (sg.slot 8 (sg.anc 8 rfl))).symm.trans hwant
      exact ⟨cF hG, fun _ h => h⟩
    · intro oo hop LL xx ac sg hwant
      cases Option.some.inj hop
      have hG : ((checkV c == 0) && (decide ((key / 4294967296) ≤ now))) = false := (want_t rfl rfl (sg.slot 8 (sg.anc 8 rfl))).symm.trans hwant
      exact ⟨cF hG, fun _ h => h⟩
    · intro oo hop LL xx ac sg hwant
      cases Option.some.inj hop
      have hG : ((checkV c == 0) && (decide ((key / 4294967296) ≤ now))) = false := (want_t rfl rfl (sg.slot 8 (sg.anc 8 rfl))).symm.trans hwant
      exact ⟨cF hG, fun _ h => h⟩
  · intro xx ac1 wz hfr hsl hst
    exact hfin ac1 wz (hfr.size.trans hz) hfr.defers (fr_keep hfr [6, 7, 8, 9, 10, 11, 12, 13, 14, 15, 16, 17, 18, 19, 20, 21, 22, 23] (by kernel_rfl)) (hsl 17 (by decide)) (Lib.hid hst)
set_option maxRecDepth 20000 in
theorem goodR10 (c : Cfg) (key : Int) (now : Int) (w : World) (hk0 : 0 ≤ key) (hk1 : key ≤ 18446744073709551615) : Calls Try.prog 53 #[.agg (cA c), .int .u64 key, .int .i64 now] w fun e w' => e = .returned (.bool (goodRV c key now)) ∧ Off [] w w' := by
  have H := Lib.hid (Hp.start [] w)
  refine calls_start Try.func53 rfl 24 rfl (by simp) (fun aa nn dd sl => ?_)
  have ss0 : aa.eval (.tmp 0) = .agg (cA c) := sl 0 (by simp)
  have ss1 : aa.eval (.tmp 1) = .int .u64 key := sl 1 (by simp)
  have ss2 : aa.eval (.tmp 2) = .int .i64 now := sl 2 (by simp)
  clear sl
  refine wp_seq_k fun KK1 hK1 => ?_
  refine goodR10_r0 c key hk0 hk1 H aa nn ss0 ?_
  clear H nn
  intro b3 aa ww nn dd1 kp ss3 ss6 H
  replace ss0 := (kp 0 rfl).trans ss0
  replace ss1 := (kp 1 rfl).trans ss1
  replace ss2 := (kp 2 rfl).trans ss2
  replace dd := dd1.trans dd
  clear dd1 kp
  refine then_normal ?_
  refine hK1 _ _ ?_
  refine wp_seq_k fun KK2 hK2 => ?_
  refine goodR10_r1 c key now hk0 hk1 b3 H aa nn ss1 ss2 ss3 ?_
  clear H nn ss6
  intro aa ww nn dd1 kp ss6 H
  replace ss0 := (kp 0 rfl).trans ss0
  replace ss1 := (kp 1 rfl).trans ss1
  replace ss2 := (kp 2 rfl).trans ss2
  replace ss3 := (kp 3 rfl).trans ss3
  replace dd := dd1.trans dd
  clear dd1 kp
  refine then_normal ?_
  refine hK2 _ _ ?_
  refine wp_ret ?_
  exact ret1 rfl dd ss6 ⟨rfl, H.out.off⟩
set_option maxRecDepth 20000 in
theorem countsR_r0 (c : Cfg) (la : Option Addr) (lc : Nat) (l : List EntR) (hl : l.length ≤ 1000000) {wa wb : World} (H : Hid (Hp [] wa wb [rS la lc 4 (l.map entRow)])) (ac0 : Act) (hz : ac0.tmps.size = 37) (so0 : ac0.eval (.tmp 0) = .agg (rkA c (.slice la l.length lc))) {QR : Exit → Act → World → Prop} (hfin : ∀ (b2 : Nat) (ac1 : Act) (wz : World), ac1.tmps.size = 37 → ac1.defers = ac0.defers → (∀ t, ([2, 4] : List Nat).contains t = false → ac1.eval (.tmp t) = ac0.eval (.tmp t)) → ac1.eval (.tmp 2) = .pointer (some ⟨b2, 0, none⟩) → ac1.eval (.tmp 4) = .slice none 0 0 →  Hid (Hp [] wa wz [rB b2 99 (rkL c (.slice la l.length lc)), rS la lc 4 (l.map entRow)]) → QR .normal ac1 wz) : (regAt Try.f58 0).wp Try.prog QR ac0 wb := by
  refine wp_region_sq (by kernel_rfl) 37 hz (by kernel_rfl) (fun (xx : Nat) jx => match xx with | b2 => nth [.pointer (some ⟨b2, 0, none⟩), .slice none 0 0] jx) (fun (LL : Nat → Bool) (xx : Nat) ww => match xx with | b2 => Hp [] wa ww (bif LL 0 then [rB b2 99 (rkL c (.slice la l.length lc)), rS la lc 4 (l.map entRow)] else [rS la lc 4 (l.map entRow)])) default H.out ?_ (steps_al ?_) ?_ ?_
  · intro L1 L2 xx ww hL sg
    have lh0 := hL 0 (by decide)
    simp only [lh0] at sg
    exact sg
  · refine al_cons ?_ (al_cons ?_ (al_nil))
    · intro LL xx ac wc sg hst hwant QQ hgo
      revert sg hst hgo; revert xx; intro xold sg hst hgo
      have H := Lib.hid hst
      simp only [sg.self, cond_true, cond_false] at H
      refine hp_box rfl 99 _ rfl _ ((sg.free 0 (by kernel_rfl)).trans so0) _ (by rfl) H ?_
      intro wd b2 H2
      exact hgo _ b2 _ (sg.agree (x' := b2) (n := 2) rfl (by (iterate 2 (refine ix_cons (by first | exact fun _ => rfl | exact no sg.self | exact no (sg.des _ rfl)) ?_)); exact ix_nil)) rfl (by simp only [(show upd LL 0 0 = true from rfl), cond_true, cond_false]; exact H2.out)
    · intro LL xx ac wc sg hst hwant QQ hgo
      revert sg hst hgo; revert xx; intro b2 sg hst hgo
      exact op_val hwant hgo hst _ (exec_assign rfl rfl) rfl
  · exact skips [] (by kernel_rfl) (fun _ h => by cases h)
  · intro xx ac1 wz hfr hsl hst
    revert hsl hst; revert xx; intro b2 hsl hst
    exact hfin b2 ac1 wz (hfr.size.trans hz) hfr.defers (fr_keep hfr [2, 4] (by kernel_rfl)) (hsl 0 (by decide)) (hsl 1 (by decide)) (Lib.hid hst)
set_option maxRecDepth 20000 in
theorem countsR_r1 (c : Cfg) (la : Option Addr) (lc : Nat) (l : List EntR) (hl : l.length ≤ 1000000) (b2 : Nat) {wa wb : World} (H : Hid (Hp [] wa wb [rB b2 99 (rkL c (.slice la l.length lc)), rS la lc 4 (l.map entRow)])) (ac0 : Act) (hz : ac0.tmps.size = 37)  {QR : Exit → Act → World → Prop} (hfin : ∀ (b7 : Nat) (ac1 : Act) (wz : World), ac1.tmps.size = 37 → ac1.defers = ac0.defers → (∀ t, ([5, 7] : List Nat).contains t = false → ac1.eval (.tmp t) = ac0.eval (.tmp t)) → ac1.eval (.tmp 5) = .slice (some ⟨b7, 0, none⟩) 0 0 →  Hid (Hp [] wa wz [rA (some ⟨b7, 0, none⟩) 0 136 4 (([] : List EntR).map entRow), rB b2 99 (rkL c (.slice la l.length lc)), rS la lc 4 (l.map entRow)]) → QR .normal ac1 wz) : (regAt Try.f58 1).wp Try.prog QR ac0 wb := by
  refine wp_region_sq (by kernel_rfl) 37 hz (by kernel_rfl) (fun (xx : Nat) jx => match xx with | b7 => nth [.slice (some ⟨b7, 0, none⟩) 0 0, .slice (some ⟨b7, 0, none⟩) 0 0] jx) (fun (LL : Nat → Bool) (xx : Nat) ww => match xx with | b7 => Hp [] wa ww (bif LL 0 then [rA (some ⟨b7, 0, none⟩) 0 136 4 (([] : List EntR).map entRow), rB b2 99 (rkL c (.slice la l.length lc)), rS la lc 4 (l.map entRow)] else [rB b2 99 (rkL c (.slice la l.length lc)), rS la lc 4 (l.map entRow)])) default H.out ?_ (steps_al ?_) ?_ ?_
  · intro L1 L2 xx ww hL sg
    have lh0 := hL 0 (by decide)
    simp only [lh0] at sg
    exact sg
  · refine al_cons ?_ (al_cons ?_ (al_nil))
    · intro LL xx ac wc sg hst hwant QQ hgo
      revert sg hst hgo; revert xx; intro xold sg hst hgo
      have H := Lib.hid hst
      simp only [sg.self, cond_true, cond_false] at H
      refine hp_bslice0 elEnt H rfl hwant ?_
      intro wd b7 H2
      exact hgo _ b7 _ (sg.agree (x' := b7) (n := 2) rfl (by (iterate 2 (refine ix_cons (by first | exact fun _ => rfl | exact no sg.self | exact no (sg.des _ rfl)) ?_)); exact ix_nil)) rfl (by simp only [(show upd LL 0 0 = true from rfl), cond_true, cond_false]; exact H2.out)
    · intro LL xx ac wc sg hst hwant QQ hgo
      revert sg hst hgo; revert xx; intro b7 sg hst hgo
      exact op_val hwant hgo hst _ (exec_assign rfl (sg.slot 0 (sg.anc 0 rfl))) rfl
  · exact skips [] (by kernel_rfl) (fun _ h => by cases h)
  · intro xx ac1 wz hfr hsl hst
    revert hsl hst; revert xx; intro b7 hsl hst
    exact hfin b7 ac1 wz (hfr.size.trans hz) hfr.defers (fr_keep hfr [5, 7] (by kernel_rfl)) (hsl 1 (by decide)) (Lib.hid hst)
set_option maxRecDepth 20000 in
theorem countsR_r2 (c : Cfg) (la : Option Addr) (lc : Nat) (l : List EntR) (hl : l.length ≤ 1000000) (b2 : Nat) (b7 : Nat) {wa wb : World} (H : Hid (Hp [] wa wb [rA (some ⟨b7, 0, none⟩) 0 136 4 (([] : List EntR).map entRow), rB b2 99 (rkL c (.slice la l.length lc)), rS la lc 4 (l.map entRow)])) (ac0 : Act) (hz : ac0.tmps.size = 37)  {QR : Exit → Act → World → Prop} (hfin : ∀ (ac1 : Act) (wz : World), ac1.tmps.size = 37 → ac1.defers = ac0.defers → (∀ t, ([6] : List Nat).contains t = false → ac1.eval (.tmp t) = ac0.eval (.tmp t)) → ac1.eval (.tmp 6) = .int .i64 0 →  Hid (Hp [] wa wz [rA (some ⟨b7, 0, none⟩) 0 136 4 (([] : List EntR).map entRow), rB b2 99 (rkL c (.slice la l.length lc)), rS la lc 4 (l.map entRow)]) → QR .normal ac1 wz) : (regAt Try.f58 2).wp Try.prog QR ac0 wb := by
  refine wp_region_sq (by kernel_rfl) 37 hz (by kernel_rfl) (fun (xx : Unit) jx => nth [.int .i64 0] jx) (fun (LL : Nat → Bool) (xx : Unit) ww => Hp [] wa ww [rA (some ⟨b7, 0, none⟩) 0 136 4 (([] : List EntR).map entRow), rB b2 99 (rkL c (.slice la l.length lc)), rS la lc 4 (l.map entRow)]) () H.out ?_ (steps_al ?_) ?_ ?_
  · exact fun _ _ _ _ _ h => h
  · refine al_cons ?_ (al_nil)
    · intro LL xx ac wc sg hst hwant QQ hgo
      exact op_val hwant hgo hst _ (exec_assign rfl rfl) rfl
  · exact skips [] (by kernel_rfl) (fun _ h => by cases h)
  · intro xx ac1 wz hfr hsl hst
    exact hfin ac1 wz (hfr.size.trans hz) hfr.defers (fr_keep hfr [6] (by kernel_rfl)) (hsl 0 (by decide)) (Lib.hid hst)
set_option maxRecDepth 20000 in
theorem countsR_r3 (c : Cfg) (la : Option Addr) (lc : Nat) (l : List EntR) (now : Int) (hl : l.length ≤ 1000000) (b2 : Nat) (i : Nat) (ad : Option Addr) (cd : Nat) (hi : i ≤ l.length) {wa wb : World} (H : Hid (Hp [] wa wb [rA ad cd 136 4 (((l.take i).filter (keepR c now)).map entRow), rB b2 99 (rkL c (.slice la l.length lc)), rS la lc 4 (l.map entRow)])) (ac0 : Act) (hz : ac0.tmps.size = 37) (so2 : ac0.eval (.tmp 2) = .pointer (some ⟨b2, 0, none⟩)) (so6 : ac0.eval (.tmp 6) = .int .i64 i) {QR : Exit → Act → World → Prop} (hfin : ∀ (ac1 : Act) (wz : World), ac1.tmps.size = 37 → ac1.defers = ac0.defers → (∀ t, ([8, 9, 10, 11, 12] : List Nat).contains t = false → ac1.eval (.tmp t) = ac0.eval (.tmp t)) → ac1.eval (.tmp 12) = .bool (decide (i < l.length)) →  Hid (Hp [] wa wz [rA ad cd 136 4 (((l.take i).filter (keepR c now)).map entRow), rB b2 99 (rkL c (.slice la l.length lc)), rS la lc 4 (l.map entRow)]) → QR .normal ac1 wz) : (regAt Try.f58 3).wp Try.prog QR ac0 wb := by
  refine wp_region_sq (by kernel_rfl) 37 hz (by kernel_rfl) (fun (xx : Unit) jx => nth [.int .i64 i, .pointer (some ⟨b2, 18, none⟩), .slice la l.length lc, .int .i64 l.length, .bool (decide (i < l.length))] jx) (fun (LL : Nat → Bool) (xx : Unit) ww => Hp [] wa ww [rA ad cd 136 4 (((l.take i).filter (keepR c now)).map entRow), rB b2 99 (rkL c (.slice la l.length lc)), rS la lc 4 (l.map entRow)]) () H.out ?_ (steps_al ?_) ?_ ?_
  · exact fun _ _ _ _ _ h => h
  · refine al_cons ?_ (al_cons ?_ (al_cons ?_ (al_cons ?_ (al_cons ?_ (al_nil)))))
    · intro LL xx ac wc sg hst hwant QQ hgo
      exact op_val hwant hgo hst _ (exec_move rfl ((sg.free 6 (by kernel_rfl)).trans so6)) rfl
    · intro LL xx ac wc sg hst hwant QQ hgo
      have se2 : ac.eval (.tmp 2) = _ := ((sg.free 2 (by kernel_rfl)).trans so2)
      have sg2 := gt_of se2
      exact op_val hwant hgo hst _ (by simp only [execOp, nth]; go_simp <;> omega) rfl
    · intro LL xx ac wc sg hst hwant QQ hgo
      have H := Lib.hid hst
      refine hpA_load1 tyS_hoistwayref10_Entry H rfl (sg.slot 1 (sg.anc 1 rfl)) hwant (by (repeat (first | exact List.Mem.head _ | apply List.Mem.tail))) (by rfl) ?_
      exact hgo _ () _ (fun _ _ => rfl) rfl hst
    · intro LL xx ac wc sg hst hwant QQ hgo
      have se10 : ac.eval (.tmp 10) = _ := (sg.slot 2 (sg.anc 2 rfl))
      have sg10 := gt_of se10
      (try simp only [nth] at se10 sg10)
      exact op_val hwant hgo hst _ (by simp only [execOp, nth]; go_simp <;> omega) rfl
    · intro LL xx ac wc sg hst hwant QQ hgo
      have se8 : ac.eval (.tmp 8) = _ := (sg.slot 0 (sg.anc 0 rfl))
      have sg8 := gt_of se8
      have se11 : ac.eval (.tmp 11) = _ := (sg.slot 3 (sg.anc 3 rfl))
      have sg11 := gt_of se11
      (try simp only [nth] at se8 sg8 se11 sg11)
      exact op_val hwant hgo hst _ (by simp only [execOp, nth]; go_simp <;> omega) rfl
  · exact skips [] (by kernel_rfl) (fun _ h => by cases h)
  · intro xx ac1 wz hfr hsl hst
    exact hfin ac1 wz (hfr.size.trans hz) hfr.defers (fr_keep hfr [8, 9, 10, 11, 12] (by kernel_rfl)) (hsl 4 (by decide)) (Lib.hid hst)
set_option maxRecDepth 20000 in
theorem countsR_r5 (c : Cfg) (lc : Nat) (l : List EntR) (now : Int) (hl : l.length ≤ 1000000) (b2 : Nat) (i : Nat) (ad : Option Addr) (cd : Nat) (hi : i ≤ l.length) (z1d : i < l.length) (y : Addr) (x : EntR) (HRx : Hid ((l.map entRow)[i]? = some [.int .i64 x.who, .int .u64 x.key, .string x.body, .string x.answer])) (hx0 : 0 ≤ x.key) (hx1 : x.key ≤ 18446744073709551615) (hcl : ((l.take i).filter (keepR c now)).length ≤ i) {wa wb : World} (H : Hid (Hp [] wa wb [rA ad cd 136 4 (((l.take i).filter (keepR c now)).map entRow), rB b2 99 (rkL c (.slice (some y) l.length lc)), rS (some y) lc 4 (l.map entRow)])) (ac0 : Act) (hz : ac0.tmps.size = 37) (so1 : ac0.eval (.tmp 1) = .int .i64 now) (so2 : ac0.eval (.tmp 2) = .pointer (some ⟨b2, 0, none⟩)) (so6 : ac0.eval (.tmp 6) = .int .i64 i) {QR : Exit → Act → World → Prop} (hfin : ∀ (ac1 : Act) (wz : World), ac1.tmps.size = 37 → ac1.defers = ac0.defers → (∀ t, ([15, 16, 17, 18, 19, 20, 21, 22, 23, 24, 25, 26, 27] : List Nat).contains t = false → ac1.eval (.tmp t) = ac0.eval (.tmp t)) → ac1.eval (.tmp 27) = .bool (decide (now ≤ (IntKind.i64.wrap ((x.key / 4294967296) + c.window)))) →  Hid (Hp [] wa wz [rA ad cd 136 4 (((l.take i).filter (keepR c now)).map entRow), rB b2 99 (rkL c (.slice (some y) l.length lc)), rS (some y) lc 4 (l.map entRow)]) → QR .normal ac1 wz) : (regAt Try.f58 5).wp Try.prog QR ac0 wb := by
  refine wp_region_st mixedP ⟨[0, 0, 1, 0, 2, 3, 4, 5, 0, 1, 2, 6, 7], by kernel_rfl⟩ [[], [], [1], [], [1, 2, 3], [1, 2, 3, 4], [1, 2, 3, 4, 5], [1, 2, 3, 4, 5, 6], [], [8], [8, 9], [1, 2, 3, 4, 5, 6, 7, 8, 9, 10], [0, 1, 2, 3, 4, 5, 6, 7, 8, 9, 10, 11]] (by kernel_rfl) (by kernel_rfl) 37 hz (by kernel_rfl) (fun (xx : Unit) jx => nth [.int .i64 now, .pointer (some ⟨b2, 18, none⟩), .slice (some y) l.length lc, .int .i64 i, .pointer (some (y.add (i * 4))), .pointer (some ⟨(y.add (i * 4)).block, (y.add (i * 4)).off + 1, none⟩), .int .u64 x.key, .int .i64 (x.key / 4294967296), .pointer (some ⟨b2, 0, none⟩), .pointer (some ⟨b2, 6, none⟩), .int .i64 c.window, .int .i64 (IntKind.i64.wrap ((x.key / 4294967296) + c.window)), .bool (decide (now ≤ (IntKind.i64.wrap ((x.key / 4294967296) + c.window))))] jx) (fun (LL : Nat → Bool) (xx : Unit) ww => Hp [] wa ww [rA ad cd 136 4 (((l.take i).filter (keepR c now)).map entRow), rB b2 99 (rkL c (.slice (some y) l.length lc)), rS (some y) lc 4 (l.map entRow)]) () H.out.drew ?_ (steps_al ?_) ?_ ?_
  · exact fun _ _ _ _ _ h => h
  · refine al_cons ?_ (al_cons ?_ (al_cons ?_ (al_cons ?_ (al_cons ?_ (al_cons ?_ (al_cons ?_ (al_cons ?_ (al_cons ?_ (al_cons ?_ (al_cons ?_ (al_cons ?_ (al_cons ?_ (al_nil)))))))))))))
    · intro LL xx ac wc sg hst hwant QQ hgo
      exact op_val hwant hgo hst _ (exec_move rfl ((sg.free 1 (by kernel_rfl)).trans so1)) rfl
    · intro LL xx ac wc sg hst hwant QQ hgo
      have se2 : ac.eval (.tmp 2) = _ := ((sg.free 2 (by kernel_rfl)).trans so2)
      have sg2 := gt_of se2
      exact op_val hwant hgo hst _ (by simp only [execOp, nth]; go_simp <;> omega) rfl
    · intro LL xx ac wc sg hst hwant QQ hgo
      have H := Lib.hid hst
      refine hpA_load1 tyS_hoistwayref10_Entry H rfl (sg.slot 1 (sg.anc 1 rfl)) hwant (by (repeat (first | exact List.Mem.head _ | apply List.Mem.tail))) (by rfl) ?_
      exact hgo _ () _ (fun _ _ => rfl) rfl hst
    · intro LL xx ac wc sg hst hwant QQ hgo
      exact op_val hwant hgo hst _ (exec_move rfl ((sg.free 6 (by kernel_rfl)).trans so6)) rfl
    · intro LL xx ac wc sg hst hwant QQ hgo
      have se17 : ac.eval (.tmp 17) = _ := (sg.slot 2 (sg.anc 2 rfl))
      have sg17 := gt_of se17
      have se18 : ac.eval (.tmp 18) = _ := (sg.slot 3 (sg.anc 3 rfl))
      have sg18 := gt_of se18
      (try simp only [nth] at se17 sg17 se18 sg18)
      exact op_val hwant hgo hst _ (by simp only [execOp, nth]; go_simp <;> omega) rfl
    · intro LL xx ac wc sg hst hwant QQ hgo
      have se19 : ac.eval (.tmp 19) = _ := (sg.slot 4 (sg.anc 4 rfl))
      have sg19 := gt_of se19
      (try simp only [nth] at se19 sg19)
      exact op_val hwant hgo hst _ (by simp only [execOp, nth]; go_simp <;> omega) rfl
    · intro LL xx ac wc sg hst hwant QQ hgo
      have H := Lib.hid hst
      refine hpS_load1 1 tyuint64 H rfl (sg.slot 5 (sg.anc 5 rfl)) hwant (by (repeat (first | exact List.Mem.head _ | apply List.Mem.tail))) HRx.out (by rfl) (by simp [Addr.add]) ?_
      exact hgo _ () _ (fun _ _ => rfl) rfl hst
    · intro LL xx ac wc sg hst hwant QQ hgo
      have se21 : ac.eval (.tmp 21) = _ := (sg.slot 6 (sg.anc 6 rfl))
      have sg21 := gt_of se21
      (try simp only [nth] at se21 sg21)
      refine op_call hwant hgo 54 _ (by simp only [execOp]; go_simp) (stampR x.key wc hx0 hx1) ?_
      rintro er wd ⟨rfl, hof⟩
      exact ⟨_, (), rfl, fun _ _ => rfl, rfl, Hp.quiet hst hof⟩
    · intro LL xx ac wc sg hst hwant QQ hgo
      have se2 : ac.eval (.tmp 2) = _ := ((sg.free 2 (by kernel_rfl)).trans so2)
      have sg2 := gt_of se2
      exact op_val hwant hgo hst _ (by simp only [execOp, nth]; go_simp <;> omega) rfl
    · intro LL xx ac wc sg hst hwant QQ hgo
      have se23 : ac.eval (.tmp 23) = _ := (sg.slot 8 (sg.anc 8 rfl))
      have sg23 := gt_of se23
      (try simp only [nth] at se23 sg23)
      exact op_val hwant hgo hst _ (by simp only [execOp, nth]; go_simp <;> omega) rfl
    · intro LL xx ac wc sg hst hwant QQ hgo
      have H := Lib.hid hst
      refine hpA_load1 tyint H rfl (sg.slot 9 (sg.anc 9 rfl)) hwant (by (repeat (first | exact List.Mem.head _ | apply List.Mem.tail))) (by rfl) ?_
      exact hgo _ () _ (fun _ _ => rfl) rfl hst
    · intro LL xx ac wc sg hst hwant QQ hgo
      have se22 : ac.eval (.tmp 22) = _ := (sg.slot 7 (sg.anc 7 rfl))
      have sg22 := gt_of se22
      have se25 : ac.eval (.tmp 25) = _ := (sg.slot 10 (sg.anc 10 rfl))
      have sg25 := gt_of se25
      (try simp only [nth] at se22 sg22 se25 sg25)
      exact op_val hwant hgo hst _ (by simp only [execOp, nth]; go_simp <;> omega) rfl
    · intro LL xx ac wc sg hst hwant QQ hgo
      have se15 : ac.eval (.tmp 15) = _ := (sg.slot 0 (sg.anc 0 rfl))
      have sg15 := gt_of se15
      have se26 : ac.eval (.tmp 26) = _ := (sg.slot 11 (sg.anc 11 rfl))
      have sg26 := gt_of se26
      (try simp only [nth] at se15 sg15 se26 sg26)
      exact op_val hwant hgo hst _ (by simp only [execOp, nth]; go_simp <;> omega) rfl
  · exact skips [] (by kernel_rfl) (fun _ h => by cases h)
  · intro xx ac1 wz hfr hsl hst
    exact hfin ac1 wz (hfr.size.trans hz) hfr.defers (fr_keep hfr [15, 16, 17, 18, 19, 20, 21, 22, 23, 24, 25, 26, 27] (by kernel_rfl)) (hsl 12 (by decide)) (Lib.hid hst)
set_option maxRecDepth 20000 in
theorem countsR_r6 (c : Cfg) (lc : Nat) (l : List EntR) (now : Int) (hl : l.length ≤ 1000000) (b2 : Nat) (i : Nat) (ad : Option Addr) (cd : Nat) (hi : i ≤ l.length) (z1d : i < l.length) (y : Addr) (x : EntR) (HRx : Hid ((l.map entRow)[i]? = some [.int .i64 x.who, .int .u64 x.key, .string x.body, .string x.answer])) (hx0 : 0 ≤ x.key) (hx1 : x.key ≤ 18446744073709551615) (hcl : ((l.take i).filter (keepR c now)).length ≤ i) (z2d : now ≤ (IntKind.i64.wrap ((x.key / 4294967296) + c.window))) {wa wb : World} (H : Hid (Hp [] wa wb [rA ad cd 136 4 (((l.take i).filter (keepR c now)).map entRow), rB b2 99 (rkL c (.slice (some y) l.length lc)), rS (some y) lc 4 (l.map entRow)])) (ac0 : Act) (hz : ac0.tmps.size = 37) (so2 : ac0.eval (.tmp 2) = .pointer (some ⟨b2, 0, none⟩)) (so5 : ac0.eval (.tmp 5) = .slice ad (((l.take i).filter (keepR c now)).length) cd) (so6 : ac0.eval (.tmp 6) = .int .i64 i) {QR : Exit → Act → World → Prop} (hfin : ∀ (b34 : Nat) (a35 : Option Addr) (c35 : Nat) (ac1 : Act) (wz : World), ac1.tmps.size = 37 → ac1.defers = ac0.defers → (∀ t, ([5, 28, 29, 30, 31, 32, 33, 34, 35] : List Nat).contains t = false → ac1.eval (.tmp t) = ac0.eval (.tmp t)) → ac1.eval (.tmp 5) = .slice a35 ((((l.take i).filter (keepR c now)) ++ [x]).length) c35 →  Hid (Hp [] wa wz [rB b34 136 [.int .i64 x.who, .int .u64 x.key, .string x.body, .string x.answer], rA a35 c35 136 4 ((((l.take i).filter (keepR c now)) ++ [x]).map entRow), rB b2 99 (rkL c (.slice (some y) l.length lc)), rS (some y) lc 4 (l.map entRow)]) → QR .normal ac1 wz) : (regAt Try.f58 6).wp Try.prog QR ac0 wb := by
  refine wp_region_sq (by kernel_rfl) 37 hz (by kernel_rfl) (fun (xx : Nat × Option Addr × Nat) jx => match xx with | (b34, a35, c35) => nth [.slice ad (((l.take i).filter (keepR c now)).length) cd, .pointer (some ⟨b2, 18, none⟩), .slice (some y) l.length lc, .int .i64 i, .pointer (some (y.add (i * 4))), .agg #[.int .i64 x.who, .int .u64 x.key, .string x.body, .string x.answer], .slice (some ⟨b34, 0, none⟩) 1 1, .slice a35 ((((l.take i).filter (keepR c now)) ++ [x]).length) c35, .slice a35 ((((l.take i).filter (keepR c now)) ++ [x]).length) c35] jx) (fun (LL : Nat → Bool) (xx : Nat × Option Addr × Nat) ww => match xx with | (b34, a35, c35) => Hp [] wa ww (bif LL 7 then [rB b34 136 [.int .i64 x.who, .int .u64 x.key, .string x.body, .string x.answer], rA a35 c35 136 4 ((((l.take i).filter (keepR c now)) ++ [x]).map entRow), rB b2 99 (rkL c (.slice (some y) l.length lc)), rS (some y) lc 4 (l.map entRow)] else (bif LL 6 then [rB b34 136 [.int .i64 x.who, .int .u64 x.key, .string x.body, .string x.answer], rA ad cd 136 4 (((l.take i).filter (keepR c now)).map entRow), rB b2 99 (rkL c (.slice (some y) l.length lc)), rS (some y) lc 4 (l.map entRow)] else [rA ad cd 136 4 (((l.take i).filter (keepR c now)).map entRow), rB b2 99 (rkL c (.slice (some y) l.length lc)), rS (some y) lc 4 (l.map entRow)]))) (default, default, default) H.out ?_ (steps_al ?_) ?_ ?_
  · intro L1 L2 xx ww hL sg
    have lh6 := hL 6 (by decide)
    have lh7 := hL 7 (by decide)
    simp only [lh6, lh7] at sg
    exact sg
  · refine al_cons ?_ (al_cons ?_ (al_cons ?_ (al_cons ?_ (al_cons ?_ (al_cons ?_ (al_cons ?_ (al_cons ?_ (al_cons ?_ (al_nil)))))))))
    · intro LL xx ac wc sg hst hwant QQ hgo
      obtain ⟨b34, a35, c35⟩ := xx
      exact op_val hwant hgo hst _ (exec_move rfl ((sg.yet 5 8 (sg.des 8 rfl) (by kernel_rfl)).trans so5)) rfl
    · intro LL xx ac wc sg hst hwant QQ hgo
      obtain ⟨b34, a35, c35⟩ := xx
      have se2 : ac.eval (.tmp 2) = _ := ((sg.free 2 (by kernel_rfl)).trans so2)
      have sg2 := gt_of se2
      exact op_val hwant hgo hst _ (by simp only [execOp, nth]; go_simp <;> omega) rfl
    · intro LL xx ac wc sg hst hwant QQ hgo
      obtain ⟨b34, a35, c35⟩ := xx
      have H := Lib.hid hst
      simp only [sg.des 6 rfl, sg.des 7 rfl, cond_true, cond_false] at H
      refine hpA_load1 tyS_hoistwayref10_Entry H rfl (sg.slot 1 (sg.anc 1 rfl)) hwant (by (repeat (first | exact List.Mem.head _ | apply List.Mem.tail))) (by rfl) ?_
      exact hgo _ (b34, a35, c35) _ (fun _ _ => rfl) rfl hst
    · intro LL xx ac wc sg hst hwant QQ hgo
      obtain ⟨b34, a35, c35⟩ := xx
      exact op_val hwant hgo hst _ (exec_move rfl ((sg.free 6 (by kernel_rfl)).trans so6)) rfl
    · intro LL xx ac wc sg hst hwant QQ hgo
      obtain ⟨b34, a35, c35⟩ := xx
      have se30 : ac.eval (.tmp 30) = _ := (sg.slot 2 (sg.anc 2 rfl))
      have sg30 := gt_of se30
      have se31 : ac.eval (.tmp 31) = _ := (sg.slot 3 (sg.anc 3 rfl))
      have sg31 := gt_of se31
      (try simp only [nth] at se30 sg30 se31 sg31)
      exact op_val hwant hgo hst _ (by simp only [execOp, nth]; go_simp <;> omega) rfl
    · intro LL xx ac wc sg hst hwant QQ hgo
      obtain ⟨b34, a35, c35⟩ := xx
      have H := Lib.hid hst
      simp only [sg.des 6 rfl, sg.des 7 rfl, cond_true, cond_false] at H
      refine hpS_load tyhoistwayref10_Entry H rfl (sg.slot 4 (sg.anc 4 rfl)) hwant (by (repeat (first | exact List.Mem.head _ | apply List.Mem.tail))) HRx.out rfl ?_
      exact hgo _ (b34, a35, c35) _ (fun _ _ => rfl) rfl hst
    · intro LL xx ac wc sg hst hwant QQ hgo
      obtain ⟨_, a35, c35⟩ := xx
      have se33 : ac.eval (.tmp 33) = _ := (sg.slot 5 (sg.anc 5 rfl))
      have sg33 := gt_of se33
      (try simp only [nth] at se33 sg33)
      have H := Lib.hid hst
      simp only [sg.self, sg.des 7 rfl, cond_true, cond_false] at H
      refine hpA_bslice Try.underlying97 tyhoistwayref10_Entry H rfl rfl (by decide) (by decide) (by first | (go_simp; rfl) | rfl | (simp; rfl)) ?_
      intro wd b34 H2
      exact hgo _ (b34, a35, c35) _ (sg.agree (x' := (b34, a35, c35)) (n := 9) rfl (by (iterate 9 (refine ix_cons (by first | exact fun _ => rfl | exact no sg.self | exact no (sg.des _ rfl)) ?_)); exact ix_nil)) rfl (by simp only [(show upd LL 6 6 = true from rfl), (show upd LL 6 7 = LL 7 from rfl), sg.des 7 rfl, cond_true, cond_false]; exact H2.out)
    · intro LL xx ac wc sg hst hwant QQ hgo
      obtain ⟨b34, _, _⟩ := xx
      have H := Lib.hid hst
      simp only [sg.anc 6 rfl, sg.self, cond_true, cond_false] at H
      refine hp_append (news := [entRow x]) elEnt H rfl rfl 1 rfl (sg.slot 0 (sg.anc 0 rfl)) (by simp) (sg.slot 6 (sg.anc 6 rfl)) rfl (hp_single (e := 136) H (by (repeat (first | exact List.Mem.head _ | apply List.Mem.tail))) rfl (by simp [entRow, Value.oneCell'])) (by simp; omega) (by decide) ?_
      intro wd a35 c35 H2
      rw [show ((l.take i).filter (keepR c now)).map entRow ++ [entRow x] = (((l.take i).filter (keepR c now)) ++ [x]).map entRow by simp] at H2 ⊢
      rw [List.length_map]
      exact hgo _ (b34, a35, c35) _ (sg.agree (x' := (b34, a35, c35)) (n := 9) rfl (by (iterate 9 (refine ix_cons (by first | exact fun _ => rfl | exact no sg.self | exact no (sg.des _ rfl)) ?_)); exact ix_nil)) rfl (by simp only [(show upd LL 7 6 = LL 6 from rfl), sg.anc 6 rfl, (show upd LL 7 7 = true from rfl), cond_true, cond_false]; exact H2.out)
    · intro LL xx ac wc sg hst hwant QQ hgo
      obtain ⟨b34, a35, c35⟩ := xx
      exact op_val hwant hgo hst _ (exec_assign rfl (sg.slot 7 (sg.anc 7 rfl))) rfl
  · exact skips [] (by kernel_rfl) (fun _ h => by cases h)
  · intro xx ac1 wz hfr hsl hst
    obtain ⟨b34, a35, c35⟩ := xx
    exact hfin b34 a35 c35 ac1 wz (hfr.size.trans hz) hfr.defers (fr_keep hfr [5, 28, 29, 30, 31, 32, 33, 34, 35] (by kernel_rfl)) (hsl 8 (by decide)) (Lib.hid hst)
set_option maxRecDepth 20000 in
theorem countsR_r4 (c : Cfg) (lc : Nat) (l : List EntR) (now : Int) (hl : l.length ≤ 1000000) (b2 : Nat) (i : Nat) (hi : i ≤ l.length) (z1d : i < l.length) (y : Addr) (x : EntR) (hx0 : 0 ≤ x.key) (hx1 : x.key ≤ 18446744073709551615) (hcl : ((l.take i).filter (keepR c now)).length ≤ i) (z2d : now ≤ (IntKind.i64.wrap ((x.key / 4294967296) + c.window))) (b34 : Nat) (a35 : Option Addr) (c35 : Nat) {wa wb : World} (H : Hid (Hp [] wa wb [rB b34 136 [.int .i64 x.who, .int .u64 x.key, .string x.body, .string x.answer], rA a35 c35 136 4 ((((l.take i).filter (keepR c now)) ++ [x]).map entRow), rB b2 99 (rkL c (.slice (some y) l.length lc)), rS (some y) lc 4 (l.map entRow)])) (ac0 : Act) (hz : ac0.tmps.size = 37) (so6 : ac0.eval (.tmp 6) = .int .i64 i) {QR : Exit → Act → World → Prop} (hfin : ∀ (ac1 : Act) (wz : World), ac1.tmps.size = 37 → ac1.defers = ac0.defers → (∀ t, ([6, 13, 14] : List Nat).contains t = false → ac1.eval (.tmp t) = ac0.eval (.tmp t)) → ac1.eval (.tmp 6) = .int .i64 (i + 1) →  Hid (Hp [] wa wz [rB b34 136 [.int .i64 x.who, .int .u64 x.key, .string x.body, .string x.answer], rA a35 c35 136 4 ((((l.take i).filter (keepR c now)) ++ [x]).map entRow), rB b2 99 (rkL c (.slice (some y) l.length lc)), rS (some y) lc 4 (l.map entRow)]) → QR .normal ac1 wz) : (regAt Try.f58 4).wp Try.prog QR ac0 wb := by
  refine wp_region_sq (by kernel_rfl) 37 hz (by kernel_rfl) (fun (xx : Unit) jx => nth [.int .i64 i, .int .i64 (i + 1), .int .i64 (i + 1)] jx) (fun (LL : Nat → Bool) (xx : Unit) ww => Hp [] wa ww [rB b34 136 [.int .i64 x.who, .int .u64 x.key, .string x.body, .string x.answer], rA a35 c35 136 4 ((((l.take i).filter (keepR c now)) ++ [x]).map entRow), rB b2 99 (rkL c (.slice (some y) l.length lc)), rS (some y) lc 4 (l.map entRow)]) () H.out ?_ (steps_al ?_) ?_ ?_
  · exact fun _ _ _ _ _ h => h
  · refine al_cons ?_ (al_cons ?_ (al_cons ?_ (al_nil)))
    · intro LL xx ac wc sg hst hwant QQ hgo
      exact op_val hwant hgo hst _ (exec_move rfl ((sg.yet 6 2 (sg.des 2 rfl) (by kernel_rfl)).trans so6)) rfl
    · intro LL xx ac wc sg hst hwant QQ hgo
      have se13 : ac.eval (.tmp 13) = _ := (sg.slot 0 (sg.anc 0 rfl))
      have sg13 := gt_of se13
      (try simp only [nth] at se13 sg13)
      have hnw : IntKind.i64.wrap (i + 1 : Int) = i + 1 := IntWalk.i64_in _ (by omega)
      exact op_val hwant hgo hst _ (by simp only [execOp, nth]; go_simp <;> omega) rfl
    · intro LL xx ac wc sg hst hwant QQ hgo
      exact op_val hwant hgo hst _ (exec_assign rfl (sg.slot 1 (sg.anc 1 rfl))) rfl
  · exact skips [] (by kernel_rfl) (fun _ h => by cases h)
  · intro xx ac1 wz hfr hsl hst
    exact hfin ac1 wz (hfr.size.trans hz) hfr.defers (fr_keep hfr [6, 13, 14] (by kernel_rfl)) (hsl 2 (by decide)) (Lib.hid hst)
set_option maxRecDepth 20000 in
theorem countsR_r4x1 (c : Cfg) (lc : Nat) (l : List EntR) (now : Int) (hl : l.length ≤ 1000000) (b2 : Nat) (i : Nat) (ad : Option Addr) (cd : Nat) (hi : i ≤ l.length) (z1d : i < l.length) (y : Addr) (x : EntR) (hx0 : 0 ≤ x.key) (hx1 : x.key ≤ 18446744073709551615) (hcl : ((l.take i).filter (keepR c now)).length ≤ i) (z2d : ¬ (now ≤ (IntKind.i64.wrap ((x.key / 4294967296) + c.window)))) {wa wb : World} (H : Hid (Hp [] wa wb [rA ad cd 136 4 (((l.take i).filter (keepR c now)).map entRow), rB b2 99 (rkL c (.slice (some y) l.length lc)), rS (some y) lc 4 (l.map entRow)])) (ac0 : Act) (hz : ac0.tmps.size = 37) (so6 : ac0.eval (.tmp 6) = .int .i64 i) {QR : Exit → Act → World → Prop} (hfin : ∀ (ac1 : Act) (wz : World), ac1.tmps.size = 37 → ac1.defers = ac0.defers → (∀ t, ([6, 13, 14] : List Nat).contains t = false → ac1.eval (.tmp t) = ac0.eval (.tmp t)) → ac1.eval (.tmp 6) = .int .i64 (i + 1) →  Hid (Hp [] wa wz [rA ad cd 136 4 (((l.take i).filter (keepR c now)).map entRow), rB b2 99 (rkL c (.slice (some y) l.length lc)), rS (some y) lc 4 (l.map entRow)]) → QR .normal ac1 wz) : (regAt Try.f58 4).wp Try.prog QR ac0 wb := by
  refine wp_region_sq (by kernel_rfl) 37 hz (by kernel_rfl) (fun (xx : Unit) jx => nth [.int .i64 i, .int .i64 (i + 1), .int .i64 (i + 1)] jx) (fun (LL : Nat → Bool) (xx : Unit) ww => Hp [] wa ww [rA ad cd 136 4 (((l.take i).filter (keepR c now)).map entRow), rB b2 99 (rkL c (.slice (some y) l.length lc)), rS (some y) lc 4 (l.map entRow)]) () H.out ?_ (steps_al ?_) ?_ ?_
  · exact fun _ _ _ _ _ h => h
  · refine al_cons ?_ (al_cons ?_ (al_cons ?_ (al_nil)))
    · intro LL xx ac wc sg hst hwant QQ hgo
      exact op_val hwant hgo hst _ (exec_move rfl ((sg.yet 6 2 (sg.des 2 rfl) (by kernel_rfl)).trans so6)) rfl
    · intro LL xx ac wc sg hst hwant QQ hgo
      have se13 : ac.eval (.tmp 13) = _ := (sg.slot 0 (sg.anc 0 rfl))
      have sg13 := gt_of se13
      (try simp only [nth] at se13 sg13)
      have hnw : IntKind.i64.wrap (i + 1 : Int) = i + 1 := IntWalk.i64_in _ (by omega)
      exact op_val hwant hgo hst _ (by simp only [execOp, nth]; go_simp <;> omega) rfl
    · intro LL xx ac wc sg hst hwant QQ hgo
      exact op_val hwant hgo hst _ (exec_assign rfl (sg.slot 1 (sg.anc 1 rfl))) rfl
  · exact skips [] (by kernel_rfl) (fun _ h => by cases h)
  · intro xx ac1 wz hfr hsl hst
    exact hfin ac1 wz (hfr.size.trans hz) hfr.defers (fr_keep hfr [6, 13, 14] (by kernel_rfl)) (hsl 2 (by decide)) (Lib.hid hst)
set_option maxRecDepth 20000 in
theorem countsR_r7 (c : Cfg) (la : Option Addr) (lc : Nat) (l : List EntR) (now : Int) (hl : l.length ≤ 1000000) (b2 : Nat) (ad : Option Addr) (cd : Nat) (hi : l.length ≤ l.length) {wa wb : World} (H : Hid (Hp [] wa wb [rA ad cd 136 4 ((l.filter (keepR c now)).map entRow), rB b2 99 (rkL c (.slice la l.length lc)), rS la lc 4 (l.map entRow)])) (ac0 : Act) (hz : ac0.tmps.size = 37) (so5 : ac0.eval (.tmp 5) = .slice ad ((l.filter (keepR c now)).length) cd) {QR : Exit → Act → World → Prop} (hfin : ∀ (ac1 : Act) (wz : World), ac1.tmps.size = 37 → ac1.defers = ac0.defers → (∀ t, ([4, 36] : List Nat).contains t = false → ac1.eval (.tmp t) = ac0.eval (.tmp t)) → ac1.eval (.tmp 4) = .slice ad ((l.filter (keepR c now)).length) cd →  Hid (Hp [] wa wz [rA ad cd 136 4 ((l.filter (keepR c now)).map entRow), rB b2 99 (rkL c (.slice la l.length lc)), rS la lc 4 (l.map entRow)]) → QR .normal ac1 wz) : (regAt Try.f58 7).wp Try.prog QR ac0 wb := by
  refine wp_region_sq (by kernel_rfl) 37 hz (by kernel_rfl) (fun (xx : Unit) jx => nth [.slice ad ((l.filter (keepR c now)).length) cd, .slice ad ((l.filter (keepR c now)).length) cd] jx) (fun (LL : Nat → Bool) (xx : Unit) ww => Hp [] wa ww [rA ad cd 136 4 ((l.filter (keepR c now)).map entRow), rB b2 99 (rkL c (.slice la l.length lc)), rS la lc 4 (l.map entRow)]) () H.out ?_ (steps_al ?_) ?_ ?_
  · exact fun _ _ _ _ _ h => h
  · refine al_cons ?_ (al_cons ?_ (al_nil))
    · intro LL xx ac wc sg hst hwant QQ hgo
      exact op_val hwant hgo hst _ (exec_move rfl ((sg.free 5 (by kernel_rfl)).trans so5)) rfl
    · intro LL xx ac wc sg hst hwant QQ hgo
      exact op_val hwant hgo hst _ (exec_assign rfl (sg.slot 0 (sg.anc 0 rfl))) rfl
  · exact skips [] (by kernel_rfl) (fun _ h => by cases h)
  · intro xx ac1 wz hfr hsl hst
    exact hfin ac1 wz (hfr.size.trans hz) hfr.defers (fr_keep hfr [4, 36] (by kernel_rfl)) (hsl 1 (by decide)) (Lib.hid hst)
set_option maxRecDepth 20000 in
theorem countsR (c : Cfg) (la : Option Addr) (lc : Nat) (l : List EntR) (now : Int) (w : World) (h : (rS la lc 4 (l.map entRow)).holds w) (hl : l.length ≤ 1000000) (hok : Hid (∀ e ∈ l, 0 ≤ e.key ∧ e.key ≤ 18446744073709551615)) : Calls Try.prog 58 #[.agg (rkA c (.slice la l.length lc)), .int .i64 now] w fun e w' => ∃ a' c', e = .returned (.slice a' (l.filter (keepR c now)).length c') ∧ (rA a' c' 136 4 ((l.filter (keepR c now)).map entRow)).holds w' ∧ (∀ q ∈ footA a', w.heap.size ≤ q) ∧ Off [] w w' := by
  have H := Lib.hid (Hp.start [] w)
  have H := hp_old H h (by decide)
  clear h
  refine calls_start Try.func58 rfl 37 rfl (by simp) (fun aa nn dd sl => ?_)
  have ss0 : aa.eval (.tmp 0) = .agg (rkA c (.slice la l.length lc)) := sl 0 (by simp)
  have ss1 : aa.eval (.tmp 1) = .int .i64 now := sl 1 (by simp)
  clear sl
  refine wp_seq_k fun KK1 hK1 => ?_
  refine countsR_r0 c la lc l hl H aa nn ss0 ?_
  clear H nn
  intro b2 aa ww nn dd1 kp ss2 ss4 H
  replace ss0 := (kp 0 rfl).trans ss0
  replace ss1 := (kp 1 rfl).trans ss1
  replace dd := dd1.trans dd
  clear dd1 kp
  refine then_normal ?_
  refine hK1 _ _ ?_
  refine wp_seq_k fun KK2 hK2 => ?_
  refine countsR_r1 c la lc l hl b2 H aa nn  ?_
  clear H nn
  intro b7 aa ww nn dd1 kp ss5 H
  replace ss0 := (kp 0 rfl).trans ss0
  replace ss1 := (kp 1 rfl).trans ss1
  replace ss2 := (kp 2 rfl).trans ss2
  replace ss4 := (kp 4 rfl).trans ss4
  replace dd := dd1.trans dd
  clear dd1 kp
  refine then_normal ?_
  refine hK2 _ _ ?_
  refine wp_seq_k fun KK3 hK3 => ?_
  refine wp_seq_k fun KK4 hK4 => ?_
  refine countsR_r2 c la lc l hl b2 b7 H aa nn  ?_
  clear H nn
  intro aa ww nn dd1 kp ss6 H
  replace ss0 := (kp 0 rfl).trans ss0
  replace ss1 := (kp 1 rfl).trans ss1
  replace ss2 := (kp 2 rfl).trans ss2
  replace ss4 := (kp 4 rfl).trans ss4
  replace ss5 := (kp 5 rfl).trans ss5
  replace dd := dd1.trans dd
  clear dd1 kp
  refine then_normal ?_
  refine hK4 _ _ ?_
  refine wp_block ?_
  refine wp_loop (fun ab wv => ∃ i : Nat, ∃ ad : Option Addr, ∃ cd : Nat, i ≤ l.length ∧ ab.tmps.size = 37 ∧ ab.defers = [] ∧ ab.eval (.tmp 0) = .agg (rkA c (.slice la l.length lc)) ∧ ab.eval (.tmp 1) = .int .i64 now ∧ ab.eval (.tmp 2) = .pointer (some ⟨b2, 0, none⟩) ∧ ab.eval (.tmp 4) = .slice none 0 0 ∧ ab.eval (.tmp 5) = .slice ad (((l.take i).filter (keepR c now)).length) cd ∧ ab.eval (.tmp 6) = .int .i64 i ∧ Hid (Hp [] w wv [rA ad cd 136 4 (((l.take i).filter (keepR c now)).map entRow), rB b2 99 (rkL c (.slice la l.length lc)), rS la lc 4 (l.map entRow)])) (fun ab _ => l.length - (intOf (ab.eval (.tmp 6))).toNat) ⟨0, (some ⟨b7, 0, none⟩), 0, (Nat.zero_le _), nn, dd, ss0, ss1, ss2, ss4, ss5, ss6, H⟩ (fun aa wv hI => ?_)
  clear H nn dd ss0 ss1 ss2 ss4 ss5 ss6
  obtain ⟨i, ad, cd, hi, nn, dd, ss0, ss1, ss2, ss4, ss5, ss6, H⟩ := hI
  have mu1_6 := ss6
  refine wp_seq_k fun KK5 hK5 => ?_
  refine wp_seq_k fun KK6 hK6 => ?_
  refine countsR_r3 c la lc l now hl b2 i ad cd hi H aa nn ss2 ss6 ?_
  clear H nn
  intro aa ww nn dd1 kp ss12 H
  replace ss0 := (kp 0 rfl).trans ss0
  replace ss1 := (kp 1 rfl).trans ss1
  replace ss2 := (kp 2 rfl).trans ss2
  replace ss4 := (kp 4 rfl).trans ss4
  replace ss5 := (kp 5 rfl).trans ss5
  replace ss6 := (kp 6 rfl).trans ss6
  replace dd := dd1.trans dd
  clear dd1 kp
  refine then_normal ?_
  refine hK6 _ _ ?_
  refine wp_cond_split ss12 (fun z1 => ?_) (fun z1 => ?_)
  · skip
    have z1d : i < l.length := of_decide_eq_true z1
    obtain ⟨y, rfl⟩ := some_of_row (hp_held H (show rS la lc 4 (l.map entRow) ∈ _ by simp)) (i := i) (by simpa using z1d)
    obtain ⟨x, hx⟩ : ∃ x, l[i]? = some x := ⟨l[i], List.getElem?_eq_getElem (by omega)⟩
    have HRx := Lib.hid (show (l.map entRow)[i]? = some [.int .i64 x.who, .int .u64 x.key, .string x.body, .string x.answer] by rw [List.getElem?_map, hx]; rfl)
    have HXx := Lib.hid hx
    clear hx
    have hx0 : 0 ≤ x.key := (hok.out x (List.mem_of_getElem? HXx.out)).1
    have hx1 : x.key ≤ 18446744073709551615 := (hok.out x (List.mem_of_getElem? HXx.out)).2
    have hcl := take_le l (keepR c now) i
    refine wp_skip ?_
    refine then_normal ?_
    refine hK5 _ _ ?_
    refine wp_seq_k fun KK7 hK7 => ?_
    refine wp_block ?_
    refine wp_seq_k fun KK8 hK8 => ?_
    refine countsR_r5 c lc l now hl b2 i ad cd hi z1d y x HRx hx0 hx1 hcl H aa nn ss1 ss2 ss6 ?_
    clear H nn
    intro aa ww nn dd1 kp ss27 H
    replace ss0 := (kp 0 rfl).trans ss0
    replace ss1 := (kp 1 rfl).trans ss1
    replace ss2 := (kp 2 rfl).trans ss2
    replace ss4 := (kp 4 rfl).trans ss4
    replace ss5 := (kp 5 rfl).trans ss5
    replace ss6 := (kp 6 rfl).trans ss6
    replace ss12 := (kp 12 rfl).trans ss12
    replace dd := dd1.trans dd
    clear dd1 kp
    refine then_normal ?_
    refine hK8 _ _ ?_
    refine wp_cond_split ss27 (fun z2 => ?_) (fun z2 => ?_)
    · skip
      have z2d : now ≤ (IntKind.i64.wrap ((x.key / 4294967296) + c.window)) := of_decide_eq_true z2
      refine countsR_r6 c lc l now hl b2 i ad cd hi z1d y x HRx hx0 hx1 hcl z2d H aa nn ss2 ss5 ss6 ?_
      clear H nn ss5
      intro b34 a35 c35 aa ww nn dd1 kp ss5 H
      replace ss0 := (kp 0 rfl).trans ss0
      replace ss1 := (kp 1 rfl).trans ss1
      replace ss2 := (kp 2 rfl).trans ss2
      replace ss4 := (kp 4 rfl).trans ss4
      replace ss6 := (kp 6 rfl).trans ss6
      replace ss12 := (kp 12 rfl).trans ss12
      replace ss27 := (kp 27 rfl).trans ss27
      replace dd := dd1.trans dd
      clear dd1 kp
      refine block_normal ?_
      refine then_normal ?_
      refine hK7 _ _ ?_
      refine countsR_r4 c lc l now hl b2 i hi z1d y x hx0 hx1 hcl z2d b34 a35 c35 H aa nn ss6 ?_
      clear H nn ss6
      intro aa ww nn dd1 kp ss6 H
      replace ss0 := (kp 0 rfl).trans ss0
      replace ss1 := (kp 1 rfl).trans ss1
      replace ss2 := (kp 2 rfl).trans ss2
      replace ss4 := (kp 4 rfl).trans ss4
      replace ss5 := (kp 5 rfl).trans ss5
      replace ss12 := (kp 12 rfl).trans ss12
      replace ss27 := (kp 27 rfl).trans ss27
      replace dd := dd1.trans dd
      clear dd1 kp
      refine then_normal ?_
      have hT := take_yes (f := keepR c now) HXx.out z2
      rw [← hT] at ss5 H
      replace H := hp_front H 3 rfl
      replace H := hp_front H 3 rfl
      replace H := hp_front H 3 rfl
      refine ⟨⟨i + 1, a35, c35, (by omega), nn, dd, ss0, ss1, ss2, ss4, ss5, ss6, (hp_take H 3)⟩, ?_⟩
      simp only [mu1_6, ss6, intOf]
      omega
    · skip
      have z2d : ¬ (now ≤ (IntKind.i64.wrap ((x.key / 4294967296) + c.window))) := of_decide_eq_false z2
      refine wp_skip ?_
      refine block_normal ?_
      refine then_normal ?_
      refine hK7 _ _ ?_
      refine countsR_r4x1 c lc l now hl b2 i ad cd hi z1d y x hx0 hx1 hcl z2d H aa nn ss6 ?_
      clear H nn ss6
      intro aa ww nn dd1 kp ss6 H
      replace ss0 := (kp 0 rfl).trans ss0
      replace ss1 := (kp 1 rfl).trans ss1
      replace ss2 := (kp 2 rfl).trans ss2
      replace ss4 := (kp 4 rfl).trans ss4
      replace ss5 := (kp 5 rfl).trans ss5
      replace ss12 := (kp 12 rfl).trans ss12
      replace ss27 := (kp 27 rfl).trans ss27
      replace dd := dd1.trans dd
      clear dd1 kp
      refine then_normal ?_
      have hT := take_no (f := keepR c now) HXx.out z2
      rw [← hT] at ss5 H
      replace H := hp_front H 2 rfl
      replace H := hp_front H 2 rfl
      replace H := hp_front H 2 rfl
      refine ⟨⟨i + 1, ad, cd, (by omega), nn, dd, ss0, ss1, ss2, ss4, ss5, ss6, (hp_take H 3)⟩, ?_⟩
      simp only [mu1_6, ss6, intOf]
      omega
  · skip
    have z1d : ¬ (i < l.length) := of_decide_eq_false z1
    obtain rfl : i = l.length := by omega
    rw [List.take_length] at ss5 H
    refine wp_exit ?_
    refine then_exit ?_
    refine then_exit ?_
    refine block_exit ?_
    refine then_normal ?_
    refine hK3 _ _ ?_
    refine wp_seq_k fun KK9 hK9 => ?_
    refine countsR_r7 c la lc l now hl b2 ad cd hi H aa nn ss5 ?_
    clear H nn ss4
    intro aa ww nn dd1 kp ss4 H
    replace ss0 := (kp 0 rfl).trans ss0
    replace ss1 := (kp 1 rfl).trans ss1
    replace ss2 := (kp 2 rfl).trans ss2
    replace ss5 := (kp 5 rfl).trans ss5
    replace ss6 := (kp 6 rfl).trans ss6
    replace ss12 := (kp 12 rfl).trans ss12
    replace dd := dd1.trans dd
    clear dd1 kp
    refine then_normal ?_
    refine hK9 _ _ ?_
    refine wp_ret ?_
    exact ret1 rfl dd ss4 (by obtain ⟨g1, g2, g3⟩ := hp_giveA H (show rA ad cd 136 4 ((l.filter (keepR c now)).map entRow) ∈ _ by (repeat (first | exact List.Mem.head _ | apply List.Mem.tail))); exact ⟨_, _, rfl, g1, g2, g3⟩)
theorem find_next {α : Type} {f : α → Bool} {l : List α} {j : Nat} {x : α} (h : ∀ k, k < j → ∀ y, l[k]? = some y → f y = false) (hx : l[j]? = some x) (hf : f x = false) : ∀ k, k < j + 1 → ∀ y, l[k]? = some y → f y = false := fun k hk y hy => by
  rcases Nat.lt_or_ge k j with h1 | h1
  · exact h k h1 y hy
  · obtain rfl : k = j := by omega
    rw [hx] at hy
    exact Option.some.inj hy ▸ hf
set_option maxRecDepth 20000 in
theorem lookRC_r0 (c : Cfg) (la : Option Addr) (lc : Nat) (l : List EntR) (key : Int) (hk0 : 0 ≤ key) (hk1 : key ≤ 18446744073709551615) (hl : l.length ≤ 1000000) {wa wb : World} (H : Hid (Hp [] wa wb [rS la lc 4 (l.map entRow)])) (ac0 : Act) (hz : ac0.tmps.size = 79) (so0 : ac0.eval (.tmp 0) = .agg (rkA c (.slice la l.length lc))) {QR : Exit → Act → World → Prop} (hfin : ∀ (b5 : Nat) (ac1 : Act) (wz : World), ac1.tmps.size = 79 → ac1.defers = ac0.defers → (∀ t, ([5, 10, 11] : List Nat).contains t = false → ac1.eval (.tmp t) = ac0.eval (.tmp t)) → ac1.eval (.tmp 5) = .pointer (some ⟨b5, 0, none⟩) → ac1.eval (.tmp 10) = .string (⟨#[]⟩ : ByteArray) → ac1.eval (.tmp 11) = .int .i64 0 →  Hid (Hp [] wa wz [rB b5 99 (rkL c (.slice la l.length lc)), rS la lc 4 (l.map entRow)]) → QR .normal ac1 wz) : (regAt Try.f55 0).wp Try.prog QR ac0 wb := by
  refine wp_region_sq (by kernel_rfl) 79 hz (by kernel_rfl) (fun (xx : Nat) jx => match xx with | b5 => nth [.pointer (some ⟨b5, 0, none⟩), .string (⟨#[]⟩ : ByteArray), .int .i64 0] jx) (fun (LL : Nat → Bool) (xx : Nat) ww => match xx with | b5 => Hp [] wa ww (bif LL 0 then [rB b5 99 (rkL c (.slice la l.length lc)), rS la lc 4 (l.map entRow)] else [rS la lc 4 (l.map entRow)])) default H.out ?_ (steps_al ?_) ?_ ?_
  · intro L1 L2 xx ww hL sg
    have lh0 := hL 0 (by decide)
    simp only [lh0] at sg
    exact sg
  · refine al_cons ?_ (al_cons ?_ (al_cons ?_ (al_nil)))
    · intro LL xx ac wc sg hst hwant QQ hgo
      revert sg hst hgo; revert xx; intro xold sg hst hgo
      have H := Lib.hid hst
      simp only [sg.self, cond_true, cond_false] at H
      refine hp_box rfl 99 _ rfl _ ((sg.free 0 (by kernel_rfl)).trans so0) _ (by rfl) H ?_
      intro wd b5 H2
      exact hgo _ b5 _ (sg.agree (x' := b5) (n := 3) rfl (by (iterate 3 (refine ix_cons (by first | exact fun _ => rfl | exact no sg.self | exact no (sg.des _ rfl)) ?_)); exact ix_nil)) rfl (by simp only [(show upd LL 0 0 = true from rfl), cond_true, cond_false]; exact H2.out)
    · intro LL xx ac wc sg hst hwant QQ hgo
      revert sg hst hgo; revert xx; intro b5 sg hst hgo
      exact op_val hwant hgo hst _ (exec_assign rfl rfl) rfl
    · intro LL xx ac wc sg hst hwant QQ hgo
      revert sg hst hgo; revert xx; intro b5 sg hst hgo
      exact op_val hwant hgo hst _ (exec_assign rfl rfl) rfl
  · exact skips [] (by kernel_rfl) (fun _ h => by cases h)
  · intro xx ac1 wz hfr hsl hst
    revert hsl hst; revert xx; intro b5 hsl hst
    exact hfin b5 ac1 wz (hfr.size.trans hz) hfr.defers (fr_keep hfr [5, 10, 11] (by kernel_rfl)) (hsl 0 (by decide)) (hsl 1 (by decide)) (hsl 2 (by decide)) (Lib.hid hst)
set_option maxRecDepth 20000 in
theorem lookRC_r1 (c : Cfg) (la : Option Addr) (lc : Nat) (l : List EntR) (now : Int) (who : Int) (key : Int) (hk0 : 0 ≤ key) (hk1 : key ≤ 18446744073709551615) (hl : l.length ≤ 1000000) (b5 : Nat) {wa wb : World} (H : Hid (Hp [] wa wb [rB b5 99 (rkL c (.slice la l.length lc)), rS la lc 4 (l.map entRow)])) (ac0 : Act) (hz : ac0.tmps.size = 79) (so1 : ac0.eval (.tmp 1) = .int .i64 now) (so2 : ac0.eval (.tmp 2) = .int .i64 who) (so3 : ac0.eval (.tmp 3) = .int .u64 key) (so5 : ac0.eval (.tmp 5) = .pointer (some ⟨b5, 0, none⟩)) {QR : Exit → Act → World → Prop} (hfin : ∀ (ac1 : Act) (wz : World), ac1.tmps.size = 79 → ac1.defers = ac0.defers → (∀ t, ([14, 15, 16, 17, 18, 19, 20, 21, 22, 23, 24, 25, 26, 27, 28, 29, 30, 31, 32, 33, 34, 35] : List Nat).contains t = false → ac1.eval (.tmp t) = ac0.eval (.tmp t)) → ac1.eval (.tmp 35) = .bool (((((decide (now < 0)) || (decide (1073741824 < now))) || (decide (who < 1))) || (decide (1073741824 < who))) || (!(goodRV c key now))) →  Hid (Hp [] wa wz [rB b5 99 (rkL c (.slice la l.length lc)), rS la lc 4 (l.map entRow)]) → QR .normal ac1 wz) : (regAt Try.f55 1).wp Try.prog QR ac0 wb := by
  refine wp_region_sq (by kernel_rfl) 79 hz (by kernel_rfl) (fun (xx : Unit) jx => nth [.int .i64 now, .bool (decide (now < 0)), .bool (decide (now < 0)), bif !(decide (now < 0)) then .int .i64 now else undef, bif !(decide (now < 0)) then .bool (decide (1073741824 < now)) else undef, .bool ((decide (now < 0)) || (decide (1073741824 < now))), .bool ((decide (now < 0)) || (decide (1073741824 < now))), bif !((decide (now < 0)) || (decide (1073741824 < now))) then .int .i64 who else undef, bif !((decide (now < 0)) || (decide (1073741824 < now))) then .bool (decide (who < 1)) else undef, .bool (((decide (now < 0)) || (decide (1073741824 < now))) || (decide (who < 1))), .bool (((decide (now < 0)) || (decide (1073741824 < now))) || (decide (who < 1))), bif !(((decide (now < 0)) || (decide (1073741824 < now))) || (decide (who < 1))) then .int .i64 who else undef, bif !(((decide (now < 0)) || (decide (1073741824 < now))) || (decide (who < 1))) then .bool (decide (1073741824 < who)) else undef, .bool ((((decide (now < 0)) || (decide (1073741824 < now))) || (decide (who < 1))) || (decide (1073741824 < who))), .bool ((((decide (now < 0)) || (decide (1073741824 < now))) || (decide (who < 1))) || (decide (1073741824 < who))), bif !((((decide (now < 0)) || (decide (1073741824 < now))) || (decide (who < 1))) || (decide (1073741824 < who))) then .pointer (some ⟨b5, 0, none⟩) else undef, bif !((((decide (now < 0)) || (decide (1073741824 < now))) || (decide (who < 1))) || (decide (1073741824 < who))) then .agg (cA c) else undef, bif !((((decide (now < 0)) || (decide (1073741824 < now))) || (decide (who < 1))) || (decide (1073741824 < who))) then .int .u64 key else undef, bif !((((decide (now < 0)) || (decide (1073741824 < now))) || (decide (who < 1))) || (decide (1073741824 < who))) then .int .i64 now else undef, bif !((((decide (now < 0)) || (decide (1073741824 < now))) || (decide (who < 1))) || (decide (1073741824 < who))) then .bool (goodRV c key now) else undef, bif !((((decide (now < 0)) || (decide (1073741824 < now))) || (decide (who < 1))) || (decide (1073741824 < who))) then .bool (!(goodRV c key now)) else undef, .bool (((((decide (now < 0)) || (decide (1073741824 < now))) || (decide (who < 1))) || (decide (1073741824 < who))) || (!(goodRV c key now)))] jx) (fun (LL : Nat → Bool) (xx : Unit) ww => Hp [] wa ww [rB b5 99 (rkL c (.slice la l.length lc)), rS la lc 4 (l.map entRow)]) () H.out ?_ (steps_al ?_) ?_ ?_
  · exact fun _ _ _ _ _ h => h
  · refine al_cons ?_ (al_cons ?_ (al_cons ?_ (al_cons ?_ (al_cons ?_ (al_cons ?_ (al_cons ?_ (al_cons ?_ (al_cons ?_ (al_cons ?_ (al_cons ?_ (al_cons ?_ (al_cons ?_ (al_cons ?_ (al_cons ?_ (al_cons ?_ (al_cons ?_ (al_cons ?_ (al_cons ?_ (al_cons ?_ (al_cons ?_ (al_cons ?_ (al_nil))))))))))))))))))))))
    · intro LL xx ac wc sg hst hwant QQ hgo
      exact op_val hwant hgo hst _ (exec_move rfl ((sg.free 1 (by kernel_rfl)).trans so1)) rfl
    · intro LL xx ac wc sg hst hwant QQ hgo
      have se14 : ac.eval (.tmp 14) = _ := (sg.slot 0 (sg.anc 0 rfl))
      have sg14 := gt_of se14
      (try simp only [nth] at se14 sg14)
      exact op_val hwant hgo hst _ (by simp only [execOp, nth]; go_simp <;> omega) rfl
    · intro LL xx ac wc sg hst hwant QQ hgo
      exact op_val hwant hgo hst _ (exec_move rfl (sg.slot 1 (sg.anc 1 rfl))) rfl
    · intro LL xx ac wc sg hst hwant QQ hgo
      have hG : (!(decide (now < 0))) = true := (want_f rfl rfl (sg.slot 2 (sg.anc 2 rfl))).symm.trans hwant
      exact op_val hwant hgo hst _ (exec_move rfl ((sg.free 1 (by kernel_rfl)).trans so1)) (cI hG)
    · intro LL xx ac wc sg hst hwant QQ hgo
      have hG : (!(decide (now < 0))) = true := (want_f rfl rfl (sg.slot 2 (sg.anc 2 rfl))).symm.trans hwant
      have se17 : ac.eval (.tmp 17) = _ := (cT (sg.slot 3 (sg.anc 3 rfl)) hG)
      have sg17 := gt_of se17
      (try simp only [nth] at se17 sg17)
      exact op_val hwant hgo hst _ (by simp only [execOp, nth]; go_simp <;> omega) (cI hG)
    · intro LL xx ac wc sg hst hwant QQ hgo
      exact op_val hwant hgo hst (.bool ((decide (now < 0)) || (decide (1073741824 < now)))) (exec_or (Y := decide (1073741824 < now)) rfl (sg.slot 2 (sg.anc 2 rfl)) (fun qq => cT (sg.slot 4 (sg.anc 4 rfl)) (bk qq))) rfl
    · intro LL xx ac wc sg hst hwant QQ hgo
      exact op_val hwant hgo hst _ (exec_move rfl (sg.slot 5 (sg.anc 5 rfl))) rfl
    · intro LL xx ac wc sg hst hwant QQ hgo
      have hG : (!((decide (now < 0)) || (decide (1073741824 < now)))) = true := (want_f rfl rfl (sg.slot 6 (sg.anc 6 rfl))).symm.trans hwant
      exact op_val hwant hgo hst _ (exec_move rfl ((sg.free 2 (by kernel_rfl)).trans so2)) (cI hG)
    · intro LL xx ac wc sg hst hwant QQ hgo
      have hG : (!((decide (now < 0)) || (decide (1073741824 < now)))) = true := (want_f rfl rfl (sg.slot 6 (sg.anc 6 rfl))).symm.trans hwant
      have se21 : ac.eval (.tmp 21) = _ := (cT (sg.slot 7 (sg.anc 7 rfl)) hG)
      have sg21 := gt_of se21
      (try simp only [nth] at se21 sg21)
      exact op_val hwant hgo hst _ (by simp only [execOp, nth]; go_simp <;> omega) (cI hG)
    · intro LL xx ac wc sg hst hwant QQ hgo
      exact op_val hwant hgo hst (.bool (((decide (now < 0)) || (decide (1073741824 < now))) || (decide (who < 1)))) (exec_or (Y := decide (who < 1)) rfl (sg.slot 6 (sg.anc 6 rfl)) (fun qq => cT (sg.slot 8 (sg.anc 8 rfl)) (bk qq))) rfl
    · intro LL xx ac wc sg hst hwant QQ hgo
      exact op_val hwant hgo hst _ (exec_move rfl (sg.slot 9 (sg.anc 9 rfl))) rfl
    · intro LL xx ac wc sg hst hwant QQ hgo
      have hG : (!(((decide (now < 0)) || (decide (1073741824 < now))) || (decide (who < 1)))) = true := (want_f rfl rfl (sg.slot 10 (sg.anc 10 rfl))).symm.trans hwant
      exact op_val hwant hgo hst _ (exec_move rfl ((sg.free 2 (by kernel_rfl)).trans so2)) (cI hG)
    · intro LL xx ac wc sg hst hwant QQ hgo
      have hG : (!(((decide (now < 0)) || (decide (1073741824 < now))) || (decide (who < 1)))) = true := (want_f rfl rfl (sg.slot 10 (sg.anc 10 rfl))).symm.trans hwant
      have se25 : ac.eval (.tmp 25) = _ := (cT (sg.slot 11 (sg.anc 11 rfl)) hG)
      have sg25 := gt_of se25
      (try simp only [nth] at se25 sg25)
      exact op_val hwant hgo hst _ (by simp only [execOp, nth]; go_simp <;> omega) (cI hG)
    · intro LL xx ac wc sg hst hwant QQ hgo
      exact op_val hwant hgo hst (.bool ((((decide (now < 0)) || (decide (1073741824 < now))) || (decide (who < 1))) || (decide (1073741824 < who)))) (exec_or (Y := decide (1073741824 < who)) rfl (sg.slot 10 (sg.anc 10 rfl)) (fun qq => cT (sg.slot 12 (sg.anc 12 rfl)) (bk qq))) rfl
    · intro LL xx ac wc sg hst hwant QQ hgo
      exact op_val hwant hgo hst _ (exec_move rfl (sg.slot 13 (sg.anc 13 rfl))) rfl
    · intro LL xx ac wc sg hst hwant QQ hgo
      have hG : (!((((decide (now < 0)) || (decide (1073741824 < now))) || (decide (who < 1))) || (decide (1073741824 < who)))) = true := (want_f rfl rfl (sg.slot 14 (sg.anc 14 rfl))).symm.trans hwant
      have se5 : ac.eval (.tmp 5) = _ := ((sg.free 5 (by kernel_rfl)).trans so5)
      have sg5 := gt_of se5
      exact op_val hwant hgo hst _ (by simp only [execOp, nth]; go_simp <;> omega) (cI hG)
    · intro LL xx ac wc sg hst hwant QQ hgo
      have hG : (!((((decide (now < 0)) || (decide (1073741824 < now))) || (decide (who < 1))) || (decide (1073741824 < who)))) = true := (want_f rfl rfl (sg.slot 14 (sg.anc 14 rfl))).symm.trans hwant
      have H := Lib.hid hst
      refine hpA_load tyapi_Config H rfl (cT (sg.slot 15 (sg.anc 15 rfl)) hG) hwant (by (repeat (first | exact List.Mem.head _ | apply List.Mem.tail))) (by rfl) rfl ?_
      exact hgo _ () _ (fun _ _ => rfl) (cI hG) hst
    · intro LL xx ac wc sg hst hwant QQ hgo
      have hG : (!((((decide (now < 0)) || (decide (1073741824 < now))) || (decide (who < 1))) || (decide (1073741824 < who)))) = true := (want_f rfl rfl (sg.slot 14 (sg.anc 14 rfl))).symm.trans hwant
      exact op_val hwant hgo hst _ (exec_move rfl ((sg.free 3 (by kernel_rfl)).trans so3)) (cI hG)
    · intro LL xx ac wc sg hst hwant QQ hgo
      have hG : (!((((decide (now < 0)) || (decide (1073741824 < now))) || (decide (who < 1))) || (decide (1073741824 < who)))) = true := (want_f rfl rfl (sg.slot 14 (sg.anc 14 rfl))).symm.trans hwant
      exact op_val hwant hgo hst _ (exec_move rfl ((sg.free 1 (by kernel_rfl)).trans so1)) (cI hG)
    · intro LL xx ac wc sg hst hwant QQ hgo
      have hG : (!((((decide (now < 0)) || (decide (1073741824 < now))) || (decide (who < 1))) || (decide (1073741824 < who)))) = true := (want_f rfl rfl (sg.slot 14 (sg.anc 14 rfl))).symm.trans hwant
      have se30 : ac.eval (.tmp 30) = _ := (cT (sg.slot 16 (sg.anc 16 rfl)) hG)
      have sg30 := gt_of se30
      have se31 : ac.eval (.tmp 31) = _ := (cT (sg.slot 17 (sg.anc 17 rfl)) hG)
      have sg31 := gt_of se31
      have se32 : ac.eval (.tmp 32) = _ := (cT (sg.slot 18 (sg.anc 18 rfl)) hG)
      have sg32 := gt_of se32
      (try simp only [nth] at se30 sg30 se31 sg31 se32 sg32)
      refine op_call hwant hgo 53 _ (by simp only [execOp]; go_simp) (goodR10 c key now wc hk0 hk1) ?_
      rintro er wd ⟨rfl, hof⟩
      exact ⟨_, (), rfl, fun _ _ => rfl, (cI hG), Hp.quiet hst hof⟩
    · intro LL xx ac wc sg hst hwant QQ hgo
      have hG : (!((((decide (now < 0)) || (decide (1073741824 < now))) || (decide (who < 1))) || (decide (1073741824 < who)))) = true := (want_f rfl rfl (sg.slot 14 (sg.anc 14 rfl))).symm.trans hwant
      have se33 : ac.eval (.tmp 33) = _ := (cT (sg.slot 19 (sg.anc 19 rfl)) hG)
      have sg33 := gt_of se33
      (try simp only [nth] at se33 sg33)
      exact op_val hwant hgo hst _ (by simp only [execOp, nth]; go_simp <;> omega) (cI hG)
    · intro LL xx ac wc sg hst hwant QQ hgo
      exact op_val hwant hgo hst (.bool (((((decide (now < 0)) || (decide (1073741824 < now))) || (decide (who < 1))) || (decide (1073741824 < who))) || (!(goodRV c key now)))) (exec_or (Y := !(goodRV c key now)) rfl (sg.slot 14 (sg.anc 14 rfl)) (fun qq => cT (sg.slot 20 (sg.anc 20 rfl)) (bk qq))) rfl
  · refine skips [3, 4, 7, 8, 11, 12, 15, 16, 17, 18, 19, 20] (by kernel_rfl) ?_
    refine List.forall_mem_cons.2 ⟨?_, List.forall_mem_cons.2 ⟨?_, List.forall_mem_cons.2 ⟨?_, List.forall_mem_cons.2 ⟨?_, List.forall_mem_cons.2 ⟨?_, List.forall_mem_cons.2 ⟨?_, List.forall_mem_cons.2 ⟨?_, List.forall_mem_cons.2 ⟨?_, List.forall_mem_cons.2 ⟨?_, List.forall_mem_cons.2 ⟨?_, List.forall_mem_cons.2 ⟨?_, List.forall_mem_cons.2 ⟨?_, fun _ h => by cases h⟩⟩⟩⟩⟩⟩⟩⟩⟩⟩⟩⟩
    · intro oo hop LL xx ac sg hwant
      cases Option.some.inj hop
      have hG : (!(decide (now < 0))) = false := (want_f rfl rfl (sg.slot 2 (sg.anc 2 rfl))).symm.trans hwant
      exact ⟨cF hG, fun _ h => h⟩
    · intro oo hop LL xx ac sg hwant
      cases Option.some.inj hop
      have hG : (!(decide (now < 0))) = false := (want_f rfl rfl (sg.slot 2 (sg.anc 2 rfl))).symm.trans hwant
      exact ⟨cF hG, fun _ h => h⟩
    · intro oo hop LL xx ac sg hwant
      cases Option.some.inj hop
      have hG : (!((decide (now < 0)) || (decide (1073741824 < now)))) = false := (want_f rfl rfl (sg.slot 6 (sg.anc 6 rfl))).symm.trans hwant
      exact ⟨cF hG, fun _ h => h⟩
    · intro oo hop LL xx ac sg hwant
      cases Option.some.inj hop
      have hG : (!((decide (now < 0)) || (decide (1073741824 < now)))) = false := (want_f rfl rfl (sg.slot 6 (sg.anc 6 rfl))).symm.trans hwant
      exact ⟨cF hG, fun _ h => h⟩
    · intro oo hop LL xx ac sg hwant
      cases Option.some.inj hop
      have hG : (!(((decide (now < 0)) || (decide (1073741824 < now))) || (decide (who < 1)))) = false := (want_f rfl rfl (sg.slot 10 (sg.anc 10 rfl))).symm.trans hwant
      exact ⟨cF hG, fun _ h => h⟩
    · intro oo hop LL xx ac sg hwant
      cases Option.some.inj hop
      have hG : (!(((decide (now < 0)) || (decide (1073741824 < now))) || (decide (who < 1)))) = false := (want_f rfl rfl (sg.slot 10 (sg.anc 10 rfl))).symm.trans hwant
      exact ⟨cF hG, fun _ h => h⟩
    · intro oo hop LL xx ac sg hwant
      cases Option.some.inj hop
      have hG : (!((((decide (now < 0)) || (decide (1073741824 < now))) || (decide (who < 1))) || (decide (1073741824 < who)))) = false := (want_f rfl rfl (sg.slot 14 (sg.anc 14 rfl))).symm.trans hwant
      exact ⟨cF hG, fun _ h => h⟩
    · intro oo hop LL xx ac sg hwant
      cases Option.some.inj hop
      have hG : (!((((decide (now < 0)) || (decide (1073741824 < now))) || (decide (who < 1))) || (decide (1073741824 < who)))) = false := (want_f rfl rfl (sg.slot 14 (sg.anc 14 rfl))).symm.trans hwant
      exact ⟨cF hG, fun _ h => h⟩
    · intro oo hop LL xx ac sg hwant
      cases Option.some.inj hop
      have hG : (!((((decide (now < 0)) || (decide (1073741824 < now))) || (decide (who < 1))) || (decide (1073741824 < who)))) = false := (want_f rfl rfl (sg.slot 14 (sg.anc 14 rfl))).symm.trans hwant
      exact ⟨cF hG, fun _ h => h⟩
    · intro oo hop LL xx ac sg hwant
      cases Option.some.inj hop
      have hG : (!((((decide (now < 0)) || (decide (1073741824 < now))) || (decide (who < 1))) || (decide (1073741824 < who)))) = false := (want_f rfl rfl (sg.slot 14 (sg.anc 14 rfl))).symm.trans hwant
      exact ⟨cF hG, fun _ h => h⟩
    · intro oo hop LL xx ac sg hwant
      cases Option.some.inj hop
      have hG : (!((((decide (now < 0)) || (decide (1073741824 < now))) || (decide (who < 1))) || (decide (1073741824 < who)))) = false := (want_f rfl rfl (sg.slot 14 (sg.anc 14 rfl))).symm.trans hwant
      exact ⟨cF hG, fun _ h => h⟩
    · intro oo hop LL xx ac sg hwant
      cases Option.some.inj hop
      have hG : (!((((decide (now < 0)) || (decide (1073741824 < now))) || (decide (who < 1))) || (decide (1073741824 < who)))) = false := (want_f rfl rfl (sg.slot 14 (sg.anc 14 rfl))).symm.trans hwant
      exact ⟨cF hG, fun _ h => h⟩
  · intro xx ac1 wz hfr hsl hst
    exact hfin ac1 wz (hfr.size.trans hz) hfr.defers (fr_keep hfr [14, 15, 16, 17, 18, 19, 20, 21, 22, 23, 24, 25, 26, 27, 28, 29, 30, 31, 32, 33, 34, 35] (by kernel_rfl)) (hsl 21 (by decide)) (Lib.hid hst)
set_option maxRecDepth 20000 in
theorem lookRC_r2 (c : Cfg) (la : Option Addr) (lc : Nat) (l : List EntR) (key : Int) (hk0 : 0 ≤ key) (hk1 : key ≤ 18446744073709551615) (hl : l.length ≤ 1000000) (b5 : Nat) {wa wb : World} (H : Hid (Hp [] wa wb [rB b5 99 (rkL c (.slice la l.length lc)), rS la lc 4 (l.map entRow)])) (ac0 : Act) (hz : ac0.tmps.size = 79)  {QR : Exit → Act → World → Prop} (hfin : ∀ (ac1 : Act) (wz : World), ac1.tmps.size = 79 → ac1.defers = ac0.defers → (∀ t, ([10, 11] : List Nat).contains t = false → ac1.eval (.tmp t) = ac0.eval (.tmp t)) → ac1.eval (.tmp 10) = .string (⟨#[]⟩ : ByteArray) → ac1.eval (.tmp 11) = .int .i64 4 →  Hid (Hp [] wa wz [rB b5 99 (rkL c (.slice la l.length lc)), rS la lc 4 (l.map entRow)]) → QR .normal ac1 wz) : (regAt Try.f55 2).wp Try.prog QR ac0 wb := by
  refine wp_region_sq (by kernel_rfl) 79 hz (by kernel_rfl) (fun (xx : Unit) jx => nth [.string (⟨#[]⟩ : ByteArray), .int .i64 4] jx) (fun (LL : Nat → Bool) (xx : Unit) ww => Hp [] wa ww [rB b5 99 (rkL c (.slice la l.length lc)), rS la lc 4 (l.map entRow)]) () H.out ?_ (steps_al ?_) ?_ ?_
  · exact fun _ _ _ _ _ h => h
  · refine al_cons ?_ (al_cons ?_ (al_nil))
    · intro LL xx ac wc sg hst hwant QQ hgo
      exact op_val hwant hgo hst _ (exec_assign rfl rfl) rfl
    · intro LL xx ac wc sg hst hwant QQ hgo
      exact op_val hwant hgo hst _ (exec_assign rfl rfl) rfl
  · exact skips [] (by kernel_rfl) (fun _ h => by cases h)
  · intro xx ac1 wz hfr hsl hst
    exact hfin ac1 wz (hfr.size.trans hz) hfr.defers (fr_keep hfr [10, 11] (by kernel_rfl)) (hsl 0 (by decide)) (hsl 1 (by decide)) (Lib.hid hst)
set_option maxRecDepth 20000 in
theorem lookRC_r3 (c : Cfg) (la : Option Addr) (lc : Nat) (l : List EntR) (now : Int) (who : Int) (key : Int) (hk0 : 0 ≤ key) (hk1 : key ≤ 18446744073709551615) (hl : l.length ≤ 1000000) (hok : Hid (∀ e ∈ l, 0 ≤ e.key ∧ e.key ≤ 18446744073709551615)) (b5 : Nat) (z1lllld : ¬ (now < 0)) (z1lllrd : ¬ (1073741824 < now)) (z1llrd : ¬ (who < 1)) (z1lrd : ¬ (1073741824 < who)) {wa wb : World} (H : Hid (Hp [] wa wb [rB b5 99 (rkL c (.slice la l.length lc)), rS la lc 4 (l.map entRow)])) (ac0 : Act) (hz : ac0.tmps.size = 79) (so1 : ac0.eval (.tmp 1) = .int .i64 now) (so5 : ac0.eval (.tmp 5) = .pointer (some ⟨b5, 0, none⟩)) {QR : Exit → Act → World → Prop} (hfin : ∀ (a3_2 : Option Addr) (c3_2 : Nat) (ac1 : Act) (wz : World), ac1.tmps.size = 79 → ac1.defers = ac0.defers → (∀ t, ([12, 36, 37, 38] : List Nat).contains t = false → ac1.eval (.tmp t) = ac0.eval (.tmp t)) → ac1.eval (.tmp 12) = .slice a3_2 ((l.filter (keepR c now)).length) c3_2 →  Hid (Hp [] wa wz [rA a3_2 c3_2 136 4 ((l.filter (keepR c now)).map entRow), rB b5 99 (rkL c (.slice la l.length lc)), rS la lc 4 (l.map entRow)]) → QR .normal ac1 wz) : (regAt Try.f55 3).wp Try.prog QR ac0 wb := by
  refine wp_region_sq (by kernel_rfl) 79 hz (by kernel_rfl) (fun (xx : Option Addr × Nat) jx => match xx with | (a3_2, c3_2) => nth [.agg (rkA c (.slice la l.length lc)), .int .i64 now, .slice a3_2 ((l.filter (keepR c now)).length) c3_2, .slice a3_2 ((l.filter (keepR c now)).length) c3_2] jx) (fun (LL : Nat → Bool) (xx : Option Addr × Nat) ww => match xx with | (a3_2, c3_2) => Hp [] wa ww (bif LL 2 then [rA a3_2 c3_2 136 4 ((l.filter (keepR c now)).map entRow), rB b5 99 (rkL c (.slice la l.length lc)), rS la lc 4 (l.map entRow)] else [rB b5 99 (rkL c (.slice la l.length lc)), rS la lc 4 (l.map entRow)])) (default, default) H.out ?_ (steps_al ?_) ?_ ?_
  · intro L1 L2 xx ww hL sg
    have lh2 := hL 2 (by decide)
    simp only [lh2] at sg
    exact sg
  · refine al_cons ?_ (al_cons ?_ (al_cons ?_ (al_cons ?_ (al_nil))))
    · intro LL xx ac wc sg hst hwant QQ hgo
      obtain ⟨a3_2, c3_2⟩ := xx
      have H := Lib.hid hst
      simp only [sg.des 2 rfl, cond_true, cond_false] at H
      refine hpA_load tyhoistwayref10_Keys H rfl ((sg.free 5 (by kernel_rfl)).trans so5) hwant (by (repeat (first | exact List.Mem.head _ | apply List.Mem.tail))) (by rfl) rfl ?_
      exact hgo _ (a3_2, c3_2) _ (fun _ _ => rfl) rfl hst
    · intro LL xx ac wc sg hst hwant QQ hgo
      obtain ⟨a3_2, c3_2⟩ := xx
      exact op_val hwant hgo hst _ (exec_move rfl ((sg.free 1 (by kernel_rfl)).trans so1)) rfl
    · intro LL xx ac wc sg hst hwant QQ hgo
      obtain ⟨_, _⟩ := xx
      have se36 : ac.eval (.tmp 36) = _ := (sg.slot 0 (sg.anc 0 rfl))
      have sg36 := gt_of se36
      have se37 : ac.eval (.tmp 37) = _ := (sg.slot 1 (sg.anc 1 rfl))
      have sg37 := gt_of se37
      (try simp only [nth] at se36 sg36 se37 sg37)
      have H := Lib.hid hst
      simp only [sg.self, cond_true, cond_false] at H
      refine op_call hwant hgo 58 _ (by simp only [execOp]; go_simp) (countsR c la lc l now wc (hp_held H (by (repeat (first | exact List.Mem.head _ | apply List.Mem.tail)))) hl hok) ?_
      rintro er wd ⟨a3_2, c3_2, rfl, hA, hfA, hof⟩
      have H2 := hp_gotA H hof hA hfA
      exact ⟨_, (a3_2, c3_2), rfl, (sg.agree (x' := (a3_2, c3_2)) (n := 4) rfl (by (iterate 4 (refine ix_cons (by first | exact fun _ => rfl | exact no sg.self | exact no (sg.des _ rfl)) ?_)); exact ix_nil)), rfl, (by simp only [(show upd LL 2 2 = true from rfl), cond_true, cond_false]; exact H2.out)⟩
    · intro LL xx ac wc sg hst hwant QQ hgo
      obtain ⟨a3_2, c3_2⟩ := xx
      exact op_val hwant hgo hst _ (exec_assign rfl (sg.slot 2 (sg.anc 2 rfl))) rfl
  · exact skips [] (by kernel_rfl) (fun _ h => by cases h)
  · intro xx ac1 wz hfr hsl hst
    obtain ⟨a3_2, c3_2⟩ := xx
    exact hfin a3_2 c3_2 ac1 wz (hfr.size.trans hz) hfr.defers (fr_keep hfr [12, 36, 37, 38] (by kernel_rfl)) (hsl 3 (by decide)) (Lib.hid hst)
set_option maxRecDepth 20000 in
theorem lookRC_r4 (c : Cfg) (la : Option Addr) (lc : Nat) (l : List EntR) (now : Int) (who : Int) (key : Int) (hk0 : 0 ≤ key) (hk1 : key ≤ 18446744073709551615) (hl : l.length ≤ 1000000) (b5 : Nat) (z1lllld : ¬ (now < 0)) (z1lllrd : ¬ (1073741824 < now)) (z1llrd : ¬ (who < 1)) (z1lrd : ¬ (1073741824 < who)) (a3_2 : Option Addr) (c3_2 : Nat) {wa wb : World} (H : Hid (Hp [] wa wb [rA a3_2 c3_2 136 4 ((l.filter (keepR c now)).map entRow), rB b5 99 (rkL c (.slice la l.length lc)), rS la lc 4 (l.map entRow)])) (ac0 : Act) (hz : ac0.tmps.size = 79)  {QR : Exit → Act → World → Prop} (hfin : ∀ (ac1 : Act) (wz : World), ac1.tmps.size = 79 → ac1.defers = ac0.defers → (∀ t, ([13] : List Nat).contains t = false → ac1.eval (.tmp t) = ac0.eval (.tmp t)) → ac1.eval (.tmp 13) = .int .i64 0 →  Hid (Hp [] wa wz [rA a3_2 c3_2 136 4 ((l.filter (keepR c now)).map entRow), rB b5 99 (rkL c (.slice la l.length lc)), rS la lc 4 (l.map entRow)]) → QR .normal ac1 wz) : (regAt Try.f55 4).wp Try.prog QR ac0 wb := by
  refine wp_region_sq (by kernel_rfl) 79 hz (by kernel_rfl) (fun (xx : Unit) jx => nth [.int .i64 0] jx) (fun (LL : Nat → Bool) (xx : Unit) ww => Hp [] wa ww [rA a3_2 c3_2 136 4 ((l.filter (keepR c now)).map entRow), rB b5 99 (rkL c (.slice la l.length lc)), rS la lc 4 (l.map entRow)]) () H.out ?_ (steps_al ?_) ?_ ?_
  · exact fun _ _ _ _ _ h => h
  · refine al_cons ?_ (al_nil)
    · intro LL xx ac wc sg hst hwant QQ hgo
      exact op_val hwant hgo hst _ (exec_assign rfl rfl) rfl
  · exact skips [] (by kernel_rfl) (fun _ h => by cases h)
  · intro xx ac1 wz hfr hsl hst
    exact hfin ac1 wz (hfr.size.trans hz) hfr.defers (fr_keep hfr [13] (by kernel_rfl)) (hsl 0 (by decide)) (Lib.hid hst)
set_option maxRecDepth 20000 in
theorem lookRC_r5 (c : Cfg) (la : Option Addr) (lc : Nat) (l : List EntR) (now : Int) (who : Int) (key : Int) (hk0 : 0 ≤ key) (hk1 : key ≤ 18446744073709551615) (hl : l.length ≤ 1000000) (b5 : Nat) (z1lllld : ¬ (now < 0)) (z1lllrd : ¬ (1073741824 < now)) (z1llrd : ¬ (who < 1)) (z1lrd : ¬ (1073741824 < who)) (a3_2 : Option Addr) (c3_2 : Nat) (j : Nat) (hj : j ≤ (l.filter (keepR c now)).length) (hon : (l.filter (keepR c now)).length ≤ 1000000) {wa wb : World} (H : Hid (Hp [] wa wb [rA a3_2 c3_2 136 4 ((l.filter (keepR c now)).map entRow), rB b5 99 (rkL c (.slice la l.length lc)), rS la lc 4 (l.map entRow)])) (ac0 : Act) (hz : ac0.tmps.size = 79) (so12 : ac0.eval (.tmp 12) = .slice a3_2 ((l.filter (keepR c now)).length) c3_2) (so13 : ac0.eval (.tmp 13) = .int .i64 j) {QR : Exit → Act → World → Prop} (hfin : ∀ (ac1 : Act) (wz : World), ac1.tmps.size = 79 → ac1.defers = ac0.defers → (∀ t, ([39, 40, 41, 42] : List Nat).contains t = false → ac1.eval (.tmp t) = ac0.eval (.tmp t)) → ac1.eval (.tmp 42) = .bool (decide (j < ((l.filter (keepR c now)).length))) →  Hid (Hp [] wa wz [rA a3_2 c3_2 136 4 ((l.filter (keepR c now)).map entRow), rB b5 99 (rkL c (.slice la l.length lc)), rS la lc 4 (l.map entRow)]) → QR .normal ac1 wz) : (regAt Try.f55 5).wp Try.prog QR ac0 wb := by
  refine wp_region_sq (by kernel_rfl) 79 hz (by kernel_rfl) (fun (xx : Unit) jx => nth [.int .i64 j, .slice a3_2 ((l.filter (keepR c now)).length) c3_2, .int .i64 ((l.filter (keepR c now)).length), .bool (decide (j < ((l.filter (keepR c now)).length)))] jx) (fun (LL : Nat → Bool) (xx : Unit) ww => Hp [] wa ww [rA a3_2 c3_2 136 4 ((l.filter (keepR c now)).map entRow), rB b5 99 (rkL c (.slice la l.length lc)), rS la lc 4 (l.map entRow)]) () H.out ?_ (steps_al ?_) ?_ ?_
  · exact fun _ _ _ _ _ h => h
  · refine al_cons ?_ (al_cons ?_ (al_cons ?_ (al_cons ?_ (al_nil))))
    · intro LL xx ac wc sg hst hwant QQ hgo
      exact op_val hwant hgo hst _ (exec_move rfl ((sg.free 13 (by kernel_rfl)).trans so13)) rfl
    · intro LL xx ac wc sg hst hwant QQ hgo
      exact op_val hwant hgo hst _ (exec_move rfl ((sg.free 12 (by kernel_rfl)).trans so12)) rfl
    · intro LL xx ac wc sg hst hwant QQ hgo
      have se40 : ac.eval (.tmp 40) = _ := (sg.slot 1 (sg.anc 1 rfl))
      have sg40 := gt_of se40
      (try simp only [nth] at se40 sg40)
      exact op_val hwant hgo hst _ (by simp only [execOp, nth]; go_simp <;> omega) rfl
    · intro LL xx ac wc sg hst hwant QQ hgo
      have se39 : ac.eval (.tmp 39) = _ := (sg.slot 0 (sg.anc 0 rfl))
      have sg39 := gt_of se39
      have se41 : ac.eval (.tmp 41) = _ := (sg.slot 2 (sg.anc 2 rfl))
      have sg41 := gt_of se41
      (try simp only [nth] at se39 sg39 se41 sg41)
      exact op_val hwant hgo hst _ (by simp only [execOp, nth]; go_simp <;> omega) rfl
  · exact skips [] (by kernel_rfl) (fun _ h => by cases h)
  · intro xx ac1 wz hfr hsl hst
    exact hfin ac1 wz (hfr.size.trans hz) hfr.defers (fr_keep hfr [39, 40, 41, 42] (by kernel_rfl)) (hsl 3 (by decide)) (Lib.hid hst)
set_option maxRecDepth 20000 in
theorem lookRC_r7 (c : Cfg) (la : Option Addr) (lc : Nat) (l : List EntR) (now : Int) (who : Int) (key : Int) (body : ByteArray) (hk0 : 0 ≤ key) (hk1 : key ≤ 18446744073709551615) (hl : l.length ≤ 1000000) (b5 : Nat) (z1lllld : ¬ (now < 0)) (z1lllrd : ¬ (1073741824 < now)) (z1llrd : ¬ (who < 1)) (z1lrd : ¬ (1073741824 < who)) (c3_2 : Nat) (j : Nat) (hj : j ≤ (l.filter (keepR c now)).length) (hon : (l.filter (keepR c now)).length ≤ 1000000) (z2d : j < ((l.filter (keepR c now)).length)) (y : Addr) (x : EntR) (HRx : Hid (((l.filter (keepR c now)).map entRow)[j]? = some [.int .i64 x.who, .int .u64 x.key, .string x.body, .string x.answer])) {wa wb : World} (H : Hid (Hp [] wa wb [rA (some y) c3_2 136 4 ((l.filter (keepR c now)).map entRow), rB b5 99 (rkL c (.slice la l.length lc)), rS la lc 4 (l.map entRow)])) (ac0 : Act) (hz : ac0.tmps.size = 79) (so2 : ac0.eval (.tmp 2) = .int .i64 who) (so3 : ac0.eval (.tmp 3) = .int .u64 key) (so12 : ac0.eval (.tmp 12) = .slice (some y) ((l.filter (keepR c now)).length) c3_2) (so13 : ac0.eval (.tmp 13) = .int .i64 j) {QR : Exit → Act → World → Prop} (hfin : ∀ (ac1 : Act) (wz : World), ac1.tmps.size = 79 → ac1.defers = ac0.defers → (∀ t, ([45, 46, 47, 48, 49, 50, 51, 52, 53, 54, 55, 56, 57, 58, 59, 60] : List Nat).contains t = false → ac1.eval (.tmp t) = ac0.eval (.tmp t)) → ac1.eval (.tmp 60) = .bool ((x.who == who) && (x.key == key)) →  Hid (Hp [] wa wz [rA (some y) c3_2 136 4 ((l.filter (keepR c now)).map entRow), rB b5 99 (rkL c (.slice la l.length lc)), rS la lc 4 (l.map entRow)]) → QR .normal ac1 wz) : (regAt Try.f55 7).wp Try.prog QR ac0 wb := by
  refine wp_region_sq (by kernel_rfl) 79 hz (by kernel_rfl) (fun (xx : Unit) jx => nth [.slice (some y) ((l.filter (keepR c now)).length) c3_2, .int .i64 j, .pointer (some (y.add (j * 4))), .pointer (some (y.add (j * 4))), .int .i64 x.who, .int .i64 who, .bool (x.who == who), .bool (x.who == who), bif (x.who == who) then .slice (some y) ((l.filter (keepR c now)).length) c3_2 else undef, bif (x.who == who) then .int .i64 j else undef, bif (x.who == who) then .pointer (some (y.add (j * 4))) else undef, bif (x.who == who) then .pointer (some ⟨(y.add (j * 4)).block, (y.add (j * 4)).off + 1, none⟩) else undef, bif (x.who == who) then .int .u64 x.key else undef, bif (x.who == who) then .int .u64 key else undef, bif (x.who == who) then .bool (x.key == key) else undef, .bool ((x.who == who) && (x.key == key))] jx) (fun (LL : Nat → Bool) (xx : Unit) ww => Hp [] wa ww [rA (some y) c3_2 136 4 ((l.filter (keepR c now)).map entRow), rB b5 99 (rkL c (.slice la l.length lc)), rS la lc 4 (l.map entRow)]) () H.out ?_ (steps_al ?_) ?_ ?_
  · exact fun _ _ _ _ _ h => h
  · refine al_cons ?_ (al_cons ?_ (al_cons ?_ (al_cons ?_ (al_cons ?_ (al_cons ?_ (al_cons ?_ (al_cons ?_ (al_cons ?_ (al_cons ?_ (al_cons ?_ (al_cons ?_ (al_cons ?_ (al_cons ?_ (al_cons ?_ (al_cons ?_ (al_nil))))))))))))))))
    · intro LL xx ac wc sg hst hwant QQ hgo
      exact op_val hwant hgo hst _ (exec_move rfl ((sg.free 12 (by kernel_rfl)).trans so12)) rfl
    · intro LL xx ac wc sg hst hwant QQ hgo
      exact op_val hwant hgo hst _ (exec_move rfl ((sg.free 13 (by kernel_rfl)).trans so13)) rfl
    · intro LL xx ac wc sg hst hwant QQ hgo
      have se45 : ac.eval (.tmp 45) = _ := (sg.slot 0 (sg.anc 0 rfl))
      have sg45 := gt_of se45
      have se46 : ac.eval (.tmp 46) = _ := (sg.slot 1 (sg.anc 1 rfl))
      have sg46 := gt_of se46
      (try simp only [nth] at se45 sg45 se46 sg46)
      exact op_val hwant hgo hst _ (by simp only [execOp, nth]; go_simp <;> omega) rfl
    · intro LL xx ac wc sg hst hwant QQ hgo
      have se47 : ac.eval (.tmp 47) = _ := (sg.slot 2 (sg.anc 2 rfl))
      have sg47 := gt_of se47
      (try simp only [nth] at se47 sg47)
      exact op_val hwant hgo hst _ (by simp only [execOp, nth]; go_simp <;> omega) rfl
    · intro LL xx ac wc sg hst hwant QQ hgo
      have H := Lib.hid hst
      replace H := hp_read H 0 rfl
      refine hpS_load1 0 tyint H rfl (sg.slot 3 (sg.anc 3 rfl)) hwant (by (repeat (first | exact List.Mem.head _ | apply List.Mem.tail))) HRx.out (by rfl) (by simp [Addr.add]) ?_
      exact hgo _ () _ (fun _ _ => rfl) rfl hst
    · intro LL xx ac wc sg hst hwant QQ hgo
      exact op_val hwant hgo hst _ (exec_move rfl ((sg.free 2 (by kernel_rfl)).trans so2)) rfl
    · intro LL xx ac wc sg hst hwant QQ hgo
      have se49 : ac.eval (.tmp 49) = _ := (sg.slot 4 (sg.anc 4 rfl))
      have sg49 := gt_of se49
      have se50 : ac.eval (.tmp 50) = _ := (sg.slot 5 (sg.anc 5 rfl))
      have sg50 := gt_of se50
      (try simp only [nth] at se49 sg49 se50 sg50)
      exact op_val hwant hgo hst _ (by simp only [execOp, nth]; go_simp <;> omega) rfl
    · intro LL xx ac wc sg hst hwant QQ hgo
      exact op_val hwant hgo hst _ (exec_move rfl (sg.slot 6 (sg.anc 6 rfl))) rfl
    · intro LL xx ac wc sg hst hwant QQ hgo
      have hG : (x.who == who) = true := (want_t rfl rfl (sg.slot 7 (sg.anc 7 rfl))).symm.trans hwant
      exact op_val hwant hgo hst _ (exec_move rfl ((sg.free 12 (by kernel_rfl)).trans so12)) (cI hG)
    · intro LL xx ac wc sg hst hwant QQ hgo
      have hG : (x.who == who) = true := (want_t rfl rfl (sg.slot 7 (sg.anc 7 rfl))).symm.trans hwant
      exact op_val hwant hgo hst _ (exec_move rfl ((sg.free 13 (by kernel_rfl)).trans so13)) (cI hG)
    · intro LL xx ac wc sg hst hwant QQ hgo
      have hG : (x.who == who) = true := (want_t rfl rfl (sg.slot 7 (sg.anc 7 rfl))).symm.trans hwant
      have se53 : ac.eval (.tmp 53) = _ := (cT (sg.slot 8 (sg.anc 8 rfl)) hG)
      have sg53 := gt_of se53
      have se54 : ac.eval (.tmp 54) = _ := (cT (sg.slot 9 (sg.anc 9 rfl)) hG)
      have sg54 := gt_of se54
      (try simp only [nth] at se53 sg53 se54 sg54)
      exact op_val hwant hgo hst _ (by simp only [execOp, nth]; go_simp <;> omega) (cI hG)
    · intro LL xx ac wc sg hst hwant QQ hgo
      have hG : (x.who == who) = true := (want_t rfl rfl (sg.slot 7 (sg.anc 7 rfl))).symm.trans hwant
      have se55 : ac.eval (.tmp 55) = _ := (cT (sg.slot 10 (sg.anc 10 rfl)) hG)
      have sg55 := gt_of se55
      (try simp only [nth] at se55 sg55)
      exact op_val hwant hgo hst _ (by simp only [execOp, nth]; go_simp <;> omega) (cI hG)
    · intro LL xx ac wc sg hst hwant QQ hgo
      have hG : (x.who == who) = true := (want_t rfl rfl (sg.slot 7 (sg.anc 7 rfl))).symm.trans hwant
      have H := Lib.hid hst
      replace H := hp_read H 0 rfl
      refine hpS_load1 1 tyuint64 H rfl (cT (sg.slot 11 (sg.anc 11 rfl)) hG) hwant (by (repeat (first | exact List.Mem.head _ | apply List.Mem.tail))) HRx.out (by rfl) (by simp [Addr.add]) ?_
      exact hgo _ () _ (fun _ _ => rfl) (cI hG) hst
    · intro LL xx ac wc sg hst hwant QQ hgo
      have hG : (x.who == who) = true := (want_t rfl rfl (sg.slot 7 (sg.anc 7 rfl))).symm.trans hwant
      exact op_val hwant hgo hst _ (exec_move rfl ((sg.free 3 (by kernel_rfl)).trans so3)) (cI hG)
    · intro LL xx ac wc sg hst hwant QQ hgo
      have hG : (x.who == who) = true := (want_t rfl rfl (sg.slot 7 (sg.anc 7 rfl))).symm.trans hwant
      have se57 : ac.eval (.tmp 57) = _ := (cT (sg.slot 12 (sg.anc 12 rfl)) hG)
      have sg57 := gt_of se57
      have se58 : ac.eval (.tmp 58) = _ := (cT (sg.slot 13 (sg.anc 13 rfl)) hG)
      have sg58 := gt_of se58
      (try simp only [nth] at se57 sg57 se58 sg58)
      exact op_val hwant hgo hst _ (by simp only [execOp, nth]; go_simp <;> omega) (cI hG)
    · intro LL xx ac wc sg hst hwant QQ hgo
      exact op_val hwant hgo hst (.bool ((x.who == who) && (x.key == key))) (exec_and (Y := x.key == key) rfl (sg.slot 7 (sg.anc 7 rfl)) (fun qq => cT (sg.slot 14 (sg.anc 14 rfl)) qq)) rfl
  · refine skips [8, 9, 10, 11, 12, 13, 14] (by kernel_rfl) ?_
    refine List.forall_mem_cons.2 ⟨?_, List.forall_mem_cons.2 ⟨?_, List.forall_mem_cons.2 ⟨?_, List.forall_mem_cons.2 ⟨?_, List.forall_mem_cons.2 ⟨?_, List.forall_mem_cons.2 ⟨?_, List.forall_mem_cons.2 ⟨?_, fun _ h => by cases h⟩⟩⟩⟩⟩⟩⟩
    · intro oo hop LL xx ac sg hwant
      cases Option.some.inj hop
      have hG : (x.who == who) = false := (want_t rfl rfl (sg.slot 7 (sg.anc 7 rfl))).symm.trans hwant
      exact ⟨cF hG, fun _ h => h⟩
    · intro oo hop LL xx ac sg hwant
      cases Option.some.inj hop
      have hG : (x.who == who) = false := (want_t rfl rfl (sg.slot 7 (sg.anc 7 rfl))).symm.trans hwant
      exact ⟨cF hG, fun _ h => h⟩
    · intro oo hop LL xx ac sg hwant
      cases Option.some.inj hop
      have hG : (x.who == who) = false := (want_t rfl rfl (sg.slot 7 (sg.anc 7 rfl))).symm.trans hwant
      exact ⟨cF hG, fun _ h => h⟩
    · intro oo hop LL xx ac sg hwant
      cases Option.some.inj hop
      have hG : (x.who == who) = false := (want_t rfl rfl (sg.slot 7 (sg.anc 7 rfl))).symm.trans hwant
      exact ⟨cF hG, fun _ h => h⟩
    · intro oo hop LL xx ac sg hwant
      cases Option.some.inj hop
      have hG : (x.who == who) = false := (want_t rfl rfl (sg.slot 7 (sg.anc 7 rfl))).symm.trans hwant
      exact ⟨cF hG, fun _ h => h⟩
    · intro oo hop LL xx ac sg hwant
      cases Option.some.inj hop
      have hG : (x.who == who) = false := (want_t rfl rfl (sg.slot 7 (sg.anc 7 rfl))).symm.trans hwant
      exact ⟨cF hG, fun _ h => h⟩
    · intro oo hop LL xx ac sg hwant
      cases Option.some.inj hop
      have hG : (x.who == who) = false := (want_t rfl rfl (sg.slot 7 (sg.anc 7 rfl))).symm.trans hwant
      exact ⟨cF hG, fun _ h => h⟩
  · intro xx ac1 wz hfr hsl hst
    exact hfin ac1 wz (hfr.size.trans hz) hfr.defers (fr_keep hfr [45, 46, 47, 48, 49, 50, 51, 52, 53, 54, 55, 56, 57, 58, 59, 60] (by kernel_rfl)) (hsl 15 (by decide)) (Lib.hid hst)
set_option maxRecDepth 20000 in
theorem lookRC_r8 (c : Cfg) (la : Option Addr) (lc : Nat) (l : List EntR) (now : Int) (who : Int) (key : Int) (body : ByteArray) (hk0 : 0 ≤ key) (hk1 : key ≤ 18446744073709551615) (hl : l.length ≤ 1000000) (b5 : Nat) (z1lllld : ¬ (now < 0)) (z1lllrd : ¬ (1073741824 < now)) (z1llrd : ¬ (who < 1)) (z1lrd : ¬ (1073741824 < who)) (c3_2 : Nat) (j : Nat) (hj : j ≤ (l.filter (keepR c now)).length) (hon : (l.filter (keepR c now)).length ≤ 1000000) (z2d : j < ((l.filter (keepR c now)).length)) (y : Addr) (x : EntR) (HRx : Hid (((l.filter (keepR c now)).map entRow)[j]? = some [.int .i64 x.who, .int .u64 x.key, .string x.body, .string x.answer])) {wa wb : World} (H : Hid (Hp [] wa wb [rA (some y) c3_2 136 4 ((l.filter (keepR c now)).map entRow), rB b5 99 (rkL c (.slice la l.length lc)), rS la lc 4 (l.map entRow)])) (ac0 : Act) (hz : ac0.tmps.size = 79) (so4 : ac0.eval (.tmp 4) = .string body) (so12 : ac0.eval (.tmp 12) = .slice (some y) ((l.filter (keepR c now)).length) c3_2) (so13 : ac0.eval (.tmp 13) = .int .i64 j) {QR : Exit → Act → World → Prop} (hfin : ∀ (ac1 : Act) (wz : World), ac1.tmps.size = 79 → ac1.defers = ac0.defers → (∀ t, ([61, 62, 63, 64, 65, 66, 67] : List Nat).contains t = false → ac1.eval (.tmp t) = ac0.eval (.tmp t)) → ac1.eval (.tmp 67) = .bool (x.body.toList == body.toList) →  Hid (Hp [] wa wz [rA (some y) c3_2 136 4 ((l.filter (keepR c now)).map entRow), rB b5 99 (rkL c (.slice la l.length lc)), rS la lc 4 (l.map entRow)]) → QR .normal ac1 wz) : (regAt Try.f55 8).wp Try.prog QR ac0 wb := by
  refine wp_region_sq (by kernel_rfl) 79 hz (by kernel_rfl) (fun (xx : Unit) jx => nth [.slice (some y) ((l.filter (keepR c now)).length) c3_2, .int .i64 j, .pointer (some (y.add (j * 4))), .pointer (some ⟨(y.add (j * 4)).block, (y.add (j * 4)).off + 2, none⟩), .string x.body, .string body, .bool (x.body.toList == body.toList)] jx) (fun (LL : Nat → Bool) (xx : Unit) ww => Hp [] wa ww [rA (some y) c3_2 136 4 ((l.filter (keepR c now)).map entRow), rB b5 99 (rkL c (.slice la l.length lc)), rS la lc 4 (l.map entRow)]) () H.out ?_ (steps_al ?_) ?_ ?_
  · exact fun _ _ _ _ _ h => h
  · refine al_cons ?_ (al_cons ?_ (al_cons ?_ (al_cons ?_ (al_cons ?_ (al_cons ?_ (al_cons ?_ (al_nil)))))))
    · intro LL xx ac wc sg hst hwant QQ hgo
      exact op_val hwant hgo hst _ (exec_move rfl ((sg.free 12 (by kernel_rfl)).trans so12)) rfl
    · intro LL xx ac wc sg hst hwant QQ hgo
      exact op_val hwant hgo hst _ (exec_move rfl ((sg.free 13 (by kernel_rfl)).trans so13)) rfl
    · intro LL xx ac wc sg hst hwant QQ hgo
      have se61 : ac.eval (.tmp 61) = _ := (sg.slot 0 (sg.anc 0 rfl))
      have sg61 := gt_of se61
      have se62 : ac.eval (.tmp 62) = _ := (sg.slot 1 (sg.anc 1 rfl))
      have sg62 := gt_of se62
      (try simp only [nth] at se61 sg61 se62 sg62)
      exact op_val hwant hgo hst _ (by simp only [execOp, nth]; go_simp <;> omega) rfl
    · intro LL xx ac wc sg hst hwant QQ hgo
      have se63 : ac.eval (.tmp 63) = _ := (sg.slot 2 (sg.anc 2 rfl))
      have sg63 := gt_of se63
      (try simp only [nth] at se63 sg63)
      exact op_val hwant hgo hst _ (by simp only [execOp, nth]; go_simp <;> omega) rfl
    · intro LL xx ac wc sg hst hwant QQ hgo
      have H := Lib.hid hst
      replace H := hp_read H 0 rfl
      refine hpS_load1 2 tystring H rfl (sg.slot 3 (sg.anc 3 rfl)) hwant (by (repeat (first | exact List.Mem.head _ | apply List.Mem.tail))) HRx.out (by rfl) (by simp [Addr.add]) ?_
      exact hgo _ () _ (fun _ _ => rfl) rfl hst
    · intro LL xx ac wc sg hst hwant QQ hgo
      exact op_val hwant hgo hst _ (exec_move rfl ((sg.free 4 (by kernel_rfl)).trans so4)) rfl
    · intro LL xx ac wc sg hst hwant QQ hgo
      have se65 : ac.eval (.tmp 65) = _ := (sg.slot 4 (sg.anc 4 rfl))
      have sg65 := gt_of se65
      have se66 : ac.eval (.tmp 66) = _ := (sg.slot 5 (sg.anc 5 rfl))
      have sg66 := gt_of se66
      (try simp only [nth] at se65 sg65 se66 sg66)
      exact op_val hwant hgo hst _ (by simp only [execOp, nth]; go_simp <;> omega) rfl
  · exact skips [] (by kernel_rfl) (fun _ h => by cases h)
  · intro xx ac1 wz hfr hsl hst
    exact hfin ac1 wz (hfr.size.trans hz) hfr.defers (fr_keep hfr [61, 62, 63, 64, 65, 66, 67] (by kernel_rfl)) (hsl 6 (by decide)) (Lib.hid hst)
set_option maxRecDepth 20000 in
theorem lookRC_r9 (c : Cfg) (la : Option Addr) (lc : Nat) (l : List EntR) (now : Int) (who : Int) (key : Int) (body : ByteArray) (hk0 : 0 ≤ key) (hk1 : key ≤ 18446744073709551615) (hl : l.length ≤ 1000000) (b5 : Nat) (z1lllld : ¬ (now < 0)) (z1lllrd : ¬ (1073741824 < now)) (z1llrd : ¬ (who < 1)) (z1lrd : ¬ (1073741824 < who)) (c3_2 : Nat) (j : Nat) (hj : j ≤ (l.filter (keepR c now)).length) (hon : (l.filter (keepR c now)).length ≤ 1000000) (z2d : j < ((l.filter (keepR c now)).length)) (y : Addr) (x : EntR) (HRx : Hid (((l.filter (keepR c now)).map entRow)[j]? = some [.int .i64 x.who, .int .u64 x.key, .string x.body, .string x.answer])) {wa wb : World} (H : Hid (Hp [] wa wb [rA (some y) c3_2 136 4 ((l.filter (keepR c now)).map entRow), rB b5 99 (rkL c (.slice la l.length lc)), rS la lc 4 (l.map entRow)])) (ac0 : Act) (hz : ac0.tmps.size = 79) (so12 : ac0.eval (.tmp 12) = .slice (some y) ((l.filter (keepR c now)).length) c3_2) (so13 : ac0.eval (.tmp 13) = .int .i64 j) {QR : Exit → Act → World → Prop} (hfin : ∀ (ac1 : Act) (wz : World), ac1.tmps.size = 79 → ac1.defers = ac0.defers → (∀ t, ([10, 11, 68, 69, 70, 71, 72] : List Nat).contains t = false → ac1.eval (.tmp t) = ac0.eval (.tmp t)) → ac1.eval (.tmp 10) = .string x.answer → ac1.eval (.tmp 11) = .int .i64 2 →  Hid (Hp [] wa wz [rA (some y) c3_2 136 4 ((l.filter (keepR c now)).map entRow), rB b5 99 (rkL c (.slice la l.length lc)), rS la lc 4 (l.map entRow)]) → QR .normal ac1 wz) : (regAt Try.f55 9).wp Try.prog QR ac0 wb := by
  refine wp_region_sq (by kernel_rfl) 79 hz (by kernel_rfl) (fun (xx : Unit) jx => nth [.slice (some y) ((l.filter (keepR c now)).length) c3_2, .int .i64 j, .pointer (some (y.add (j * 4))), .pointer (some ⟨(y.add (j * 4)).block, (y.add (j * 4)).off + 3, none⟩), .string x.answer, .string x.answer, .int .i64 2] jx) (fun (LL : Nat → Bool) (xx : Unit) ww => Hp [] wa ww [rA (some y) c3_2 136 4 ((l.filter (keepR c now)).map entRow), rB b5 99 (rkL c (.slice la l.length lc)), rS la lc 4 (l.map entRow)]) () H.out ?_ (steps_al ?_) ?_ ?_
  · exact fun _ _ _ _ _ h => h
  · refine al_cons ?_ (al_cons ?_ (al_cons ?_ (al_cons ?_ (al_cons ?_ (al_cons ?_ (al_cons ?_ (al_nil)))))))
    · intro LL xx ac wc sg hst hwant QQ hgo
      exact op_val hwant hgo hst _ (exec_move rfl ((sg.free 12 (by kernel_rfl)).trans so12)) rfl
    · intro LL xx ac wc sg hst hwant QQ hgo
      exact op_val hwant hgo hst _ (exec_move rfl ((sg.free 13 (by kernel_rfl)).trans so13)) rfl
    · intro LL xx ac wc sg hst hwant QQ hgo
      have se68 : ac.eval (.tmp 68) = _ := (sg.slot 0 (sg.anc 0 rfl))
      have sg68 := gt_of se68
      have se69 : ac.eval (.tmp 69) = _ := (sg.slot 1 (sg.anc 1 rfl))
      have sg69 := gt_of se69
      (try simp only [nth] at se68 sg68 se69 sg69)
      exact op_val hwant hgo hst _ (by simp only [execOp, nth]; go_simp <;> omega) rfl
    · intro LL xx ac wc sg hst hwant QQ hgo
      have se70 : ac.eval (.tmp 70) = _ := (sg.slot 2 (sg.anc 2 rfl))
      have sg70 := gt_of se70
      (try simp only [nth] at se70 sg70)
      exact op_val hwant hgo hst _ (by simp only [execOp, nth]; go_simp <;> omega) rfl
    · intro LL xx ac wc sg hst hwant QQ hgo
      have H := Lib.hid hst
      replace H := hp_read H 0 rfl
      refine hpS_load1 3 tystring H rfl (sg.slot 3 (sg.anc 3 rfl)) hwant (by (repeat (first | exact List.Mem.head _ | apply List.Mem.tail))) HRx.out (by rfl) (by simp [Addr.add]) ?_
      exact hgo _ () _ (fun _ _ => rfl) rfl hst
    · intro LL xx ac wc sg hst hwant QQ hgo
      exact op_val hwant hgo hst _ (exec_assign rfl (sg.slot 4 (sg.anc 4 rfl))) rfl
    · intro LL xx ac wc sg hst hwant QQ hgo
      exact op_val hwant hgo hst _ (exec_assign rfl rfl) rfl
  · exact skips [] (by kernel_rfl) (fun _ h => by cases h)
  · intro xx ac1 wz hfr hsl hst
    exact hfin ac1 wz (hfr.size.trans hz) hfr.defers (fr_keep hfr [10, 11, 68, 69, 70, 71, 72] (by kernel_rfl)) (hsl 5 (by decide)) (hsl 6 (by decide)) (Lib.hid hst)
set_option maxRecDepth 20000 in
theorem lookRC_r10 (c : Cfg) (la : Option Addr) (lc : Nat) (l : List EntR) (now : Int) (who : Int) (key : Int) (hk0 : 0 ≤ key) (hk1 : key ≤ 18446744073709551615) (hl : l.length ≤ 1000000) (b5 : Nat) (z1lllld : ¬ (now < 0)) (z1lllrd : ¬ (1073741824 < now)) (z1llrd : ¬ (who < 1)) (z1lrd : ¬ (1073741824 < who)) (c3_2 : Nat) (j : Nat) (hj : j ≤ (l.filter (keepR c now)).length) (hon : (l.filter (keepR c now)).length ≤ 1000000) (z2d : j < ((l.filter (keepR c now)).length)) (y : Addr) {wa wb : World} (H : Hid (Hp [] wa wb [rA (some y) c3_2 136 4 ((l.filter (keepR c now)).map entRow), rB b5 99 (rkL c (.slice la l.length lc)), rS la lc 4 (l.map entRow)])) (ac0 : Act) (hz : ac0.tmps.size = 79)  {QR : Exit → Act → World → Prop} (hfin : ∀ (ac1 : Act) (wz : World), ac1.tmps.size = 79 → ac1.defers = ac0.defers → (∀ t, ([10, 11] : List Nat).contains t = false → ac1.eval (.tmp t) = ac0.eval (.tmp t)) → ac1.eval (.tmp 10) = .string (⟨#[]⟩ : ByteArray) → ac1.eval (.tmp 11) = .int .i64 3 →  Hid (Hp [] wa wz [rA (some y) c3_2 136 4 ((l.filter (keepR c now)).map entRow), rB b5 99 (rkL c (.slice la l.length lc)), rS la lc 4 (l.map entRow)]) → QR .normal ac1 wz) : (regAt Try.f55 10).wp Try.prog QR ac0 wb := by
  refine wp_region_sq (by kernel_rfl) 79 hz (by kernel_rfl) (fun (xx : Unit) jx => nth [.string (⟨#[]⟩ : ByteArray), .int .i64 3] jx) (fun (LL : Nat → Bool) (xx : Unit) ww => Hp [] wa ww [rA (some y) c3_2 136 4 ((l.filter (keepR c now)).map entRow), rB b5 99 (rkL c (.slice la l.length lc)), rS la lc 4 (l.map entRow)]) () H.out ?_ (steps_al ?_) ?_ ?_
  · exact fun _ _ _ _ _ h => h
  · refine al_cons ?_ (al_cons ?_ (al_nil))
    · intro LL xx ac wc sg hst hwant QQ hgo
      exact op_val hwant hgo hst _ (exec_assign rfl rfl) rfl
    · intro LL xx ac wc sg hst hwant QQ hgo
      exact op_val hwant hgo hst _ (exec_assign rfl rfl) rfl
  · exact skips [] (by kernel_rfl) (fun _ h => by cases h)
  · intro xx ac1 wz hfr hsl hst
    exact hfin ac1 wz (hfr.size.trans hz) hfr.defers (fr_keep hfr [10, 11] (by kernel_rfl)) (hsl 0 (by decide)) (hsl 1 (by decide)) (Lib.hid hst)
set_option maxRecDepth 20000 in
theorem lookRC_r6 (c : Cfg) (la : Option Addr) (lc : Nat) (l : List EntR) (now : Int) (who : Int) (key : Int) (hk0 : 0 ≤ key) (hk1 : key ≤ 18446744073709551615) (hl : l.length ≤ 1000000) (b5 : Nat) (z1lllld : ¬ (now < 0)) (z1lllrd : ¬ (1073741824 < now)) (z1llrd : ¬ (who < 1)) (z1lrd : ¬ (1073741824 < who)) (c3_2 : Nat) (j : Nat) (hj : j ≤ (l.filter (keepR c now)).length) (hon : (l.filter (keepR c now)).length ≤ 1000000) (z2d : j < ((l.filter (keepR c now)).length)) (y : Addr) {wa wb : World} (H : Hid (Hp [] wa wb [rA (some y) c3_2 136 4 ((l.filter (keepR c now)).map entRow), rB b5 99 (rkL c (.slice la l.length lc)), rS la lc 4 (l.map entRow)])) (ac0 : Act) (hz : ac0.tmps.size = 79) (so13 : ac0.eval (.tmp 13) = .int .i64 j) {QR : Exit → Act → World → Prop} (hfin : ∀ (ac1 : Act) (wz : World), ac1.tmps.size = 79 → ac1.defers = ac0.defers → (∀ t, ([13, 43, 44] : List Nat).contains t = false → ac1.eval (.tmp t) = ac0.eval (.tmp t)) → ac1.eval (.tmp 13) = .int .i64 (j + 1) →  Hid (Hp [] wa wz [rA (some y) c3_2 136 4 ((l.filter (keepR c now)).map entRow), rB b5 99 (rkL c (.slice la l.length lc)), rS la lc 4 (l.map entRow)]) → QR .normal ac1 wz) : (regAt Try.f55 6).wp Try.prog QR ac0 wb := by
  refine wp_region_sq (by kernel_rfl) 79 hz (by kernel_rfl) (fun (xx : Unit) jx => nth [.int .i64 j, .int .i64 (j + 1), .int .i64 (j + 1)] jx) (fun (LL : Nat → Bool) (xx : Unit) ww => Hp [] wa ww [rA (some y) c3_2 136 4 ((l.filter (keepR c now)).map entRow), rB b5 99 (rkL c (.slice la l.length lc)), rS la lc 4 (l.map entRow)]) () H.out ?_ (steps_al ?_) ?_ ?_
  · exact fun _ _ _ _ _ h => h
  · refine al_cons ?_ (al_cons ?_ (al_cons ?_ (al_nil)))
    · intro LL xx ac wc sg hst hwant QQ hgo
      exact op_val hwant hgo hst _ (exec_move rfl ((sg.yet 13 2 (sg.des 2 rfl) (by kernel_rfl)).trans so13)) rfl
    · intro LL xx ac wc sg hst hwant QQ hgo
      have se43 : ac.eval (.tmp 43) = _ := (sg.slot 0 (sg.anc 0 rfl))
      have sg43 := gt_of se43
      (try simp only [nth] at se43 sg43)
      have hnw : IntKind.i64.wrap (j + 1 : Int) = j + 1 := IntWalk.i64_in _ (by omega)
      exact op_val hwant hgo hst _ (by simp only [execOp, nth]; go_simp <;> omega) rfl
    · intro LL xx ac wc sg hst hwant QQ hgo
      exact op_val hwant hgo hst _ (exec_assign rfl (sg.slot 1 (sg.anc 1 rfl))) rfl
  · exact skips [] (by kernel_rfl) (fun _ h => by cases h)
  · intro xx ac1 wz hfr hsl hst
    exact hfin ac1 wz (hfr.size.trans hz) hfr.defers (fr_keep hfr [13, 43, 44] (by kernel_rfl)) (hsl 2 (by decide)) (Lib.hid hst)
set_option maxRecDepth 20000 in
theorem lookRC_r11 (c : Cfg) (la : Option Addr) (lc : Nat) (l : List EntR) (now : Int) (who : Int) (key : Int) (hk0 : 0 ≤ key) (hk1 : key ≤ 18446744073709551615) (hl : l.length ≤ 1000000) (b5 : Nat) (z1lllld : ¬ (now < 0)) (z1lllrd : ¬ (1073741824 < now)) (z1llrd : ¬ (who < 1)) (z1lrd : ¬ (1073741824 < who)) (a3_2 : Option Addr) (c3_2 : Nat) (j : Nat) (hj : j ≤ (l.filter (keepR c now)).length) (hon : (l.filter (keepR c now)).length ≤ 1000000) (z2d : ¬ (j < ((l.filter (keepR c now)).length))) {wa wb : World} (H : Hid (Hp [] wa wb [rA a3_2 c3_2 136 4 ((l.filter (keepR c now)).map entRow), rB b5 99 (rkL c (.slice la l.length lc)), rS la lc 4 (l.map entRow)])) (ac0 : Act) (hz : ac0.tmps.size = 79) (so5 : ac0.eval (.tmp 5) = .pointer (some ⟨b5, 0, none⟩)) (so12 : ac0.eval (.tmp 12) = .slice a3_2 ((l.filter (keepR c now)).length) c3_2) {QR : Exit → Act → World → Prop} (hfin : ∀ (ac1 : Act) (wz : World), ac1.tmps.size = 79 → ac1.defers = ac0.defers → (∀ t, ([73, 74, 75, 76, 77, 78] : List Nat).contains t = false → ac1.eval (.tmp t) = ac0.eval (.tmp t)) → ac1.eval (.tmp 78) = .bool (decide (c.keys ≤ ((l.filter (keepR c now)).length : Int))) →  Hid (Hp [] wa wz [rA a3_2 c3_2 136 4 ((l.filter (keepR c now)).map entRow), rB b5 99 (rkL c (.slice la l.length lc)), rS la lc 4 (l.map entRow)]) → QR .normal ac1 wz) : (regAt Try.f55 11).wp Try.prog QR ac0 wb := by
  refine wp_region_sq (by kernel_rfl) 79 hz (by kernel_rfl) (fun (xx : Unit) jx => nth [.slice a3_2 ((l.filter (keepR c now)).length) c3_2, .int .i64 ((l.filter (keepR c now)).length), .pointer (some ⟨b5, 0, none⟩), .pointer (some ⟨b5, 5, none⟩), .int .i64 c.keys, .bool (decide (c.keys ≤ ((l.filter (keepR c now)).length : Int)))] jx) (fun (LL : Nat → Bool) (xx : Unit) ww => Hp [] wa ww [rA a3_2 c3_2 136 4 ((l.filter (keepR c now)).map entRow), rB b5 99 (rkL c (.slice la l.length lc)), rS la lc 4 (l.map entRow)]) () H.out ?_ (steps_al ?_) ?_ ?_
  · exact fun _ _ _ _ _ h => h
  · refine al_cons ?_ (al_cons ?_ (al_cons ?_ (al_cons ?_ (al_cons ?_ (al_cons ?_ (al_nil))))))
    · intro LL xx ac wc sg hst hwant QQ hgo
      exact op_val hwant hgo hst _ (exec_move rfl ((sg.free 12 (by kernel_rfl)).trans so12)) rfl
    · intro LL xx ac wc sg hst hwant QQ hgo
      have se73 : ac.eval (.tmp 73) = _ := (sg.slot 0 (sg.anc 0 rfl))
      have sg73 := gt_of se73
      (try simp only [nth] at se73 sg73)
      exact op_val hwant hgo hst _ (by simp only [execOp, nth]; go_simp <;> omega) rfl
    · intro LL xx ac wc sg hst hwant QQ hgo
      have se5 : ac.eval (.tmp 5) = _ := ((sg.free 5 (by kernel_rfl)).trans so5)
      have sg5 := gt_of se5
      exact op_val hwant hgo hst _ (by simp only [execOp, nth]; go_simp <;> omega) rfl
    · intro LL xx ac wc sg hst hwant QQ hgo
      have se75 : ac.eval (.tmp 75) = _ := (sg.slot 2 (sg.anc 2 rfl))
      have sg75 := gt_of se75
      (try simp only [nth] at se75 sg75)
      exact op_val hwant hgo hst _ (by simp only [execOp, nth]; go_simp <;> omega) rfl
    · intro LL xx ac wc sg hst hwant QQ hgo
      have H := Lib.hid hst
      refine hpA_load1 tyint H rfl (sg.slot 3 (sg.anc 3 rfl)) hwant (by (repeat (first | exact List.Mem.head _ | apply List.Mem.tail))) (by rfl) ?_
      exact hgo _ () _ (fun _ _ => rfl) rfl hst
    · intro LL xx ac wc sg hst hwant QQ hgo
      have se74 : ac.eval (.tmp 74) = _ := (sg.slot 1 (sg.anc 1 rfl))
      have sg74 := gt_of se74
      have se77 : ac.eval (.tmp 77) = _ := (sg.slot 4 (sg.anc 4 rfl))
      have sg77 := gt_of se77
      (try simp only [nth] at se74 sg74 se77 sg77)
      exact op_val hwant hgo hst _ (by simp only [execOp, nth]; go_simp <;> omega) rfl
  · exact skips [] (by kernel_rfl) (fun _ h => by cases h)
  · intro xx ac1 wz hfr hsl hst
    exact hfin ac1 wz (hfr.size.trans hz) hfr.defers (fr_keep hfr [73, 74, 75, 76, 77, 78] (by kernel_rfl)) (hsl 5 (by decide)) (Lib.hid hst)
set_option maxRecDepth 20000 in
theorem lookRC_r12 (c : Cfg) (la : Option Addr) (lc : Nat) (l : List EntR) (now : Int) (who : Int) (key : Int) (hk0 : 0 ≤ key) (hk1 : key ≤ 18446744073709551615) (hl : l.length ≤ 1000000) (b5 : Nat) (z1lllld : ¬ (now < 0)) (z1lllrd : ¬ (1073741824 < now)) (z1llrd : ¬ (who < 1)) (z1lrd : ¬ (1073741824 < who)) (a3_2 : Option Addr) (c3_2 : Nat) (j : Nat) (hj : j ≤ (l.filter (keepR c now)).length) (hon : (l.filter (keepR c now)).length ≤ 1000000) (z2d : ¬ (j < ((l.filter (keepR c now)).length))) (z5d : c.keys ≤ ((l.filter (keepR c now)).length : Int)) {wa wb : World} (H : Hid (Hp [] wa wb [rA a3_2 c3_2 136 4 ((l.filter (keepR c now)).map entRow), rB b5 99 (rkL c (.slice la l.length lc)), rS la lc 4 (l.map entRow)])) (ac0 : Act) (hz : ac0.tmps.size = 79)  {QR : Exit → Act → World → Prop} (hfin : ∀ (ac1 : Act) (wz : World), ac1.tmps.size = 79 → ac1.defers = ac0.defers → (∀ t, ([10, 11] : List Nat).contains t = false → ac1.eval (.tmp t) = ac0.eval (.tmp t)) → ac1.eval (.tmp 10) = .string (⟨#[]⟩ : ByteArray) → ac1.eval (.tmp 11) = .int .i64 5 →  Hid (Hp [] wa wz [rA a3_2 c3_2 136 4 ((l.filter (keepR c now)).map entRow), rB b5 99 (rkL c (.slice la l.length lc)), rS la lc 4 (l.map entRow)]) → QR .normal ac1 wz) : (regAt Try.f55 12).wp Try.prog QR ac0 wb := by
  refine wp_region_sq (by kernel_rfl) 79 hz (by kernel_rfl) (fun (xx : Unit) jx => nth [.string (⟨#[]⟩ : ByteArray), .int .i64 5] jx) (fun (LL : Nat → Bool) (xx : Unit) ww => Hp [] wa ww [rA a3_2 c3_2 136 4 ((l.filter (keepR c now)).map entRow), rB b5 99 (rkL c (.slice la l.length lc)), rS la lc 4 (l.map entRow)]) () H.out ?_ (steps_al ?_) ?_ ?_
  · exact fun _ _ _ _ _ h => h
  · refine al_cons ?_ (al_cons ?_ (al_nil))
    · intro LL xx ac wc sg hst hwant QQ hgo
      exact op_val hwant hgo hst _ (exec_assign rfl rfl) rfl
    · intro LL xx ac wc sg hst hwant QQ hgo
      exact op_val hwant hgo hst _ (exec_assign rfl rfl) rfl
  · exact skips [] (by kernel_rfl) (fun _ h => by cases h)
  · intro xx ac1 wz hfr hsl hst
    exact hfin ac1 wz (hfr.size.trans hz) hfr.defers (fr_keep hfr [10, 11] (by kernel_rfl)) (hsl 0 (by decide)) (hsl 1 (by decide)) (Lib.hid hst)
set_option maxRecDepth 20000 in
theorem lookRC_r13 (c : Cfg) (la : Option Addr) (lc : Nat) (l : List EntR) (now : Int) (who : Int) (key : Int) (hk0 : 0 ≤ key) (hk1 : key ≤ 18446744073709551615) (hl : l.length ≤ 1000000) (b5 : Nat) (z1lllld : ¬ (now < 0)) (z1lllrd : ¬ (1073741824 < now)) (z1llrd : ¬ (who < 1)) (z1lrd : ¬ (1073741824 < who)) (a3_2 : Option Addr) (c3_2 : Nat) (j : Nat) (hj : j ≤ (l.filter (keepR c now)).length) (hon : (l.filter (keepR c now)).length ≤ 1000000) (z2d : ¬ (j < ((l.filter (keepR c now)).length))) (z5d : ¬ (c.keys ≤ ((l.filter (keepR c now)).length : Int))) {wa wb : World} (H : Hid (Hp [] wa wb [rA a3_2 c3_2 136 4 ((l.filter (keepR c now)).map entRow), rB b5 99 (rkL c (.slice la l.length lc)), rS la lc 4 (l.map entRow)])) (ac0 : Act) (hz : ac0.tmps.size = 79)  {QR : Exit → Act → World → Prop} (hfin : ∀ (ac1 : Act) (wz : World), ac1.tmps.size = 79 → ac1.defers = ac0.defers → (∀ t, ([10, 11] : List Nat).contains t = false → ac1.eval (.tmp t) = ac0.eval (.tmp t)) → ac1.eval (.tmp 10) = .string (⟨#[]⟩ : ByteArray) → ac1.eval (.tmp 11) = .int .i64 1 →  Hid (Hp [] wa wz [rA a3_2 c3_2 136 4 ((l.filter (keepR c now)).map entRow), rB b5 99 (rkL c (.slice la l.length lc)), rS la lc 4 (l.map entRow)]) → QR .normal ac1 wz) : (regAt Try.f55 13).wp Try.prog QR ac0 wb := by
  refine wp_region_sq (by kernel_rfl) 79 hz (by kernel_rfl) (fun (xx : Unit) jx => nth [.string (⟨#[]⟩ : ByteArray), .int .i64 1] jx) (fun (LL : Nat → Bool) (xx : Unit) ww => Hp [] wa ww [rA a3_2 c3_2 136 4 ((l.filter (keepR c now)).map entRow), rB b5 99 (rkL c (.slice la l.length lc)), rS la lc 4 (l.map entRow)]) () H.out ?_ (steps_al ?_) ?_ ?_
  · exact fun _ _ _ _ _ h => h
  · refine al_cons ?_ (al_cons ?_ (al_nil))
    · intro LL xx ac wc sg hst hwant QQ hgo
      exact op_val hwant hgo hst _ (exec_assign rfl rfl) rfl
    · intro LL xx ac wc sg hst hwant QQ hgo
      exact op_val hwant hgo hst _ (exec_assign rfl rfl) rfl
  · exact skips [] (by kernel_rfl) (fun _ h => by cases h)
  · intro xx ac1 wz hfr hsl hst
    exact hfin ac1 wz (hfr.size.trans hz) hfr.defers (fr_keep hfr [10, 11] (by kernel_rfl)) (hsl 0 (by decide)) (hsl 1 (by decide)) (Lib.hid hst)
set_option maxRecDepth 20000 in
theorem lookRC (c : Cfg) (la : Option Addr) (lc : Nat) (l : List EntR) (now : Int) (who : Int) (key : Int) (body : ByteArray) (w : World) (h : (rS la lc 4 (l.map entRow)).holds w) (hk0 : 0 ≤ key) (hk1 : key ≤ 18446744073709551615) (hl : l.length ≤ 1000000) (hok : Hid (∀ e ∈ l, 0 ≤ e.key ∧ e.key ≤ 18446744073709551615)) : Calls Try.prog 55 #[.agg (rkA c (.slice la l.length lc)), .int .i64 now, .int .i64 who, .int .u64 key, .string body] w fun e w' => e = .returned (.tuple #[.string (lookR c l now who key body).1, .int .i64 (lookR c l now who key body).2]) ∧ Off [] w w' := by
  have H := Lib.hid (Hp.start [] w)
  have H := hp_old H h (by decide)
  clear h
  refine calls_start Try.func55 rfl 79 rfl (by simp) (fun aa nn dd sl => ?_)
  have ss0 : aa.eval (.tmp 0) = .agg (rkA c (.slice la l.length lc)) := sl 0 (by simp)
  have ss1 : aa.eval (.tmp 1) = .int .i64 now := sl 1 (by simp)
  have ss2 : aa.eval (.tmp 2) = .int .i64 who := sl 2 (by simp)
  have ss3 : aa.eval (.tmp 3) = .int .u64 key := sl 3 (by simp)
  have ss4 : aa.eval (.tmp 4) = .string body := sl 4 (by simp)
  clear sl
  refine wp_seq_k fun KK1 hK1 => ?_
  refine lookRC_r0 c la lc l key hk0 hk1 hl H aa nn ss0 ?_
  clear H nn
  intro b5 aa ww nn dd1 kp ss5 ss10 ss11 H
  replace ss0 := (kp 0 rfl).trans ss0
  replace ss1 := (kp 1 rfl).trans ss1
  replace ss2 := (kp 2 rfl).trans ss2
  replace ss3 := (kp 3 rfl).trans ss3
  replace ss4 := (kp 4 rfl).trans ss4
  replace dd := dd1.trans dd
  clear dd1 kp
  refine then_normal ?_
  refine hK1 _ _ ?_
  refine wp_seq_k fun KK2 hK2 => ?_
  refine wp_seq_k fun KK3 hK3 => ?_
  refine lookRC_r1 c la lc l now who key hk0 hk1 hl b5 H aa nn ss1 ss2 ss3 ss5 ?_
  clear H nn
  intro aa ww nn dd1 kp ss35 H
  replace ss0 := (kp 0 rfl).trans ss0
  replace ss1 := (kp 1 rfl).trans ss1
  replace ss2 := (kp 2 rfl).trans ss2
  replace ss3 := (kp 3 rfl).trans ss3
  replace ss4 := (kp 4 rfl).trans ss4
  replace ss5 := (kp 5 rfl).trans ss5
  replace ss10 := (kp 10 rfl).trans ss10
  replace ss11 := (kp 11 rfl).trans ss11
  replace dd := dd1.trans dd
  clear dd1 kp
  refine then_normal ?_
  refine hK3 _ _ ?_
  refine wp_cond_split ss35 (fun z1 => ?_) (fun z1 => ?_)
  · skip
    refine wp_seq_k fun KK4 hK4 => ?_
    refine lookRC_r2 c la lc l key hk0 hk1 hl b5 H aa nn  ?_
    clear H nn ss10 ss11
    intro aa ww nn dd1 kp ss10 ss11 H
    replace ss0 := (kp 0 rfl).trans ss0
    replace ss1 := (kp 1 rfl).trans ss1
    replace ss2 := (kp 2 rfl).trans ss2
    replace ss3 := (kp 3 rfl).trans ss3
    replace ss4 := (kp 4 rfl).trans ss4
    replace ss5 := (kp 5 rfl).trans ss5
    replace ss35 := (kp 35 rfl).trans ss35
    replace dd := dd1.trans dd
    clear dd1 kp
    refine then_normal ?_
    refine hK4 _ _ ?_
    refine wp_ret ?_
    refine then_ret ?_
    exact ret2 rfl dd ss10 ss11 ⟨by unfold lookR; simp only [z1, cond_true, cond_false, Bool.not_true, Bool.not_false, Bool.true_and, Bool.and_true, Bool.false_and, Bool.and_false, Bool.true_or, Bool.or_true, Bool.false_or, Bool.or_false], H.out.off⟩
  · skip
    have z1l : ((((decide (now < 0)) || (decide (1073741824 < now))) || (decide (who < 1))) || (decide (1073741824 < who))) = false := ol z1
    have z1ll : (((decide (now < 0)) || (decide (1073741824 < now))) || (decide (who < 1))) = false := ol z1l
    have z1lll : ((decide (now < 0)) || (decide (1073741824 < now))) = false := ol z1ll
    have z1llll : (decide (now < 0)) = false := ol z1lll
    have z1lllld : ¬ (now < 0) := of_decide_eq_false z1llll
    have z1lllr : (decide (1073741824 < now)) = false := orr z1lll
    have z1lllrd : ¬ (1073741824 < now) := of_decide_eq_false z1lllr
    have z1llr : (decide (who < 1)) = false := orr z1ll
    have z1llrd : ¬ (who < 1) := of_decide_eq_false z1llr
    have z1lr : (decide (1073741824 < who)) = false := orr z1l
    have z1lrd : ¬ (1073741824 < who) := of_decide_eq_false z1lr
    have z1r : (!(goodRV c key now)) = false := orr z1
    have z1rn : (goodRV c key now) = true := bt z1r
    refine wp_skip ?_
    refine then_normal ?_
    refine hK2 _ _ ?_
    refine wp_seq_k fun KK5 hK5 => ?_
    refine lookRC_r3 c la lc l now who key hk0 hk1 hl hok b5 z1lllld z1lllrd z1llrd z1lrd H aa nn ss1 ss5 ?_
    clear H nn
    intro a3_2 c3_2 aa ww nn dd1 kp ss12 H
    replace ss0 := (kp 0 rfl).trans ss0
    replace ss1 := (kp 1 rfl).trans ss1
    replace ss2 := (kp 2 rfl).trans ss2
    replace ss3 := (kp 3 rfl).trans ss3
    replace ss4 := (kp 4 rfl).trans ss4
    replace ss5 := (kp 5 rfl).trans ss5
    replace ss10 := (kp 10 rfl).trans ss10
    replace ss11 := (kp 11 rfl).trans ss11
    replace ss35 := (kp 35 rfl).trans ss35
    replace dd := dd1.trans dd
    clear dd1 kp
    refine then_normal ?_
    refine hK5 _ _ ?_
    refine wp_seq_k fun KK6 hK6 => ?_
    refine wp_seq_k fun KK7 hK7 => ?_
    refine lookRC_r4 c la lc l now who key hk0 hk1 hl b5 z1lllld z1lllrd z1llrd z1lrd a3_2 c3_2 H aa nn  ?_
    clear H nn
    intro aa ww nn dd1 kp ss13 H
    replace ss0 := (kp 0 rfl).trans ss0
    replace ss1 := (kp 1 rfl).trans ss1
    replace ss2 := (kp 2 rfl).trans ss2
    replace ss3 := (kp 3 rfl).trans ss3
    replace ss4 := (kp 4 rfl).trans ss4
    replace ss5 := (kp 5 rfl).trans ss5
    replace ss10 := (kp 10 rfl).trans ss10
    replace ss11 := (kp 11 rfl).trans ss11
    replace ss12 := (kp 12 rfl).trans ss12
    replace ss35 := (kp 35 rfl).trans ss35
    replace dd := dd1.trans dd
    clear dd1 kp
    refine then_normal ?_
    refine hK7 _ _ ?_
    refine wp_block ?_
    refine wp_loop (fun ab wv => ∃ j : Nat, j ≤ (l.filter (keepR c now)).length ∧ (l.filter (keepR c now)).length ≤ 1000000 ∧ Hid (∀ k, k < j → ∀ y, (l.filter (keepR c now))[k]? = some y → hitR who key y = false) ∧ ab.tmps.size = 79 ∧ ab.defers = [] ∧ ab.eval (.tmp 0) = .agg (rkA c (.slice la l.length lc)) ∧ ab.eval (.tmp 1) = .int .i64 now ∧ ab.eval (.tmp 2) = .int .i64 who ∧ ab.eval (.tmp 3) = .int .u64 key ∧ ab.eval (.tmp 4) = .string body ∧ ab.eval (.tmp 5) = .pointer (some ⟨b5, 0, none⟩) ∧ ab.eval (.tmp 12) = .slice a3_2 ((l.filter (keepR c now)).length) c3_2 ∧ ab.eval (.tmp 13) = .int .i64 j ∧ ab.eval (.tmp 35) = .bool (((((decide (now < 0)) || (decide (1073741824 < now))) || (decide (who < 1))) || (decide (1073741824 < who))) || (!(goodRV c key now))) ∧ Hid (Hp [] w wv [rA a3_2 c3_2 136 4 ((l.filter (keepR c now)).map entRow), rB b5 99 (rkL c (.slice la l.length lc)), rS la lc 4 (l.map entRow)])) (fun ab _ => (l.filter (keepR c now)).length - (intOf (ab.eval (.tmp 13))).toNat) ⟨0, (Nat.zero_le _), (Nat.le_trans (List.length_filter_le _ _) hl), (Lib.hid (fun k hk => absurd hk (by omega))), nn, dd, ss0, ss1, ss2, ss3, ss4, ss5, ss12, ss13, ss35, H⟩ (fun aa wv hI => ?_)
    clear H nn dd ss0 ss1 ss2 ss3 ss4 ss5 ss10 ss11 ss12 ss13 ss35
    obtain ⟨j, hj, hon, hf, nn, dd, ss0, ss1, ss2, ss3, ss4, ss5, ss12, ss13, ss35, H⟩ := hI
    have mu1_13 := ss13
    refine wp_seq_k fun KK8 hK8 => ?_
    refine wp_seq_k fun KK9 hK9 => ?_
    refine lookRC_r5 c la lc l now who key hk0 hk1 hl b5 z1lllld z1lllrd z1llrd z1lrd a3_2 c3_2 j hj hon H aa nn ss12 ss13 ?_
    clear H nn
    intro aa ww nn dd1 kp ss42 H
    replace ss0 := (kp 0 rfl).trans ss0
    replace ss1 := (kp 1 rfl).trans ss1
    replace ss2 := (kp 2 rfl).trans ss2
    replace ss3 := (kp 3 rfl).trans ss3
    replace ss4 := (kp 4 rfl).trans ss4
    replace ss5 := (kp 5 rfl).trans ss5
    replace ss12 := (kp 12 rfl).trans ss12
    replace ss13 := (kp 13 rfl).trans ss13
    replace ss35 := (kp 35 rfl).trans ss35
    replace dd := dd1.trans dd
    clear dd1 kp
    refine then_normal ?_
    refine hK9 _ _ ?_
    refine wp_cond_split ss42 (fun z2 => ?_) (fun z2 => ?_)
    · skip
      have z2d : j < ((l.filter (keepR c now)).length) := of_decide_eq_true z2
      obtain ⟨y, rfl⟩ := some_of_row (hp_held (hp_read H 0 rfl) (show rS a3_2 c3_2 4 ((l.filter (keepR c now)).map entRow) ∈ _ by simp)) (i := j) (by simpa using z2d)
      obtain ⟨x, hx⟩ : ∃ x, (l.filter (keepR c now))[j]? = some x := ⟨(l.filter (keepR c now))[j], List.getElem?_eq_getElem (by omega)⟩
      have HRx := Lib.hid (show ((l.filter (keepR c now)).map entRow)[j]? = some [.int .i64 x.who, .int .u64 x.key, .string x.body, .string x.answer] by rw [List.getElem?_map, hx]; rfl)
      have HXx := Lib.hid hx
      clear hx
      refine wp_skip ?_
      refine then_normal ?_
      refine hK8 _ _ ?_
      refine wp_seq_k fun KK10 hK10 => ?_
      refine wp_block ?_
      refine wp_seq_k fun KK11 hK11 => ?_
      refine lookRC_r7 c la lc l now who key body hk0 hk1 hl b5 z1lllld z1lllrd z1llrd z1lrd c3_2 j hj hon z2d y x HRx H aa nn ss2 ss3 ss12 ss13 ?_
      clear H nn
      intro aa ww nn dd1 kp ss60 H
      replace ss0 := (kp 0 rfl).trans ss0
      replace ss1 := (kp 1 rfl).trans ss1
      replace ss2 := (kp 2 rfl).trans ss2
      replace ss3 := (kp 3 rfl).trans ss3
      replace ss4 := (kp 4 rfl).trans ss4
      replace ss5 := (kp 5 rfl).trans ss5
      replace ss12 := (kp 12 rfl).trans ss12
      replace ss13 := (kp 13 rfl).trans ss13
      replace ss35 := (kp 35 rfl).trans ss35
      replace ss42 := (kp 42 rfl).trans ss42
      replace dd := dd1.trans dd
      clear dd1 kp
      refine then_normal ?_
      refine hK11 _ _ ?_
      refine wp_cond_split ss60 (fun z3 => ?_) (fun z3 => ?_)
      · skip
        have z3l : (x.who == who) = true := bl z3
        have z3lo : (x.who != who) = false := eqq_t z3l
        have z3r : (x.key == key) = true := br z3
        have z3ro : (x.key != key) = false := eqq_t z3r
        have hsome := Lib.hid (find_at (hitR who key) (l.filter (keepR c now)) j x hf.out HXx.out z3)
        refine wp_seq_k fun KK12 hK12 => ?_
        refine wp_seq_k fun KK13 hK13 => ?_
        refine lookRC_r8 c la lc l now who key body hk0 hk1 hl b5 z1lllld z1lllrd z1llrd z1lrd c3_2 j hj hon z2d y x HRx H aa nn ss4 ss12 ss13 ?_
        clear H nn
        intro aa ww nn dd1 kp ss67 H
        replace ss0 := (kp 0 rfl).trans ss0
        replace ss1 := (kp 1 rfl).trans ss1
        replace ss2 := (kp 2 rfl).trans ss2
        replace ss3 := (kp 3 rfl).trans ss3
        replace ss4 := (kp 4 rfl).trans ss4
        replace ss5 := (kp 5 rfl).trans ss5
        replace ss12 := (kp 12 rfl).trans ss12
        replace ss13 := (kp 13 rfl).trans ss13
        replace ss35 := (kp 35 rfl).trans ss35
        replace ss42 := (kp 42 rfl).trans ss42
        replace ss60 := (kp 60 rfl).trans ss60
        replace dd := dd1.trans dd
        clear dd1 kp
        refine then_normal ?_
        refine hK13 _ _ ?_
        refine wp_cond_split ss67 (fun z4 => ?_) (fun z4 => ?_)
        · skip
          have z4o : (x.body.toList != body.toList) = false := eqq_t z4
          refine wp_seq_k fun KK14 hK14 => ?_
          refine lookRC_r9 c la lc l now who key body hk0 hk1 hl b5 z1lllld z1lllrd z1llrd z1lrd c3_2 j hj hon z2d y x HRx H aa nn ss12 ss13 ?_
          clear H nn
          intro aa ww nn dd1 kp ss10 ss11 H
          replace ss0 := (kp 0 rfl).trans ss0
          replace ss1 := (kp 1 rfl).trans ss1
          replace ss2 := (kp 2 rfl).trans ss2
          replace ss3 := (kp 3 rfl).trans ss3
          replace ss4 := (kp 4 rfl).trans ss4
          replace ss5 := (kp 5 rfl).trans ss5
          replace ss12 := (kp 12 rfl).trans ss12
          replace ss13 := (kp 13 rfl).trans ss13
          replace ss35 := (kp 35 rfl).trans ss35
          replace ss42 := (kp 42 rfl).trans ss42
          replace ss60 := (kp 60 rfl).trans ss60
          replace ss67 := (kp 67 rfl).trans ss67
          replace dd := dd1.trans dd
          clear dd1 kp
          refine then_normal ?_
          refine hK14 _ _ ?_
          refine wp_ret ?_
          refine then_ret ?_
          refine block_ret ?_
          refine then_ret ?_
          refine then_ret ?_
          refine block_ret ?_
          refine then_ret ?_
          exact ret2 rfl dd ss10 ss11 ⟨by unfold lookR; simp only [hsome.out, z1, z1l, z1ll, z1lll, z1llll, z1lllr, z1llr, z1lr, z1r, z1rn, z2, z3, z3l, z3lo, z3r, z3ro, z4, z4o, cond_true, cond_false, Bool.not_true, Bool.not_false, Bool.true_and, Bool.and_true, Bool.false_and, Bool.and_false, Bool.true_or, Bool.or_true, Bool.false_or, Bool.or_false], H.out.off⟩
        · skip
          have z4o : (x.body.toList != body.toList) = true := eqq_f z4
          refine wp_skip ?_
          refine then_normal ?_
          refine hK12 _ _ ?_
          refine wp_seq_k fun KK15 hK15 => ?_
          refine lookRC_r10 c la lc l now who key hk0 hk1 hl b5 z1lllld z1lllrd z1llrd z1lrd c3_2 j hj hon z2d y H aa nn  ?_
          clear H nn
          intro aa ww nn dd1 kp ss10 ss11 H
          replace ss0 := (kp 0 rfl).trans ss0
          replace ss1 := (kp 1 rfl).trans ss1
          replace ss2 := (kp 2 rfl).trans ss2
          replace ss3 := (kp 3 rfl).trans ss3
          replace ss4 := (kp 4 rfl).trans ss4
          replace ss5 := (kp 5 rfl).trans ss5
          replace ss12 := (kp 12 rfl).trans ss12
          replace ss13 := (kp 13 rfl).trans ss13
          replace ss35 := (kp 35 rfl).trans ss35
          replace ss42 := (kp 42 rfl).trans ss42
          replace ss60 := (kp 60 rfl).trans ss60
          replace ss67 := (kp 67 rfl).trans ss67
          replace dd := dd1.trans dd
          clear dd1 kp
          refine then_normal ?_
          refine hK15 _ _ ?_
          refine wp_ret ?_
          refine block_ret ?_
          refine then_ret ?_
          refine then_ret ?_
          refine block_ret ?_
          refine then_ret ?_
          exact ret2 rfl dd ss10 ss11 ⟨by unfold lookR; simp only [hsome.out, z1, z1l, z1ll, z1lll, z1llll, z1lllr, z1llr, z1lr, z1r, z1rn, z2, z3, z3l, z3lo, z3r, z3ro, z4, z4o, cond_true, cond_false, Bool.not_true, Bool.not_false, Bool.true_and, Bool.and_true, Bool.false_and, Bool.and_false, Bool.true_or, Bool.or_true, Bool.false_or, Bool.or_false], H.out.off⟩
      · skip
        refine wp_skip ?_
        refine block_normal ?_
        refine then_normal ?_
        refine hK10 _ _ ?_
        refine lookRC_r6 c la lc l now who key hk0 hk1 hl b5 z1lllld z1lllrd z1llrd z1lrd c3_2 j hj hon z2d y H aa nn ss13 ?_
        clear H nn ss13
        intro aa ww nn dd1 kp ss13 H
        replace ss0 := (kp 0 rfl).trans ss0
        replace ss1 := (kp 1 rfl).trans ss1
        replace ss2 := (kp 2 rfl).trans ss2
        replace ss3 := (kp 3 rfl).trans ss3
        replace ss4 := (kp 4 rfl).trans ss4
        replace ss5 := (kp 5 rfl).trans ss5
        replace ss12 := (kp 12 rfl).trans ss12
        replace ss35 := (kp 35 rfl).trans ss35
        replace ss42 := (kp 42 rfl).trans ss42
        replace ss60 := (kp 60 rfl).trans ss60
        replace dd := dd1.trans dd
        clear dd1 kp
        refine then_normal ?_
        refine ⟨⟨j + 1, (by omega), hon, (Lib.hid (find_next hf.out HXx.out z3)), nn, dd, ss0, ss1, ss2, ss3, ss4, ss5, ss12, ss13, ss35, (Lib.hid (H.out.sub (by repeat (first | exact List.Sublist.refl _ | apply List.Sublist.cons₂ | apply List.Sublist.cons))))⟩, ?_⟩
        simp only [mu1_13, ss13, intOf]
        omega
    · skip
      have z2d : ¬ (j < ((l.filter (keepR c now)).length)) := of_decide_eq_false z2
      have hnone := Lib.hid (find_no (hitR who key) (l.filter (keepR c now)) (fun k hk => hf.out k (by omega)))
      refine wp_exit ?_
      refine then_exit ?_
      refine then_exit ?_
      refine block_exit ?_
      refine then_normal ?_
      refine hK6 _ _ ?_
      refine wp_seq_k fun KK16 hK16 => ?_
      refine wp_seq_k fun KK17 hK17 => ?_
      refine lookRC_r11 c la lc l now who key hk0 hk1 hl b5 z1lllld z1lllrd z1llrd z1lrd a3_2 c3_2 j hj hon z2d H aa nn ss5 ss12 ?_
      clear H nn
      intro aa ww nn dd1 kp ss78 H
      replace ss0 := (kp 0 rfl).trans ss0
      replace ss1 := (kp 1 rfl).trans ss1
      replace ss2 := (kp 2 rfl).trans ss2
      replace ss3 := (kp 3 rfl).trans ss3
      replace ss4 := (kp 4 rfl).trans ss4
      replace ss5 := (kp 5 rfl).trans ss5
      replace ss12 := (kp 12 rfl).trans ss12
      replace ss13 := (kp 13 rfl).trans ss13
      replace ss35 := (kp 35 rfl).trans ss35
      replace ss42 := (kp 42 rfl).trans ss42
      replace dd := dd1.trans dd
      clear dd1 kp
      refine then_normal ?_
      refine hK17 _ _ ?_
      refine wp_cond_split ss78 (fun z5 => ?_) (fun z5 => ?_)
      · skip
        have z5d : c.keys ≤ ((l.filter (keepR c now)).length : Int) := of_decide_eq_true z5
        refine wp_seq_k fun KK18 hK18 => ?_
        refine lookRC_r12 c la lc l now who key hk0 hk1 hl b5 z1lllld z1lllrd z1llrd z1lrd a3_2 c3_2 j hj hon z2d z5d H aa nn  ?_
        clear H nn
        intro aa ww nn dd1 kp ss10 ss11 H
        replace ss0 := (kp 0 rfl).trans ss0
        replace ss1 := (kp 1 rfl).trans ss1
        replace ss2 := (kp 2 rfl).trans ss2
        replace ss3 := (kp 3 rfl).trans ss3
        replace ss4 := (kp 4 rfl).trans ss4
        replace ss5 := (kp 5 rfl).trans ss5
        replace ss12 := (kp 12 rfl).trans ss12
        replace ss13 := (kp 13 rfl).trans ss13
        replace ss35 := (kp 35 rfl).trans ss35
        replace ss42 := (kp 42 rfl).trans ss42
        replace ss78 := (kp 78 rfl).trans ss78
        replace dd := dd1.trans dd
        clear dd1 kp
        refine then_normal ?_
        refine hK18 _ _ ?_
        refine wp_ret ?_
        refine then_ret ?_
        exact ret2 rfl dd ss10 ss11 ⟨by unfold lookR; simp only [hnone.out, z1, z1l, z1ll, z1lll, z1llll, z1lllr, z1llr, z1lr, z1r, z1rn, z2, z5, cond_true, cond_false, Bool.not_true, Bool.not_false, Bool.true_and, Bool.and_true, Bool.false_and, Bool.and_false, Bool.true_or, Bool.or_true, Bool.false_or, Bool.or_false], H.out.off⟩
      · skip
        have z5d : ¬ (c.keys ≤ ((l.filter (keepR c now)).length : Int)) := of_decide_eq_false z5
        refine wp_skip ?_
        refine then_normal ?_
        refine hK16 _ _ ?_
        refine wp_seq_k fun KK19 hK19 => ?_
        refine lookRC_r13 c la lc l now who key hk0 hk1 hl b5 z1lllld z1lllrd z1llrd z1lrd a3_2 c3_2 j hj hon z2d z5d H aa nn  ?_
        clear H nn
        intro aa ww nn dd1 kp ss10 ss11 H
        replace ss0 := (kp 0 rfl).trans ss0
        replace ss1 := (kp 1 rfl).trans ss1
        replace ss2 := (kp 2 rfl).trans ss2
        replace ss3 := (kp 3 rfl).trans ss3
        replace ss4 := (kp 4 rfl).trans ss4
        replace ss5 := (kp 5 rfl).trans ss5
        replace ss12 := (kp 12 rfl).trans ss12
        replace ss13 := (kp 13 rfl).trans ss13
        replace ss35 := (kp 35 rfl).trans ss35
        replace ss42 := (kp 42 rfl).trans ss42
        replace ss78 := (kp 78 rfl).trans ss78
        replace dd := dd1.trans dd
        clear dd1 kp
        refine then_normal ?_
        refine hK19 _ _ ?_
        refine wp_ret ?_
        exact ret2 rfl dd ss10 ss11 ⟨by unfold lookR; simp only [hnone.out, z1, z1l, z1ll, z1lll, z1llll, z1lllr, z1llr, z1lr, z1r, z1rn, z2, z5, cond_true, cond_false, Bool.not_true, Bool.not_false, Bool.true_and, Bool.and_true, Bool.false_and, Bool.and_false, Bool.true_or, Bool.or_true, Bool.false_or, Bool.or_false], H.out.off⟩
end Go.Proofs.Ytfhhfmkfkoemjaa.Se6
