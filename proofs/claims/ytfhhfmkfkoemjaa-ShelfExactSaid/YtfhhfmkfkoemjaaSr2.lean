/- The reference of layer 6: With. -/
import Derived.Test.YtfhhfmkfkoemjaaProg
import Derived.Below
import Derived.WalkKit
import Derived.KernelRfl
import Derived.RowKit3
import Derived.Deep.LoopGhost
import Derived.Deep.QuietTactic
import Derived.BigQuiet
import Derived.WideLaws
import Derived.Deep.DeepCutAuto
import Derived.Deep.CutBlock
import Derived.Lib.Hide
import Derived.Laws.BitsLemmas
import Derived.Laws.Bits64
import Derived.Laws.BitsAllLaws
import Derived.IntWalk
import Derived.Outline
import Derived.WalkSpells
import Derived.Test.YtfhhfmkfkoemjaaMem
import Derived.Test.YtfhhfmkfkoemjaaSr1
namespace Go.Proofs.Ytfhhfmkfkoemjaa.Si6
open Go.RowKit Go.Proofs.Ytfhhfmkfkoemjaa.Mem Go.Proofs.Ytfhhfmkfkoemjaa.Reg
set_option linter.unusedVariables false
set_option linter.unusedSimpArgs false

theorem gap_len (fl : List PairV) (i : Nat) (p : PairV) (hi : i ≤ fl.length) : (insAt fl i p).length = fl.length + 1 := by simp [insAt]; omega
theorem gap_at (fl : List PairV) (i : Nat) (p : PairV) (hi : i ≤ fl.length) : (insAt fl i p)[i]? = some p := by
  have h : (fl.take i).length = i := by simp; omega
  unfold insAt
  rw [List.getElem?_append_right (by omega), h, Nat.sub_self]
  rfl
theorem gap_left (fl : List PairV) (q : Nat) (p r : PairV) (hr : fl[q]? = some r) : (insAt fl (q + 1) p)[q]? = some r := by
  obtain ⟨hq, rfl⟩ := List.getElem?_eq_some_iff.1 hr
  unfold insAt
  rw [List.getElem?_append_left (by simp; omega), List.getElem?_take, if_pos (by omega)]
  exact hr
theorem gap_swap (fl : List PairV) (q : Nat) (p r : PairV) (hr : fl[q]? = some r) : (((insAt fl (q + 1) p).map rowOf).set (q + 1) (rowOf r)).set q (rowOf p) = (insAt fl q p).map rowOf := by
  obtain ⟨hq, rfl⟩ := List.getElem?_eq_some_iff.1 hr
  rw [← List.map_set, ← List.map_set]
  congr 1
  have h1 : fl.drop q = fl[q] :: fl.drop (q + 1) := (List.getElem_cons_drop (h := hq)).symm
  have h2 : fl.take (q + 1) = fl.take q ++ [fl[q]] := List.take_succ_eq_append_getElem hq
  have h3 : (fl.take q).length = q := by simp; omega
  unfold insAt
  rw [h1, h2, List.append_assoc]
  rw [List.set_append_right _ _ (by omega), h3]
  rw [List.set_append_right _ _ (by omega), h3]
  simp
theorem strEqD {x y : KeyV} : x.toList = y.toList ↔ x = y := by
  rw [ByteArray.toList_eq, ByteArray.toList_eq]
  exact ⟨fun h => ByteArray.ext (Array.toList_inj.1 h), fun h => by rw [h]⟩
theorem keepN_iff {k : KeyV} {p : PairV} : keepN k p = true ↔ p.1 ≠ k := by
  unfold keepN
  simp [strEqD]
theorem gap_with {l : List PairV} (hs : Sorted l) (room : Int) (k : KeyV) (v : Int) (hr : isV k l = true ∨ ((l.length : Int) == room) = false) {i : Nat} (h1 : ∀ j, i ≤ j → ∀ p, (l.filter (keepN k))[j]? = some p → ltK k p.1 = true) (h2 : i = 0 ∨ ∃ q p, i = q + 1 ∧ (l.filter (keepN k))[q]? = some p ∧ ltK k p.1 = false) : insAt (l.filter (keepN k)) i (k, v) = (withV room k v l).1 := by
  have hx : ∀ x, x ∈ l.filter (keepN k) ↔ x ∈ l ∧ x.1 ≠ k := fun x => by rw [List.mem_filter, keepN_iff]
  have hf : Sorted (l.filter (keepN k)) := List.Pairwise.filter _ hs
  generalize l.filter (keepN k) = fl at *
  have hb : ∀ p ∈ fl.take i, ltK p.1 k = true := by
    intro p hp
    obtain ⟨j, hj⟩ := List.mem_iff_getElem?.1 hp
    rw [List.getElem?_take] at hj
    split at hj
    · rcases h2 with rfl | ⟨q, r, rfl, hr1, hr2⟩
      · omega
      · have hlt : ltK r.1 k = true := ltK_total hr2 (Ne.symm ((hx r).1 (List.mem_of_getElem? hr1)).2)
        rcases Nat.lt_or_ge j q with h3 | h3
        · obtain ⟨hj1, rfl⟩ := List.getElem?_eq_some_iff.1 hj
          obtain ⟨hq1, rfl⟩ := List.getElem?_eq_some_iff.1 hr1
          exact ltK_trans (List.pairwise_iff_getElem.1 hf j q hj1 hq1 h3) hlt
        · obtain rfl : j = q := by omega
          rw [hr1] at hj
          cases hj
          exact hlt
    · cases hj
  have hd : ∀ p ∈ fl.drop i, ltK k p.1 = true := by
    intro p hp
    obtain ⟨j, hj⟩ := List.mem_iff_getElem?.1 hp
    rw [List.getElem?_drop] at hj
    exact h1 _ (by omega) p hj
  refine sorted_ext ?_ (sorted_with hs room k v) fun x => ?_
  · unfold insAt
    refine List.pairwise_append.2 ⟨List.Pairwise.sublist (List.take_sublist _ _) hf, List.pairwise_cons.2 ⟨fun p hp => hd p hp, List.Pairwise.sublist (List.drop_sublist _ _) hf⟩, fun p hp q hq => ?_⟩
    rcases List.mem_cons.1 hq with rfl | hq
    · exact hb p hp
    · exact ltK_trans (hb p hp) (hd q hq)
  · rw [mem_with hs room k v hr x, ← hx]
    have hy : x ∈ fl ↔ x ∈ fl.take i ∨ x ∈ fl.drop i := by rw [← List.mem_append, List.take_append_drop]
    rw [hy]
    unfold insAt
    simp only [List.mem_append, List.mem_cons]
    constructor
    · rintro (h | h | h) <;> simp [h]
    · rintro (h | h | h) <;> simp [h]
theorem getR_is {l : List PairV} (hs : Sorted l) (k : KeyV) : getR k l = getV k l := by
  rcases Bool.eq_false_or_eq_true (isV k l) with q | q
  · obtain ⟨r, hr, hrk, _⟩ := is_some q
    have hm := List.mem_of_getElem? hr
    have h1 : l.find? (hitP k) = some r := by
      cases h : l.find? (hitP k) with
      | none =>
        have := List.find?_eq_none.1 h r hm
        simp [hitP, hrk] at this
      | some y =>
        have h2 := List.find?_some h
        have h3 : y.1 = k := strEqD.1 (by simpa [hitP] using h2)
        rw [keys_one hs (List.mem_of_find?_eq_some h) hm (h3.trans hrk.symm)]
    unfold getR getV
    rw [h1, if_pos q, hr]
  · have h1 : l.find? (hitP k) = none := by
      rw [List.find?_eq_none]
      intro y hy h
      have h3 : y.1 = k := strEqD.1 (by simpa [hitP] using h)
      have := (isV_iff hs k).2 ⟨y, hy, h3⟩
      rw [q] at this
      cases this
    unfold getR getV
    rw [h1, if_neg (by simp [q])]
set_option maxRecDepth 20000 in
theorem withRno6_r0 (la : Option Addr) (lc : Nat) (l : List PairV) (room : Int) (k : KeyV) (hl : l.length ≤ 1000000) (q : ((!(getR k l).2) && (decide (room ≤ (l.length : Int)))) = true) {wa wb : World} (H : Hid (Hp [] wa wb [rS la lc 2 (l.map rowOf)])) (ac0 : Act) (hz : ac0.tmps.size = 77)  {QR : Exit → Act → World → Prop} (hfin : ∀ (ac1 : Act) (wz : World), ac1.tmps.size = 77 → ac1.defers = ac0.defers → (∀ t, ([8, 9] : List Nat).contains t = false → ac1.eval (.tmp t) = ac0.eval (.tmp t)) → ac1.eval (.tmp 8) = .slice none 0 0 → ac1.eval (.tmp 9) = .bool false →  Hid (Hp [] wa wz [rS la lc 2 (l.map rowOf)]) → QR .normal ac1 wz) : (regAt Try.f38 0).wp Try.prog QR ac0 wb := by
  refine wp_region_sq (by kernel_rfl) 77 hz (by kernel_rfl) (fun (xx : Unit) jx => nth [.slice none 0 0, .bool false] jx) (fun (LL : Nat → Bool) (xx : Unit) ww => Hp [] wa ww [rS la lc 2 (l.map rowOf)]) () H.out ?_ (steps_al ?_) ?_ ?_
  · exact fun _ _ _ _ _ h => h
  · refine al_cons ?_ (al_cons ?_ (al_nil))
    · intro LL xx ac wc sg hst hwant QQ hgo
      exact op_val hwant hgo hst _ (exec_assign rfl rfl) rfl
    · intro LL xx ac wc sg hst hwant QQ hgo
      exact op_val hwant hgo hst _ (exec_assign rfl rfl) rfl
  · exact skips [] (by kernel_rfl) (fun _ h => by cases h)
  · intro xx ac1 wz hfr hsl hst
    exact hfin ac1 wz (hfr.size.trans hz) hfr.defers (fr_keep hfr [8, 9] (by kernel_rfl)) (hsl 0 (by decide)) (hsl 1 (by decide)) (Lib.hid hst)
set_option maxRecDepth 20000 in
theorem withRno6_r1 (la : Option Addr) (lc : Nat) (l : List PairV) (room : Int) (k : KeyV) (hl : l.length ≤ 1000000) (q : ((!(getR k l).2) && (decide (room ≤ (l.length : Int)))) = true) {wa wb : World} (H : Hid (Hp [] wa wb [rS la lc 2 (l.map rowOf)])) (ac0 : Act) (hz : ac0.tmps.size = 77) (so0 : ac0.eval (.tmp 0) = .slice la l.length lc) (so2 : ac0.eval (.tmp 2) = .string k) {QR : Exit → Act → World → Prop} (hfin : ∀ (ac1 : Act) (wz : World), ac1.tmps.size = 77 → ac1.defers = ac0.defers → (∀ t, ([10, 11, 15, 16, 17, 18, 19, 20] : List Nat).contains t = false → ac1.eval (.tmp t) = ac0.eval (.tmp t)) → ac1.eval (.tmp 11) = .bool ((getR k l).2) →  Hid (Hp [] wa wz [rS la lc 2 (l.map rowOf)]) → QR .normal ac1 wz) : (regAt Try.f38 1).wp Try.prog QR ac0 wb := by
  refine wp_region_sq (by kernel_rfl) 77 hz (by kernel_rfl) (fun (xx : Unit) jx => nth [.slice la l.length lc, .string k, .tuple #[.int .i64 ((getR k l).1), .bool ((getR k l).2)], .tuple #[.int .i64 ((getR k l).1), .bool ((getR k l).2)], .int .i64 ((getR k l).1), .bool ((getR k l).2), .int .i64 ((getR k l).1), .bool ((getR k l).2)] jx) (fun (LL : Nat → Bool) (xx : Unit) ww => Hp [] wa ww [rS la lc 2 (l.map rowOf)]) () H.out ?_ (steps_al ?_) ?_ ?_
  · exact fun _ _ _ _ _ h => h
  · refine al_cons ?_ (al_cons ?_ (al_cons ?_ (al_cons ?_ (al_cons ?_ (al_cons ?_ (al_cons ?_ (al_cons ?_ (al_nil))))))))
    · intro LL xx ac wc sg hst hwant QQ hgo
      exact op_val hwant hgo hst _ (exec_move rfl ((sg.free 0 (by kernel_rfl)).trans so0)) rfl
    · intro LL xx ac wc sg hst hwant QQ hgo
      exact op_val hwant hgo hst _ (exec_move rfl ((sg.free 2 (by kernel_rfl)).trans so2)) rfl
    · intro LL xx ac wc sg hst hwant QQ hgo
      have se16 : ac.eval (.tmp 16) = _ := (sg.slot 0 (sg.anc 0 rfl))
      have sg16 := gt_of se16
      have se17 : ac.eval (.tmp 17) = _ := (sg.slot 1 (sg.anc 1 rfl))
      have sg17 := gt_of se17
      (try simp only [nth] at se16 sg16 se17 sg17)
      have H := Lib.hid hst
      refine op_call hwant hgo 41 _ (by simp only [execOp]; go_simp) (getRC la lc l k wc (hp_held H (by (repeat (first | exact List.Mem.head _ | apply List.Mem.tail)))) hl) ?_
      rintro er wd ⟨rfl, hof⟩
      exact ⟨_, (), rfl, fun _ _ => rfl, rfl, Hp.quiet hst hof⟩
    · intro LL xx ac wc sg hst hwant QQ hgo
      exact op_val hwant hgo hst _ (exec_move rfl (sg.slot 2 (sg.anc 2 rfl))) rfl
    · intro LL xx ac wc sg hst hwant QQ hgo
      have se15 : ac.eval (.tmp 15) = _ := (sg.slot 3 (sg.anc 3 rfl))
      have sg15 := gt_of se15
      (try simp only [nth] at se15 sg15)
      exact op_val hwant hgo hst _ (by simp only [execOp, nth]; go_simp <;> omega) rfl
    · intro LL xx ac wc sg hst hwant QQ hgo
      have se15 : ac.eval (.tmp 15) = _ := (sg.slot 3 (sg.anc 3 rfl))
      have sg15 := gt_of se15
      (try simp only [nth] at se15 sg15)
      exact op_val hwant hgo hst _ (by simp only [execOp, nth]; go_simp <;> omega) rfl
    · intro LL xx ac wc sg hst hwant QQ hgo
      exact op_val hwant hgo hst _ (exec_assign rfl (sg.slot 4 (sg.anc 4 rfl))) rfl
    · intro LL xx ac wc sg hst hwant QQ hgo
      exact op_val hwant hgo hst _ (exec_assign rfl (sg.slot 5 (sg.anc 5 rfl))) rfl
  · exact skips [] (by kernel_rfl) (fun _ h => by cases h)
  · intro xx ac1 wz hfr hsl hst
    exact hfin ac1 wz (hfr.size.trans hz) hfr.defers (fr_keep hfr [10, 11, 15, 16, 17, 18, 19, 20] (by kernel_rfl)) (hsl 7 (by decide)) (Lib.hid hst)
set_option maxRecDepth 20000 in
theorem withRno6_r2 (la : Option Addr) (lc : Nat) (l : List PairV) (room : Int) (k : KeyV) (hl : l.length ≤ 1000000) (q : ((!(getR k l).2) && (decide (room ≤ (l.length : Int)))) = true) {wa wb : World} (H : Hid (Hp [] wa wb [rS la lc 2 (l.map rowOf)])) (ac0 : Act) (hz : ac0.tmps.size = 77) (so0 : ac0.eval (.tmp 0) = .slice la l.length lc) (so1 : ac0.eval (.tmp 1) = .int .i64 room) (so11 : ac0.eval (.tmp 11) = .bool ((getR k l).2)) {QR : Exit → Act → World → Prop} (hfin : ∀ (ac1 : Act) (wz : World), ac1.tmps.size = 77 → ac1.defers = ac0.defers → (∀ t, ([21, 22, 23, 24, 25, 26, 27, 28] : List Nat).contains t = false → ac1.eval (.tmp t) = ac0.eval (.tmp t)) → ac1.eval (.tmp 28) = .bool true →  Hid (Hp [] wa wz [rS la lc 2 (l.map rowOf)]) → QR .normal ac1 wz) : (regAt Try.f38 2).wp Try.prog QR ac0 wb := by
  refine wp_region_sq (by kernel_rfl) 77 hz (by kernel_rfl) (fun (xx : Unit) jx => nth [.bool ((getR k l).2), .bool (!((getR k l).2)), .bool (!((getR k l).2)), bif (!((getR k l).2)) then .slice la l.length lc else undef, bif (!((getR k l).2)) then .int .i64 l.length else undef, bif (!((getR k l).2)) then .int .i64 room else undef, bif (!((getR k l).2)) then .bool (decide (room ≤ (l.length : Int))) else undef, .bool true] jx) (fun (LL : Nat → Bool) (xx : Unit) ww => Hp [] wa ww [rS la lc 2 (l.map rowOf)]) () H.out ?_ (steps_al ?_) ?_ ?_
  · exact fun _ _ _ _ _ h => h
  · refine al_cons ?_ (al_cons ?_ (al_cons ?_ (al_cons ?_ (al_cons ?_ (al_cons ?_ (al_cons ?_ (al_cons ?_ (al_nil))))))))
    · intro LL xx ac wc sg hst hwant QQ hgo
      exact op_val hwant hgo hst _ (exec_move rfl ((sg.free 11 (by kernel_rfl)).trans so11)) rfl
    · intro LL xx ac wc sg hst hwant QQ hgo
      have se21 : ac.eval (.tmp 21) = _ := (sg.slot 0 (sg.anc 0 rfl))
      have sg21 := gt_of se21
      (try simp only [nth] at se21 sg21)
      exact op_val hwant hgo hst _ (by simp only [execOp, nth]; go_simp <;> omega) rfl
    · intro LL xx ac wc sg hst hwant QQ hgo
      exact op_val hwant hgo hst _ (exec_move rfl (sg.slot 1 (sg.anc 1 rfl))) rfl
    · intro LL xx ac wc sg hst hwant QQ hgo
      have hG : (!((getR k l).2)) = true := (want_t rfl rfl (sg.slot 2 (sg.anc 2 rfl))).symm.trans hwant
      exact op_val hwant hgo hst _ (exec_move rfl ((sg.free 0 (by kernel_rfl)).trans so0)) (cI hG)
    · intro LL xx ac wc sg hst hwant QQ hgo
      have hG : (!((getR k l).2)) = true := (want_t rfl rfl (sg.slot 2 (sg.anc 2 rfl))).symm.trans hwant
      have se24 : ac.eval (.tmp 24) = _ := (cT (sg.slot 3 (sg.anc 3 rfl)) hG)
      have sg24 := gt_of se24
      (try simp only [nth] at se24 sg24)
      exact op_val hwant hgo hst _ (by simp only [execOp, nth]; go_simp <;> omega) (cI hG)
    · intro LL xx ac wc sg hst hwant QQ hgo
      have hG : (!((getR k l).2)) = true := (want_t rfl rfl (sg.slot 2 (sg.anc 2 rfl))).symm.trans hwant
      exact op_val hwant hgo hst _ (exec_move rfl ((sg.free 1 (by kernel_rfl)).trans so1)) (cI hG)
    · intro LL xx ac wc sg hst hwant QQ hgo
      have hG : (!((getR k l).2)) = true := (want_t rfl rfl (sg.slot 2 (sg.anc 2 rfl))).symm.trans hwant
      have se25 : ac.eval (.tmp 25) = _ := (cT (sg.slot 4 (sg.anc 4 rfl)) hG)
      have sg25 := gt_of se25
      have se26 : ac.eval (.tmp 26) = _ := (cT (sg.slot 5 (sg.anc 5 rfl)) hG)
      have sg26 := gt_of se26
      (try simp only [nth] at se25 sg25 se26 sg26)
      exact op_val hwant hgo hst _ (by simp only [execOp, nth]; go_simp <;> omega) (cI hG)
    · intro LL xx ac wc sg hst hwant QQ hgo
      exact op_val hwant hgo hst (.bool ((!((getR k l).2)) && (decide (room ≤ (l.length : Int))))) (exec_and (Y := decide (room ≤ (l.length : Int))) rfl (sg.slot 2 (sg.anc 2 rfl)) (fun qq => cT (sg.slot 6 (sg.anc 6 rfl)) qq)) (congrArg Value.bool (by first | assumption | (simp; done)))
  · refine skips [3, 4, 5, 6] (by kernel_rfl) ?_
    refine List.forall_mem_cons.2 ⟨?_, List.forall_mem_cons.2 ⟨?_, List.forall_mem_cons.2 ⟨?_, List.forall_mem_cons.2 ⟨?_, fun _ h => by cases h⟩⟩⟩⟩
    · intro oo hop LL xx ac sg hwant
      cases Option.some.inj hop
      have hG : (!((getR k l).2)) = false := (want_t rfl rfl (sg.slot 2 (sg.anc 2 rfl))).symm.trans hwant
      exact ⟨cF hG, fun _ h => h⟩
    · intro oo hop LL xx ac sg hwant
      cases Option.some.inj hop
      have hG : (!((getR k l).2)) = false := (want_t rfl rfl (sg.slot 2 (sg.anc 2 rfl))).symm.trans hwant
      exact ⟨cF hG, fun _ h => h⟩
    · intro oo hop LL xx ac sg hwant
      cases Option.some.inj hop
      have hG : (!((getR k l).2)) = false := (want_t rfl rfl (sg.slot 2 (sg.anc 2 rfl))).symm.trans hwant
      exact ⟨cF hG, fun _ h => h⟩
    · intro oo hop LL xx ac sg hwant
      cases Option.some.inj hop
      have hG : (!((getR k l).2)) = false := (want_t rfl rfl (sg.slot 2 (sg.anc 2 rfl))).symm.trans hwant
      exact ⟨cF hG, fun _ h => h⟩
  · intro xx ac1 wz hfr hsl hst
    exact hfin ac1 wz (hfr.size.trans hz) hfr.defers (fr_keep hfr [21, 22, 23, 24, 25, 26, 27, 28] (by kernel_rfl)) (hsl 7 (by decide)) (Lib.hid hst)
set_option maxRecDepth 20000 in
theorem withRno6_r3 (la : Option Addr) (lc : Nat) (l : List PairV) (room : Int) (k : KeyV) (hl : l.length ≤ 1000000) (q : ((!(getR k l).2) && (decide (room ≤ (l.length : Int)))) = true) {wa wb : World} (H : Hid (Hp [] wa wb [rS la lc 2 (l.map rowOf)])) (ac0 : Act) (hz : ac0.tmps.size = 77) (so0 : ac0.eval (.tmp 0) = .slice la l.length lc) {QR : Exit → Act → World → Prop} (hfin : ∀ (ac1 : Act) (wz : World), ac1.tmps.size = 77 → ac1.defers = ac0.defers → (∀ t, ([8, 9, 29] : List Nat).contains t = false → ac1.eval (.tmp t) = ac0.eval (.tmp t)) → ac1.eval (.tmp 8) = .slice la l.length lc → ac1.eval (.tmp 9) = .bool false →  Hid (Hp [] wa wz [rS la lc 2 (l.map rowOf)]) → QR .normal ac1 wz) : (regAt Try.f38 3).wp Try.prog QR ac0 wb := by
  refine wp_region_sq (by kernel_rfl) 77 hz (by kernel_rfl) (fun (xx : Unit) jx => nth [.slice la l.length lc, .slice la l.length lc, .bool false] jx) (fun (LL : Nat → Bool) (xx : Unit) ww => Hp [] wa ww [rS la lc 2 (l.map rowOf)]) () H.out ?_ (steps_al ?_) ?_ ?_
  · exact fun _ _ _ _ _ h => h
  · refine al_cons ?_ (al_cons ?_ (al_cons ?_ (al_nil)))
    · intro LL xx ac wc sg hst hwant QQ hgo
      exact op_val hwant hgo hst _ (exec_move rfl ((sg.free 0 (by kernel_rfl)).trans so0)) rfl
    · intro LL xx ac wc sg hst hwant QQ hgo
      exact op_val hwant hgo hst _ (exec_assign rfl (sg.slot 0 (sg.anc 0 rfl))) rfl
    · intro LL xx ac wc sg hst hwant QQ hgo
      exact op_val hwant hgo hst _ (exec_assign rfl rfl) rfl
  · exact skips [] (by kernel_rfl) (fun _ h => by cases h)
  · intro xx ac1 wz hfr hsl hst
    exact hfin ac1 wz (hfr.size.trans hz) hfr.defers (fr_keep hfr [8, 9, 29] (by kernel_rfl)) (hsl 1 (by decide)) (hsl 2 (by decide)) (Lib.hid hst)
set_option maxRecDepth 20000 in
theorem withRno6 (la : Option Addr) (lc : Nat) (l : List PairV) (room : Int) (k : KeyV) (v : Int) (w : World) (h : (rS la lc 2 (l.map rowOf)).holds w) (hl : l.length ≤ 1000000) (q : ((!(getR k l).2) && (decide (room ≤ (l.length : Int)))) = true) : Calls Try.prog 38 #[.slice la l.length lc, .int .i64 room, .string k, .int .i64 v] w fun e w' => e = .returned (.tuple #[.slice la l.length lc, .bool false]) ∧ Off [] w w' := by
  have H := Lib.hid (Hp.start [] w)
  have H := hp_old H h (by decide)
  clear h
  refine calls_start Try.func38 rfl 77 rfl (by simp) (fun aa nn dd sl => ?_)
  have ss0 : aa.eval (.tmp 0) = .slice la l.length lc := sl 0 (by simp)
  have ss1 : aa.eval (.tmp 1) = .int .i64 room := sl 1 (by simp)
  have ss2 : aa.eval (.tmp 2) = .string k := sl 2 (by simp)
  have ss3 : aa.eval (.tmp 3) = .int .i64 v := sl 3 (by simp)
  clear sl
  refine wp_seq_k fun KK1 hK1 => ?_
  refine withRno6_r0 la lc l room k hl q H aa nn  ?_
  clear H nn
  intro aa ww nn dd1 kp ss8 ss9 H
  replace ss0 := (kp 0 rfl).trans ss0
  replace ss1 := (kp 1 rfl).trans ss1
  replace ss2 := (kp 2 rfl).trans ss2
  replace ss3 := (kp 3 rfl).trans ss3
  replace dd := dd1.trans dd
  clear dd1 kp
  refine then_normal ?_
  refine hK1 _ _ ?_
  refine wp_seq_k fun KK2 hK2 => ?_
  refine withRno6_r1 la lc l room k hl q H aa nn ss0 ss2 ?_
  clear H nn
  intro aa ww nn dd1 kp ss11 H
  replace ss0 := (kp 0 rfl).trans ss0
  replace ss1 := (kp 1 rfl).trans ss1
  replace ss2 := (kp 2 rfl).trans ss2
  replace ss3 := (kp 3 rfl).trans ss3
  replace ss8 := (kp 8 rfl).trans ss8
  replace ss9 := (kp 9 rfl).trans ss9
  replace dd := dd1.trans dd
  clear dd1 kp
  refine then_normal ?_
  refine hK2 _ _ ?_
  refine wp_seq_k fun KK3 hK3 => ?_
  refine wp_seq_k fun KK4 hK4 => ?_
  refine withRno6_r2 la lc l room k hl q H aa nn ss0 ss1 ss11 ?_
  clear H nn
  intro aa ww nn dd1 kp ss28 H
  replace ss0 := (kp 0 rfl).trans ss0
  replace ss1 := (kp 1 rfl).trans ss1
  replace ss2 := (kp 2 rfl).trans ss2
  replace ss3 := (kp 3 rfl).trans ss3
  replace ss8 := (kp 8 rfl).trans ss8
  replace ss9 := (kp 9 rfl).trans ss9
  replace ss11 := (kp 11 rfl).trans ss11
  replace dd := dd1.trans dd
  clear dd1 kp
  refine then_normal ?_
  refine hK4 _ _ ?_
  refine wp_cond_true ss28 ?_
  refine wp_seq_k fun KK5 hK5 => ?_
  refine withRno6_r3 la lc l room k hl q H aa nn ss0 ?_
  clear H nn ss8 ss9
  intro aa ww nn dd1 kp ss8 ss9 H
  replace ss0 := (kp 0 rfl).trans ss0
  replace ss1 := (kp 1 rfl).trans ss1
  replace ss2 := (kp 2 rfl).trans ss2
  replace ss3 := (kp 3 rfl).trans ss3
  replace ss11 := (kp 11 rfl).trans ss11
  replace ss28 := (kp 28 rfl).trans ss28
  replace dd := dd1.trans dd
  clear dd1 kp
  refine then_normal ?_
  refine hK5 _ _ ?_
  refine wp_ret ?_
  refine then_ret ?_
  exact ret2 rfl dd ss8 ss9 ⟨rfl, H.out.off⟩
theorem gap_more {fl : List PairV} {q : Nat} {k : KeyV} {r : PairV} (h : ∀ j, q + 1 ≤ j → ∀ p, fl[j]? = some p → ltK k p.1 = true) (hr : fl[q]? = some r) (hlt : ltK k r.1 = true) : ∀ j, q ≤ j → ∀ p, fl[j]? = some p → ltK k p.1 = true := fun j hj p hp => by
  rcases Nat.lt_or_ge q j with h1 | h1
  · exact h j h1 p hp
  · obtain rfl : j = q := by omega
    rw [hr] at hp
    exact Option.some.inj hp ▸ hlt
set_option maxRecDepth 20000 in
theorem withRyes6_r0 (la : Option Addr) (lc : Nat) (l : List PairV) (room : Int) (k : KeyV) (hl : l.length ≤ 1000000) (q0 : ((!(getR k l).2) && (decide (room ≤ (l.length : Int)))) = false) (hfl : (l.filter (keepN k)).length ≤ 1000000) {wa wb : World} (H : Hid (Hp [] wa wb [rS la lc 2 (l.map rowOf)])) (ac0 : Act) (hz : ac0.tmps.size = 77)  {QR : Exit → Act → World → Prop} (hfin : ∀ (ac1 : Act) (wz : World), ac1.tmps.size = 77 → ac1.defers = ac0.defers → (∀ t, ([8, 9] : List Nat).contains t = false → ac1.eval (.tmp t) = ac0.eval (.tmp t)) → ac1.eval (.tmp 8) = .slice none 0 0 → ac1.eval (.tmp 9) = .bool false →  Hid (Hp [] wa wz [rS la lc 2 (l.map rowOf)]) → QR .normal ac1 wz) : (regAt Try.f38 0).wp Try.prog QR ac0 wb := by
  refine wp_region_sq (by kernel_rfl) 77 hz (by kernel_rfl) (fun (xx : Unit) jx => nth [.slice none 0 0, .bool false] jx) (fun (LL : Nat → Bool) (xx : Unit) ww => Hp [] wa ww [rS la lc 2 (l.map rowOf)]) () H.out ?_ (steps_al ?_) ?_ ?_
  · exact fun _ _ _ _ _ h => h
  · refine al_cons ?_ (al_cons ?_ (al_nil))
    · intro LL xx ac wc sg hst hwant QQ hgo
      exact op_val hwant hgo hst _ (exec_assign rfl rfl) rfl
    · intro LL xx ac wc sg hst hwant QQ hgo
      exact op_val hwant hgo hst _ (exec_assign rfl rfl) rfl
  · exact skips [] (by kernel_rfl) (fun _ h => by cases h)
  · intro xx ac1 wz hfr hsl hst
    exact hfin ac1 wz (hfr.size.trans hz) hfr.defers (fr_keep hfr [8, 9] (by kernel_rfl)) (hsl 0 (by decide)) (hsl 1 (by decide)) (Lib.hid hst)
set_option maxRecDepth 20000 in
theorem withRyes6_r1 (la : Option Addr) (lc : Nat) (l : List PairV) (room : Int) (k : KeyV) (hl : l.length ≤ 1000000) (q0 : ((!(getR k l).2) && (decide (room ≤ (l.length : Int)))) = false) (hfl : (l.filter (keepN k)).length ≤ 1000000) {wa wb : World} (H : Hid (Hp [] wa wb [rS la lc 2 (l.map rowOf)])) (ac0 : Act) (hz : ac0.tmps.size = 77) (so0 : ac0.eval (.tmp 0) = .slice la l.length lc) (so2 : ac0.eval (.tmp 2) = .string k) {QR : Exit → Act → World → Prop} (hfin : ∀ (ac1 : Act) (wz : World), ac1.tmps.size = 77 → ac1.defers = ac0.defers → (∀ t, ([10, 11, 15, 16, 17, 18, 19, 20] : List Nat).contains t = false → ac1.eval (.tmp t) = ac0.eval (.tmp t)) → ac1.eval (.tmp 11) = .bool ((getR k l).2) →  Hid (Hp [] wa wz [rS la lc 2 (l.map rowOf)]) → QR .normal ac1 wz) : (regAt Try.f38 1).wp Try.prog QR ac0 wb := by
  refine wp_region_sq (by kernel_rfl) 77 hz (by kernel_rfl) (fun (xx : Unit) jx => nth [.slice la l.length lc, .string k, .tuple #[.int .i64 ((getR k l).1), .bool ((getR k l).2)], .tuple #[.int .i64 ((getR k l).1), .bool ((getR k l).2)], .int .i64 ((getR k l).1), .bool ((getR k l).2), .int .i64 ((getR k l).1), .bool ((getR k l).2)] jx) (fun (LL : Nat → Bool) (xx : Unit) ww => Hp [] wa ww [rS la lc 2 (l.map rowOf)]) () H.out ?_ (steps_al ?_) ?_ ?_
  · exact fun _ _ _ _ _ h => h
  · refine al_cons ?_ (al_cons ?_ (al_cons ?_ (al_cons ?_ (al_cons ?_ (al_cons ?_ (al_cons ?_ (al_cons ?_ (al_nil))))))))
    · intro LL xx ac wc sg hst hwant QQ hgo
      exact op_val hwant hgo hst _ (exec_move rfl ((sg.free 0 (by kernel_rfl)).trans so0)) rfl
    · intro LL xx ac wc sg hst hwant QQ hgo
      exact op_val hwant hgo hst _ (exec_move rfl ((sg.free 2 (by kernel_rfl)).trans so2)) rfl
    · intro LL xx ac wc sg hst hwant QQ hgo
      have se16 : ac.eval (.tmp 16) = _ := (sg.slot 0 (sg.anc 0 rfl))
      have sg16 := gt_of se16
      have se17 : ac.eval (.tmp 17) = _ := (sg.slot 1 (sg.anc 1 rfl))
      have sg17 := gt_of se17
      (try simp only [nth] at se16 sg16 se17 sg17)
      have H := Lib.hid hst
      refine op_call hwant hgo 41 _ (by simp only [execOp]; go_simp) (getRC la lc l k wc (hp_held H (by (repeat (first | exact List.Mem.head _ | apply List.Mem.tail)))) hl) ?_
      rintro er wd ⟨rfl, hof⟩
      exact ⟨_, (), rfl, fun _ _ => rfl, rfl, Hp.quiet hst hof⟩
    · intro LL xx ac wc sg hst hwant QQ hgo
      exact op_val hwant hgo hst _ (exec_move rfl (sg.slot 2 (sg.anc 2 rfl))) rfl
    · intro LL xx ac wc sg hst hwant QQ hgo
      have se15 : ac.eval (.tmp 15) = _ := (sg.slot 3 (sg.anc 3 rfl))
      have sg15 := gt_of se15
      (try simp only [nth] at se15 sg15)
      exact op_val hwant hgo hst _ (by simp only [execOp, nth]; go_simp <;> omega) rfl
    · intro LL xx ac wc sg hst hwant QQ hgo
      have se15 : ac.eval (.tmp 15) = _ := (sg.slot 3 (sg.anc 3 rfl))
      have sg15 := gt_of se15
      (try simp only [nth] at se15 sg15)
      exact op_val hwant hgo hst _ (by simp only [execOp, nth]; go_simp <;> omega) rfl
    · intro LL xx ac wc sg hst hwant QQ hgo
      exact op_val hwant hgo hst _ (exec_assign rfl (sg.slot 4 (sg.anc 4 rfl))) rfl
    · intro LL xx ac wc sg hst hwant QQ hgo
      exact op_val hwant hgo hst _ (exec_assign rfl (sg.slot 5 (sg.anc 5 rfl))) rfl
  · exact skips [] (by kernel_rfl) (fun _ h => by cases h)
  · intro xx ac1 wz hfr hsl hst
    exact hfin ac1 wz (hfr.size.trans hz) hfr.defers (fr_keep hfr [10, 11, 15, 16, 17, 18, 19, 20] (by kernel_rfl)) (hsl 7 (by decide)) (Lib.hid hst)
set_option maxRecDepth 20000 in
theorem withRyes6_r2 (la : Option Addr) (lc : Nat) (l : List PairV) (room : Int) (k : KeyV) (hl : l.length ≤ 1000000) (q0 : ((!(getR k l).2) && (decide (room ≤ (l.length : Int)))) = false) (hfl : (l.filter (keepN k)).length ≤ 1000000) {wa wb : World} (H : Hid (Hp [] wa wb [rS la lc 2 (l.map rowOf)])) (ac0 : Act) (hz : ac0.tmps.size = 77) (so0 : ac0.eval (.tmp 0) = .slice la l.length lc) (so1 : ac0.eval (.tmp 1) = .int .i64 room) (so11 : ac0.eval (.tmp 11) = .bool ((getR k l).2)) {QR : Exit → Act → World → Prop} (hfin : ∀ (ac1 : Act) (wz : World), ac1.tmps.size = 77 → ac1.defers = ac0.defers → (∀ t, ([21, 22, 23, 24, 25, 26, 27, 28] : List Nat).contains t = false → ac1.eval (.tmp t) = ac0.eval (.tmp t)) → ac1.eval (.tmp 28) = .bool false →  Hid (Hp [] wa wz [rS la lc 2 (l.map rowOf)]) → QR .normal ac1 wz) : (regAt Try.f38 2).wp Try.prog QR ac0 wb := by
  refine wp_region_sq (by kernel_rfl) 77 hz (by kernel_rfl) (fun (xx : Unit) jx => nth [.bool ((getR k l).2), .bool (!((getR k l).2)), .bool (!((getR k l).2)), bif (!((getR k l).2)) then .slice la l.length lc else undef, bif (!((getR k l).2)) then .int .i64 l.length else undef, bif (!((getR k l).2)) then .int .i64 room else undef, bif (!((getR k l).2)) then .bool (decide (room ≤ (l.length : Int))) else undef, .bool false] jx) (fun (LL : Nat → Bool) (xx : Unit) ww => Hp [] wa ww [rS la lc 2 (l.map rowOf)]) () H.out ?_ (steps_al ?_) ?_ ?_
  · exact fun _ _ _ _ _ h => h
  · refine al_cons ?_ (al_cons ?_ (al_cons ?_ (al_cons ?_ (al_cons ?_ (al_cons ?_ (al_cons ?_ (al_cons ?_ (al_nil))))))))
    · intro LL xx ac wc sg hst hwant QQ hgo
      exact op_val hwant hgo hst _ (exec_move rfl ((sg.free 11 (by kernel_rfl)).trans so11)) rfl
    · intro LL xx ac wc sg hst hwant QQ hgo
      have se21 : ac.eval (.tmp 21) = _ := (sg.slot 0 (sg.anc 0 rfl))
      have sg21 := gt_of se21
      (try simp only [nth] at se21 sg21)
      exact op_val hwant hgo hst _ (by simp only [execOp, nth]; go_simp <;> omega) rfl
    · intro LL xx ac wc sg hst hwant QQ hgo
      exact op_val hwant hgo hst _ (exec_move rfl (sg.slot 1 (sg.anc 1 rfl))) rfl
    · intro LL xx ac wc sg hst hwant QQ hgo
      have hG : (!((getR k l).2)) = true := (want_t rfl rfl (sg.slot 2 (sg.anc 2 rfl))).symm.trans hwant
      exact op_val hwant hgo hst _ (exec_move rfl ((sg.free 0 (by kernel_rfl)).trans so0)) (cI hG)
    · intro LL xx ac wc sg hst hwant QQ hgo
      have hG : (!((getR k l).2)) = true := (want_t rfl rfl (sg.slot 2 (sg.anc 2 rfl))).symm.trans hwant
      have se24 : ac.eval (.tmp 24) = _ := (cT (sg.slot 3 (sg.anc 3 rfl)) hG)
      have sg24 := gt_of se24
      (try simp only [nth] at se24 sg24)
      exact op_val hwant hgo hst _ (by simp only [execOp, nth]; go_simp <;> omega) (cI hG)
    · intro LL xx ac wc sg hst hwant QQ hgo
      have hG : (!((getR k l).2)) = true := (want_t rfl rfl (sg.slot 2 (sg.anc 2 rfl))).symm.trans hwant
      exact op_val hwant hgo hst _ (exec_move rfl ((sg.free 1 (by kernel_rfl)).trans so1)) (cI hG)
    · intro LL xx ac wc sg hst hwant QQ hgo
      have hG : (!((getR k l).2)) = true := (want_t rfl rfl (sg.slot 2 (sg.anc 2 rfl))).symm.trans hwant
      have se25 : ac.eval (.tmp 25) = _ := (cT (sg.slot 4 (sg.anc 4 rfl)) hG)
      have sg25 := gt_of se25
      have se26 : ac.eval (.tmp 26) = _ := (cT (sg.slot 5 (sg.anc 5 rfl)) hG)
      have sg26 := gt_of se26
      (try simp only [nth] at se25 sg25 se26 sg26)
      exact op_val hwant hgo hst _ (by simp only [execOp, nth]; go_simp <;> omega) (cI hG)
    · intro LL xx ac wc sg hst hwant QQ hgo
      exact op_val hwant hgo hst (.bool ((!((getR k l).2)) && (decide (room ≤ (l.length : Int))))) (exec_and (Y := decide (room ≤ (l.length : Int))) rfl (sg.slot 2 (sg.anc 2 rfl)) (fun qq => cT (sg.slot 6 (sg.anc 6 rfl)) qq)) (congrArg Value.bool (by first | assumption | (simp; done)))
  · refine skips [3, 4, 5, 6] (by kernel_rfl) ?_
    refine List.forall_mem_cons.2 ⟨?_, List.forall_mem_cons.2 ⟨?_, List.forall_mem_cons.2 ⟨?_, List.forall_mem_cons.2 ⟨?_, fun _ h => by cases h⟩⟩⟩⟩
    · intro oo hop LL xx ac sg hwant
      cases Option.some.inj hop
      have hG : (!((getR k l).2)) = false := (want_t rfl rfl (sg.slot 2 (sg.anc 2 rfl))).symm.trans hwant
      exact ⟨cF hG, fun _ h => h⟩
    · intro oo hop LL xx ac sg hwant
      cases Option.some.inj hop
      have hG : (!((getR k l).2)) = false := (want_t rfl rfl (sg.slot 2 (sg.anc 2 rfl))).symm.trans hwant
      exact ⟨cF hG, fun _ h => h⟩
    · intro oo hop LL xx ac sg hwant
      cases Option.some.inj hop
      have hG : (!((getR k l).2)) = false := (want_t rfl rfl (sg.slot 2 (sg.anc 2 rfl))).symm.trans hwant
      exact ⟨cF hG, fun _ h => h⟩
    · intro oo hop LL xx ac sg hwant
      cases Option.some.inj hop
      have hG : (!((getR k l).2)) = false := (want_t rfl rfl (sg.slot 2 (sg.anc 2 rfl))).symm.trans hwant
      exact ⟨cF hG, fun _ h => h⟩
  · intro xx ac1 wz hfr hsl hst
    exact hfin ac1 wz (hfr.size.trans hz) hfr.defers (fr_keep hfr [21, 22, 23, 24, 25, 26, 27, 28] (by kernel_rfl)) (hsl 7 (by decide)) (Lib.hid hst)
set_option maxRecDepth 20000 in
theorem withRyes6_r4 (la : Option Addr) (lc : Nat) (l : List PairV) (room : Int) (k : KeyV) (v : Int) (hl : l.length ≤ 1000000) (q0 : ((!(getR k l).2) && (decide (room ≤ (l.length : Int)))) = false) (hfl : (l.filter (keepN k)).length ≤ 1000000) {wa wb : World} (H : Hid (Hp [] wa wb [rS la lc 2 (l.map rowOf)])) (ac0 : Act) (hz : ac0.tmps.size = 77) (so0 : ac0.eval (.tmp 0) = .slice la l.length lc) (so2 : ac0.eval (.tmp 2) = .string k) (so3 : ac0.eval (.tmp 3) = .int .i64 v) {QR : Exit → Act → World → Prop} (hfin : ∀ (a4_2 : Option Addr) (c4_2 : Nat) (b36 : Nat) (a37 : Option Addr) (c37 : Nat) (ac1 : Act) (wz : World), ac1.tmps.size = 77 → ac1.defers = ac0.defers → (∀ t, ([12, 30, 31, 32, 33, 34, 35, 36, 37] : List Nat).contains t = false → ac1.eval (.tmp t) = ac0.eval (.tmp t)) → ac1.eval (.tmp 12) = .slice a37 (((l.filter (keepN k)) ++ [(⟨k, v⟩ : PairV)]).length) c37 →  Hid (Hp [] wa wz [rB b36 124 [.string k, .int .i64 v], rA a37 c37 124 2 (((l.filter (keepN k)) ++ [(⟨k, v⟩ : PairV)]).map rowOf), rS la lc 2 (l.map rowOf)]) → QR .normal ac1 wz) : (regAt Try.f38 4).wp Try.prog QR ac0 wb := by
  refine wp_region_sq (by kernel_rfl) 77 hz (by kernel_rfl) (fun (xx : Option Addr × Nat × Nat × Option Addr × Nat) jx => match xx with | (a4_2, c4_2, b36, a37, c37) => nth [.slice la l.length lc, .string k, .slice a4_2 ((l.filter (keepN k)).length) c4_2, .string k, .int .i64 v, .agg #[.string k, .int .i64 v], .slice (some ⟨b36, 0, none⟩) 1 1, .slice a37 (((l.filter (keepN k)) ++ [(⟨k, v⟩ : PairV)]).length) c37, .slice a37 (((l.filter (keepN k)) ++ [(⟨k, v⟩ : PairV)]).length) c37] jx) (fun (LL : Nat → Bool) (xx : Option Addr × Nat × Nat × Option Addr × Nat) ww => match xx with | (a4_2, c4_2, b36, a37, c37) => Hp [] wa ww (bif LL 7 then [rB b36 124 [.string k, .int .i64 v], rA a37 c37 124 2 (((l.filter (keepN k)) ++ [(⟨k, v⟩ : PairV)]).map rowOf), rS la lc 2 (l.map rowOf)] else (bif LL 6 then [rB b36 124 [.string k, .int .i64 v], rA a4_2 c4_2 124 2 ((l.filter (keepN k)).map rowOf), rS la lc 2 (l.map rowOf)] else (bif LL 2 then [rA a4_2 c4_2 124 2 ((l.filter (keepN k)).map rowOf), rS la lc 2 (l.map rowOf)] else [rS la lc 2 (l.map rowOf)])))) (default, default, default, default, default) H.out ?_ (steps_al ?_) ?_ ?_
  · intro L1 L2 xx ww hL sg
    have lh2 := hL 2 (by decide)
    have lh6 := hL 6 (by decide)
    have lh7 := hL 7 (by decide)
    simp only [lh2, lh6, lh7] at sg
    exact sg
  · refine al_cons ?_ (al_cons ?_ (al_cons ?_ (al_cons ?_ (al_cons ?_ (al_cons ?_ (al_cons ?_ (al_cons ?_ (al_cons ?_ (al_nil)))))))))
    · intro LL xx ac wc sg hst hwant QQ hgo
      obtain ⟨a4_2, c4_2, b36, a37, c37⟩ := xx
      exact op_val hwant hgo hst _ (exec_move rfl ((sg.free 0 (by kernel_rfl)).trans so0)) rfl
    · intro LL xx ac wc sg hst hwant QQ hgo
      obtain ⟨a4_2, c4_2, b36, a37, c37⟩ := xx
      exact op_val hwant hgo hst _ (exec_move rfl ((sg.free 2 (by kernel_rfl)).trans so2)) rfl
    · intro LL xx ac wc sg hst hwant QQ hgo
      obtain ⟨_, _, b36, a37, c37⟩ := xx
      have se30 : ac.eval (.tmp 30) = _ := (sg.slot 0 (sg.anc 0 rfl))
      have sg30 := gt_of se30
      have se31 : ac.eval (.tmp 31) = _ := (sg.slot 1 (sg.anc 1 rfl))
      have sg31 := gt_of se31
      (try simp only [nth] at se30 sg30 se31 sg31)
      have H := Lib.hid hst
      simp only [sg.self, sg.des 6 rfl, sg.des 7 rfl, cond_true, cond_false] at H
      refine op_call hwant hgo 39 _ (by simp only [execOp]; go_simp) (withoutRC la lc l k wc (hp_held H (by (repeat (first | exact List.Mem.head _ | apply List.Mem.tail)))) hl) ?_
      rintro er wd ⟨a4_2, c4_2, rfl, hA, hfA, hof⟩
      have H2 := hp_gotA H hof hA hfA
      exact ⟨_, (a4_2, c4_2, b36, a37, c37), rfl, (sg.agree (x' := (a4_2, c4_2, b36, a37, c37)) (n := 9) rfl (by (iterate 9 (refine ix_cons (by first | exact fun _ => rfl | exact no sg.self | exact no (sg.des _ rfl)) ?_)); exact ix_nil)), rfl, (by simp only [(show upd LL 2 2 = true from rfl), (show upd LL 2 6 = LL 6 from rfl), sg.des 6 rfl, (show upd LL 2 7 = LL 7 from rfl), sg.des 7 rfl, cond_true, cond_false]; exact H2.out)⟩
    · intro LL xx ac wc sg hst hwant QQ hgo
      obtain ⟨a4_2, c4_2, b36, a37, c37⟩ := xx
      exact op_val hwant hgo hst _ (exec_move rfl ((sg.free 2 (by kernel_rfl)).trans so2)) rfl
    · intro LL xx ac wc sg hst hwant QQ hgo
      obtain ⟨a4_2, c4_2, b36, a37, c37⟩ := xx
      exact op_val hwant hgo hst _ (exec_move rfl ((sg.free 3 (by kernel_rfl)).trans so3)) rfl
    · intro LL xx ac wc sg hst hwant QQ hgo
      obtain ⟨a4_2, c4_2, b36, a37, c37⟩ := xx
      have se33 : ac.eval (.tmp 33) = _ := (sg.slot 3 (sg.anc 3 rfl))
      have sg33 := gt_of se33
      have se34 : ac.eval (.tmp 34) = _ := (sg.slot 4 (sg.anc 4 rfl))
      have sg34 := gt_of se34
      (try simp only [nth] at se33 sg33 se34 sg34)
      exact op_val hwant hgo hst _ (by simp only [execOp, nth]; go_simp <;> omega) rfl
    · intro LL xx ac wc sg hst hwant QQ hgo
      obtain ⟨a4_2, c4_2, _, a37, c37⟩ := xx
      have se35 : ac.eval (.tmp 35) = _ := (sg.slot 5 (sg.anc 5 rfl))
      have sg35 := gt_of se35
      (try simp only [nth] at se35 sg35)
      have H := Lib.hid hst
      simp only [sg.anc 2 rfl, sg.self, sg.des 7 rfl, cond_true, cond_false] at H
      refine hpA_bslice Try.underlying65 tyhoistwayref06_Pair H rfl rfl (by decide) (by decide) (by first | (go_simp; rfl) | rfl | (simp; rfl)) ?_
      intro wd b36 H2
      exact hgo _ (a4_2, c4_2, b36, a37, c37) _ (sg.agree (x' := (a4_2, c4_2, b36, a37, c37)) (n := 9) rfl (by (iterate 9 (refine ix_cons (by first | exact fun _ => rfl | exact no sg.self | exact no (sg.des _ rfl)) ?_)); exact ix_nil)) rfl (by simp only [(show upd LL 6 2 = LL 2 from rfl), sg.anc 2 rfl, (show upd LL 6 6 = true from rfl), (show upd LL 6 7 = LL 7 from rfl), sg.des 7 rfl, cond_true, cond_false]; exact H2.out)
    · intro LL xx ac wc sg hst hwant QQ hgo
      obtain ⟨a4_2, c4_2, b36, _, _⟩ := xx
      have H := Lib.hid hst
      simp only [sg.anc 2 rfl, sg.anc 6 rfl, sg.self, cond_true, cond_false] at H
      refine hp_append (news := [rowOf (⟨k, v⟩ : PairV)]) elP H rfl rfl 1 rfl (sg.slot 2 (sg.anc 2 rfl)) (by simp) (sg.slot 6 (sg.anc 6 rfl)) rfl (hp_single (e := 124) H (by (repeat (first | exact List.Mem.head _ | apply List.Mem.tail))) rfl (by simp [rowOf, Value.oneCell'])) (by simp; omega) (by decide) ?_
      intro wd a37 c37 H2
      rw [show (l.filter (keepN k)).map rowOf ++ [rowOf (⟨k, v⟩ : PairV)] = ((l.filter (keepN k)) ++ [(⟨k, v⟩ : PairV)]).map rowOf by simp] at H2 ⊢
      rw [List.length_map]
      exact hgo _ (a4_2, c4_2, b36, a37, c37) _ (sg.agree (x' := (a4_2, c4_2, b36, a37, c37)) (n := 9) rfl (by (iterate 9 (refine ix_cons (by first | exact fun _ => rfl | exact no sg.self | exact no (sg.des _ rfl)) ?_)); exact ix_nil)) rfl (by simp only [(show upd LL 7 2 = LL 2 from rfl), sg.anc 2 rfl, (show upd LL 7 6 = LL 6 from rfl), sg.anc 6 rfl, (show upd LL 7 7 = true from rfl), cond_true, cond_false]; exact H2.out)
    · intro LL xx ac wc sg hst hwant QQ hgo
      obtain ⟨a4_2, c4_2, b36, a37, c37⟩ := xx
      exact op_val hwant hgo hst _ (exec_assign rfl (sg.slot 7 (sg.anc 7 rfl))) rfl
  · exact skips [] (by kernel_rfl) (fun _ h => by cases h)
  · intro xx ac1 wz hfr hsl hst
    obtain ⟨a4_2, c4_2, b36, a37, c37⟩ := xx
    exact hfin a4_2 c4_2 b36 a37 c37 ac1 wz (hfr.size.trans hz) hfr.defers (fr_keep hfr [12, 30, 31, 32, 33, 34, 35, 36, 37] (by kernel_rfl)) (hsl 8 (by decide)) (Lib.hid hst)
set_option maxRecDepth 20000 in
theorem withRyes6_r5 (la : Option Addr) (lc : Nat) (l : List PairV) (room : Int) (k : KeyV) (v : Int) (hl : l.length ≤ 1000000) (q0 : ((!(getR k l).2) && (decide (room ≤ (l.length : Int)))) = false) (hfl : (l.filter (keepN k)).length ≤ 1000000) (b36 : Nat) (c37 : Nat) (hln : IntKind.i64.wrap ((l.filter (keepN k)).length : Int) = ((l.filter (keepN k)).length : Int)) (yo : Addr) {wa wb : World} (H : Hid (Hp [] wa wb [rB b36 124 [.string k, .int .i64 v], rA (some yo) c37 124 2 ((insAt (l.filter (keepN k)) (l.filter (keepN k)).length (k, v)).map rowOf), rS la lc 2 (l.map rowOf)])) (ac0 : Act) (hz : ac0.tmps.size = 77) (so12 : ac0.eval (.tmp 12) = .slice (some yo) ((l.filter (keepN k)).length + 1) c37) {QR : Exit → Act → World → Prop} (hfin : ∀ (ac1 : Act) (wz : World), ac1.tmps.size = 77 → ac1.defers = ac0.defers → (∀ t, ([13, 38, 39, 40] : List Nat).contains t = false → ac1.eval (.tmp t) = ac0.eval (.tmp t)) → ac1.eval (.tmp 13) = .int .i64 ((l.filter (keepN k)).length) →  Hid (Hp [] wa wz [rB b36 124 [.string k, .int .i64 v], rA (some yo) c37 124 2 ((insAt (l.filter (keepN k)) (l.filter (keepN k)).length (k, v)).map rowOf), rS la lc 2 (l.map rowOf)]) → QR .normal ac1 wz) : (regAt Try.f38 5).wp Try.prog QR ac0 wb := by
  refine wp_region_sq (by kernel_rfl) 77 hz (by kernel_rfl) (fun (xx : Unit) jx => nth [.slice (some yo) ((l.filter (keepN k)).length + 1) c37, .int .i64 ((l.filter (keepN k)).length + 1), .int .i64 ((l.filter (keepN k)).length), .int .i64 ((l.filter (keepN k)).length)] jx) (fun (LL : Nat → Bool) (xx : Unit) ww => Hp [] wa ww [rB b36 124 [.string k, .int .i64 v], rA (some yo) c37 124 2 ((insAt (l.filter (keepN k)) (l.filter (keepN k)).length (k, v)).map rowOf), rS la lc 2 (l.map rowOf)]) () H.out ?_ (steps_al ?_) ?_ ?_
  · exact fun _ _ _ _ _ h => h
  · refine al_cons ?_ (al_cons ?_ (al_cons ?_ (al_cons ?_ (al_nil))))
    · intro LL xx ac wc sg hst hwant QQ hgo
      exact op_val hwant hgo hst _ (exec_move rfl ((sg.free 12 (by kernel_rfl)).trans so12)) rfl
    · intro LL xx ac wc sg hst hwant QQ hgo
      have se38 : ac.eval (.tmp 38) = _ := (sg.slot 0 (sg.anc 0 rfl))
      have sg38 := gt_of se38
      (try simp only [nth] at se38 sg38)
      exact op_val hwant hgo hst _ (by simp only [execOp, nth]; go_simp <;> omega) rfl
    · intro LL xx ac wc sg hst hwant QQ hgo
      have se39 : ac.eval (.tmp 39) = _ := (sg.slot 1 (sg.anc 1 rfl))
      have sg39 := gt_of se39
      (try simp only [nth] at se39 sg39)
      exact op_val hwant hgo hst _ (by simp only [execOp, nth]; go_simp <;> omega) rfl
    · intro LL xx ac wc sg hst hwant QQ hgo
      exact op_val hwant hgo hst _ (exec_assign rfl (sg.slot 2 (sg.anc 2 rfl))) rfl
  · exact skips [] (by kernel_rfl) (fun _ h => by cases h)
  · intro xx ac1 wz hfr hsl hst
    exact hfin ac1 wz (hfr.size.trans hz) hfr.defers (fr_keep hfr [13, 38, 39, 40] (by kernel_rfl)) (hsl 3 (by decide)) (Lib.hid hst)
set_option maxRecDepth 20000 in
theorem withRyes6_r6 (la : Option Addr) (lc : Nat) (l : List PairV) (room : Int) (k : KeyV) (v : Int) (hl : l.length ≤ 1000000) (q0 : ((!(getR k l).2) && (decide (room ≤ (l.length : Int)))) = false) (hfl : (l.filter (keepN k)).length ≤ 1000000) (b36 : Nat) (c37 : Nat) (hln : IntKind.i64.wrap ((l.filter (keepN k)).length : Int) = ((l.filter (keepN k)).length : Int)) (yo : Addr) (i : Nat) (hi : i ≤ (l.filter (keepN k)).length) (y1 : (decide (0 < (i : Int))) = true) (y1d : 0 < (i : Int)) (q : Nat) (r : PairV) (HRp : Hid (((insAt (l.filter (keepN k)) i (k, v)).map rowOf)[i]? = some [.string k, .int .i64 v])) (HRr : Hid (((insAt (l.filter (keepN k)) i (k, v)).map rowOf)[q]? = some [.string r.1, .int .i64 r.2])) (hqm : IntKind.i64.wrap ((i : Int) - 1) = (q : Int)) (hq1 : i ≤ q + 1) (hq2 : q + 1 ≤ i) (hil : (insAt (l.filter (keepN k)) i (k, v)).length = (l.filter (keepN k)).length + 1) (y2 : (Op.bytesLess k.toList r.1.toList) = true) {wa wb : World} (H : Hid (Hp [] wa wb [rB b36 124 [.string k, .int .i64 v], rA (some yo) c37 124 2 ((insAt (l.filter (keepN k)) i (k, v)).map rowOf), rS la lc 2 (l.map rowOf)])) (ac0 : Act) (hz : ac0.tmps.size = 77) (so12 : ac0.eval (.tmp 12) = .slice (some yo) ((l.filter (keepN k)).length + 1) c37) (so13 : ac0.eval (.tmp 13) = .int .i64 i) {QR : Exit → Act → World → Prop} (hfin : ∀ (ac1 : Act) (wz : World), ac1.tmps.size = 77 → ac1.defers = ac0.defers → (∀ t, ([41, 42, 43, 44, 45, 46, 47, 48, 49, 50, 51, 52, 53, 54, 55, 56] : List Nat).contains t = false → ac1.eval (.tmp t) = ac0.eval (.tmp t)) → ac1.eval (.tmp 56) = .bool true →  Hid (Hp [] wa wz [rB b36 124 [.string k, .int .i64 v], rA (some yo) c37 124 2 ((insAt (l.filter (keepN k)) i (k, v)).map rowOf), rS la lc 2 (l.map rowOf)]) → QR .normal ac1 wz) : (regAt Try.f38 6).wp Try.prog QR ac0 wb := by
  refine wp_region_st mixedP ⟨[0, 1, 2, 3, 3, 4, 5, 6, 3, 3, 4, 5, 6, 7, 8, 9], by kernel_rfl⟩ [[], [0], [0, 1], [0, 1, 2], [0, 1, 2], [0, 1, 2, 3, 4], [0, 1, 2, 3, 4, 5], [0, 1, 2, 3, 4, 5, 6], [0, 1, 2], [0, 1, 2], [0, 1, 2, 9], [0, 1, 2, 8, 9, 10], [0, 1, 2, 8, 9, 10, 11], [0, 1, 2, 8, 9, 10, 11, 12], [0, 1, 2, 3, 4, 5, 6, 7, 8, 9, 10, 11, 12, 13], [0, 1, 2, 3, 4, 5, 6, 7, 8, 9, 10, 11, 12, 13, 14]] (by kernel_rfl) (by kernel_rfl) 77 hz (by kernel_rfl) (fun (xx : Unit) jx => nth [.int .i64 i, .bool true, .bool true, .slice (some yo) ((l.filter (keepN k)).length + 1) c37, .int .i64 i, .pointer (some (yo.add (i * 2))), .pointer (some (yo.add (i * 2))), .string k, .slice (some yo) ((l.filter (keepN k)).length + 1) c37, .int .i64 i, .int .i64 q, .pointer (some (yo.add (q * 2))), .pointer (some (yo.add (q * 2))), .string r.1, .bool true, .bool true] jx) (fun (LL : Nat → Bool) (xx : Unit) ww => Hp [] wa ww [rB b36 124 [.string k, .int .i64 v], rA (some yo) c37 124 2 ((insAt (l.filter (keepN k)) i (k, v)).map rowOf), rS la lc 2 (l.map rowOf)]) () H.out.drew ?_ (steps_al ?_) ?_ ?_
  · exact fun _ _ _ _ _ h => h
  · refine al_cons ?_ (al_cons ?_ (al_cons ?_ (al_cons ?_ (al_cons ?_ (al_cons ?_ (al_cons ?_ (al_cons ?_ (al_cons ?_ (al_cons ?_ (al_cons ?_ (al_cons ?_ (al_cons ?_ (al_cons ?_ (al_cons ?_ (al_cons ?_ (al_nil))))))))))))))))
    · intro LL xx ac wc sg hst hwant QQ hgo
      exact op_val hwant hgo hst _ (exec_move rfl ((sg.free 13 (by kernel_rfl)).trans so13)) rfl
    · intro LL xx ac wc sg hst hwant QQ hgo
      have se41 : ac.eval (.tmp 41) = _ := (sg.slot 0 (sg.anc 0 rfl))
      have sg41 := gt_of se41
      (try simp only [nth] at se41 sg41)
      exact op_val hwant hgo hst _ (by simp only [execOp, nth]; go_simp <;> omega) rfl
    · intro LL xx ac wc sg hst hwant QQ hgo
      exact op_val hwant hgo hst _ (exec_move rfl (sg.slot 1 (sg.anc 1 rfl))) rfl
    · intro LL xx ac wc sg hst hwant QQ hgo
      exact op_val hwant hgo hst _ (exec_move rfl ((sg.free 12 (by kernel_rfl)).trans so12)) rfl
    · intro LL xx ac wc sg hst hwant QQ hgo
      exact op_val hwant hgo hst _ (exec_move rfl ((sg.free 13 (by kernel_rfl)).trans so13)) rfl
    · intro LL xx ac wc sg hst hwant QQ hgo
      have se44 : ac.eval (.tmp 44) = _ := (sg.slot 3 (sg.anc 3 rfl))
      have sg44 := gt_of se44
      have se45 : ac.eval (.tmp 45) = _ := (sg.slot 4 (sg.anc 4 rfl))
      have sg45 := gt_of se45
      (try simp only [nth] at se44 sg44 se45 sg45)
      exact op_val hwant hgo hst _ (by simp only [execOp, nth]; go_simp <;> omega) rfl
    · intro LL xx ac wc sg hst hwant QQ hgo
      have se46 : ac.eval (.tmp 46) = _ := (sg.slot 5 (sg.anc 5 rfl))
      have sg46 := gt_of se46
      (try simp only [nth] at se46 sg46)
      exact op_val hwant hgo hst _ (by simp only [execOp, nth]; go_simp <;> omega) rfl
    · intro LL xx ac wc sg hst hwant QQ hgo
      have H := Lib.hid hst
      replace H := hp_read H 1 rfl
      refine hpS_load1 0 tystring H rfl (sg.slot 6 (sg.anc 6 rfl)) hwant (by (repeat (first | exact List.Mem.head _ | apply List.Mem.tail))) HRp.out (by rfl) (by simp [Addr.add]) ?_
      exact hgo _ () _ (fun _ _ => rfl) rfl hst
    · intro LL xx ac wc sg hst hwant QQ hgo
      exact op_val hwant hgo hst _ (exec_move rfl ((sg.free 12 (by kernel_rfl)).trans so12)) rfl
    · intro LL xx ac wc sg hst hwant QQ hgo
      exact op_val hwant hgo hst _ (exec_move rfl ((sg.free 13 (by kernel_rfl)).trans so13)) rfl
    · intro LL xx ac wc sg hst hwant QQ hgo
      have se50 : ac.eval (.tmp 50) = _ := (sg.slot 9 (sg.anc 9 rfl))
      have sg50 := gt_of se50
      (try simp only [nth] at se50 sg50)
      exact op_val hwant hgo hst _ (by simp only [execOp, nth]; go_simp <;> omega) rfl
    · intro LL xx ac wc sg hst hwant QQ hgo
      have se49 : ac.eval (.tmp 49) = _ := (sg.slot 8 (sg.anc 8 rfl))
      have sg49 := gt_of se49
      have se51 : ac.eval (.tmp 51) = _ := (sg.slot 10 (sg.anc 10 rfl))
      have sg51 := gt_of se51
      (try simp only [nth] at se49 sg49 se51 sg51)
      exact op_val hwant hgo hst _ (by simp only [execOp, nth]; go_simp <;> omega) rfl
    · intro LL xx ac wc sg hst hwant QQ hgo
      have se52 : ac.eval (.tmp 52) = _ := (sg.slot 11 (sg.anc 11 rfl))
      have sg52 := gt_of se52
      (try simp only [nth] at se52 sg52)
      exact op_val hwant hgo hst _ (by simp only [execOp, nth]; go_simp <;> omega) rfl
    · intro LL xx ac wc sg hst hwant QQ hgo
      have H := Lib.hid hst
      replace H := hp_read H 1 rfl
      refine hpS_load1 0 tystring H rfl (sg.slot 12 (sg.anc 12 rfl)) hwant (by (repeat (first | exact List.Mem.head _ | apply List.Mem.tail))) HRr.out (by rfl) (by simp [Addr.add]) ?_
      exact hgo _ () _ (fun _ _ => rfl) rfl hst
    · intro LL xx ac wc sg hst hwant QQ hgo
      have se48 : ac.eval (.tmp 48) = _ := (sg.slot 7 (sg.anc 7 rfl))
      have sg48 := gt_of se48
      have se54 : ac.eval (.tmp 54) = _ := (sg.slot 13 (sg.anc 13 rfl))
      have sg54 := gt_of se54
      (try simp only [nth] at se48 sg48 se54 sg54)
      exact op_val hwant hgo hst _ (by simp only [execOp, nth]; go_simp <;> omega) rfl
    · intro LL xx ac wc sg hst hwant QQ hgo
      exact op_val hwant hgo hst (.bool true) (exec_pick (B := true) (U := .bool true) (V := undef) rfl (sg.slot 2 (sg.anc 2 rfl)) (fun _ => (sg.slot 14 (sg.anc 14 rfl))) (fun h => by cases h)) rfl
  · refine skips [3, 4, 5, 6, 7, 8, 9, 10, 11, 12, 13, 14] (by kernel_rfl) ?_
    refine List.forall_mem_cons.2 ⟨?_, List.forall_mem_cons.2 ⟨?_, List.forall_mem_cons.2 ⟨?_, List.forall_mem_cons.2 ⟨?_, List.forall_mem_cons.2 ⟨?_, List.forall_mem_cons.2 ⟨?_, List.forall_mem_cons.2 ⟨?_, List.forall_mem_cons.2 ⟨?_, List.forall_mem_cons.2 ⟨?_, List.forall_mem_cons.2 ⟨?_, List.forall_mem_cons.2 ⟨?_, List.forall_mem_cons.2 ⟨?_, fun _ h => by cases h⟩⟩⟩⟩⟩⟩⟩⟩⟩⟩⟩⟩
    · intro oo hop LL xx ac sg hwant
      cases Option.some.inj hop
      exact absurd ((want_t rfl rfl (sg.slot 2 (sg.anc 2 rfl))).symm.trans hwant) (by decide)
    · intro oo hop LL xx ac sg hwant
      cases Option.some.inj hop
      exact absurd ((want_t rfl rfl (sg.slot 2 (sg.anc 2 rfl))).symm.trans hwant) (by decide)
    · intro oo hop LL xx ac sg hwant
      cases Option.some.inj hop
      exact absurd ((want_t rfl rfl (sg.slot 2 (sg.anc 2 rfl))).symm.trans hwant) (by decide)
    · intro oo hop LL xx ac sg hwant
      cases Option.some.inj hop
      exact absurd ((want_t rfl rfl (sg.slot 2 (sg.anc 2 rfl))).symm.trans hwant) (by decide)
    · intro oo hop LL xx ac sg hwant
      cases Option.some.inj hop
      exact absurd ((want_t rfl rfl (sg.slot 2 (sg.anc 2 rfl))).symm.trans hwant) (by decide)
    · intro oo hop LL xx ac sg hwant
      cases Option.some.inj hop
      exact absurd ((want_t rfl rfl (sg.slot 2 (sg.anc 2 rfl))).symm.trans hwant) (by decide)
    · intro oo hop LL xx ac sg hwant
      cases Option.some.inj hop
      exact absurd ((want_t rfl rfl (sg.slot 2 (sg.anc 2 rfl))).symm.trans hwant) (by decide)
    · intro oo hop LL xx ac sg hwant
      cases Option.some.inj hop
      exact absurd ((want_t rfl rfl (sg.slot 2 (sg.anc 2 rfl))).symm.trans hwant) (by decide)
    · intro oo hop LL xx ac sg hwant
      cases Option.some.inj hop
      exact absurd ((want_t rfl rfl (sg.slot 2 (sg.anc 2 rfl))).symm.trans hwant) (by decide)
    · intro oo hop LL xx ac sg hwant
      cases Option.some.inj hop
      exact absurd ((want_t rfl rfl (sg.slot 2 (sg.anc 2 rfl))).symm.trans hwant) (by decide)
    · intro oo hop LL xx ac sg hwant
      cases Option.some.inj hop
      exact absurd ((want_t rfl rfl (sg.slot 2 (sg.anc 2 rfl))).symm.trans hwant) (by decide)
    · intro oo hop LL xx ac sg hwant
      cases Option.some.inj hop
      exact absurd ((want_t rfl rfl (sg.slot 2 (sg.anc 2 rfl))).symm.trans hwant) (by decide)
  · intro xx ac1 wz hfr hsl hst
    exact hfin ac1 wz (hfr.size.trans hz) hfr.defers (fr_keep hfr [41, 42, 43, 44, 45, 46, 47, 48, 49, 50, 51, 52, 53, 54, 55, 56] (by kernel_rfl)) (hsl 15 (by decide)) (Lib.hid hst)
set_option maxRecDepth 20000 in
theorem withRyes6_r8 (la : Option Addr) (lc : Nat) (l : List PairV) (room : Int) (k : KeyV) (v : Int) (hl : l.length ≤ 1000000) (q0 : ((!(getR k l).2) && (decide (room ≤ (l.length : Int)))) = false) (hfl : (l.filter (keepN k)).length ≤ 1000000) (b36 : Nat) (c37 : Nat) (hln : IntKind.i64.wrap ((l.filter (keepN k)).length : Int) = ((l.filter (keepN k)).length : Int)) (yo : Addr) (i : Nat) (hi : i ≤ (l.filter (keepN k)).length) (y1d : 0 < (i : Int)) (q : Nat) (HRp : Hid (((insAt (l.filter (keepN k)) i (k, v)).map rowOf)[i]? = some [.string k, .int .i64 v])) (hqm : IntKind.i64.wrap ((i : Int) - 1) = (q : Int)) (hq1 : i ≤ q + 1) (hq2 : q + 1 ≤ i) (hil : (insAt (l.filter (keepN k)) i (k, v)).length = (l.filter (keepN k)).length + 1) {wa wb : World} (H : Hid (Hp [] wa wb [rB b36 124 [.string k, .int .i64 v], rA (some yo) c37 124 2 ((insAt (l.filter (keepN k)) i (k, v)).map rowOf), rS la lc 2 (l.map rowOf)])) (ac0 : Act) (hz : ac0.tmps.size = 77) (so12 : ac0.eval (.tmp 12) = .slice (some yo) ((l.filter (keepN k)).length + 1) c37) (so13 : ac0.eval (.tmp 13) = .int .i64 i) {QR : Exit → Act → World → Prop} (hfin : ∀ (b14 : Nat) (ac1 : Act) (wz : World), ac1.tmps.size = 77 → ac1.defers = ac0.defers → (∀ t, ([14, 59, 60, 61, 62] : List Nat).contains t = false → ac1.eval (.tmp t) = ac0.eval (.tmp t)) → ac1.eval (.tmp 14) = .pointer (some ⟨b14, 0, none⟩) →  Hid (Hp [] wa wz [rB b14 124 [.string k, .int .i64 v], rB b36 124 [.string k, .int .i64 v], rA (some yo) c37 124 2 ((insAt (l.filter (keepN k)) i (k, v)).map rowOf), rS la lc 2 (l.map rowOf)]) → QR .normal ac1 wz) : (regAt Try.f38 8).wp Try.prog QR ac0 wb := by
  refine wp_region_sq (by kernel_rfl) 77 hz (by kernel_rfl) (fun (xx : Nat) jx => match xx with | b14 => nth [.slice (some yo) ((l.filter (keepN k)).length + 1) c37, .int .i64 i, .pointer (some (yo.add (i * 2))), .agg #[.string k, .int .i64 v], .pointer (some ⟨b14, 0, none⟩), undef] jx) (fun (LL : Nat → Bool) (xx : Nat) ww => match xx with | b14 => Hp [] wa ww (bif LL 5 then [rB b14 124 [.string k, .int .i64 v], rB b36 124 [.string k, .int .i64 v], rA (some yo) c37 124 2 ((insAt (l.filter (keepN k)) i (k, v)).map rowOf), rS la lc 2 (l.map rowOf)] else (bif LL 4 then [rB b14 124 [.string (⟨#[]⟩ : ByteArray), .int .i64 0], rB b36 124 [.string k, .int .i64 v], rA (some yo) c37 124 2 ((insAt (l.filter (keepN k)) i (k, v)).map rowOf), rS la lc 2 (l.map rowOf)] else [rB b36 124 [.string k, .int .i64 v], rA (some yo) c37 124 2 ((insAt (l.filter (keepN k)) i (k, v)).map rowOf), rS la lc 2 (l.map rowOf)]))) default H.out ?_ (steps_al ?_) ?_ ?_
  · intro L1 L2 xx ww hL sg
    have lh4 := hL 4 (by decide)
    have lh5 := hL 5 (by decide)
    simp only [lh4, lh5] at sg
    exact sg
  · refine al_cons ?_ (al_cons ?_ (al_cons ?_ (al_cons ?_ (al_cons ?_ (al_cons ?_ (al_nil))))))
    · intro LL xx ac wc sg hst hwant QQ hgo
      revert sg hst hgo; revert xx; intro b14 sg hst hgo
      exact op_val hwant hgo hst _ (exec_move rfl ((sg.free 12 (by kernel_rfl)).trans so12)) rfl
    · intro LL xx ac wc sg hst hwant QQ hgo
      revert sg hst hgo; revert xx; intro b14 sg hst hgo
      exact op_val hwant hgo hst _ (exec_move rfl ((sg.free 13 (by kernel_rfl)).trans so13)) rfl
    · intro LL xx ac wc sg hst hwant QQ hgo
      revert sg hst hgo; revert xx; intro b14 sg hst hgo
      have se59 : ac.eval (.tmp 59) = _ := (sg.slot 0 (sg.anc 0 rfl))
      have sg59 := gt_of se59
      have se60 : ac.eval (.tmp 60) = _ := (sg.slot 1 (sg.anc 1 rfl))
      have sg60 := gt_of se60
      (try simp only [nth] at se59 sg59 se60 sg60)
      exact op_val hwant hgo hst _ (by simp only [execOp, nth]; go_simp <;> omega) rfl
    · intro LL xx ac wc sg hst hwant QQ hgo
      revert sg hst hgo; revert xx; intro b14 sg hst hgo
      have H := Lib.hid hst
      simp only [sg.des 4 rfl, sg.des 5 rfl, cond_true, cond_false] at H
      replace H := hp_read H 1 rfl
      refine hpS_load tyhoistwayref06_Pair H rfl (sg.slot 2 (sg.anc 2 rfl)) hwant (by (repeat (first | exact List.Mem.head _ | apply List.Mem.tail))) HRp.out rfl ?_
      exact hgo _ b14 _ (fun _ _ => rfl) rfl hst
    · intro LL xx ac wc sg hst hwant QQ hgo
      revert sg hst hgo; revert xx; intro xold sg hst hgo
      have H := Lib.hid hst
      simp only [sg.self, sg.des 5 rfl, cond_true, cond_false] at H
      refine hpA_alloc tyhoistwayref06_Pair H rfl rfl ?_
      intro wd b14 H2
      exact hgo _ b14 _ (sg.agree (x' := b14) (n := 6) rfl (by (iterate 6 (refine ix_cons (by first | exact fun _ => rfl | exact no sg.self | exact no (sg.des _ rfl)) ?_)); exact ix_nil)) rfl (by simp only [(show upd LL 4 4 = true from rfl), (show upd LL 4 5 = LL 5 from rfl), sg.des 5 rfl, cond_true, cond_false]; exact H2.out)
    · intro LL xx ac wc sg hst hwant QQ hgo
      revert sg hst hgo; revert xx; intro b14 sg hst hgo
      have H := Lib.hid hst
      simp only [sg.anc 4 rfl, sg.self, cond_true, cond_false] at H
      refine hpA_store tyhoistwayref06_Pair H rfl rfl (sg.slot 4 (sg.anc 4 rfl)) (sg.slot 3 (sg.anc 3 rfl)) rfl (by repeat (first | apply Put.head | apply Put.tail)) (by simp [List.length_cons]) (by simp [List.length_cons, Value.oneCell']) (by first | rfl | (simp only [spl]; rfl)) rfl ?_
      intro wd H2
      exact hgo _ b14 _ (sg.agree (x' := b14) (n := 6) rfl (by (iterate 6 (refine ix_cons (by first | exact fun _ => rfl | exact no sg.self | exact no (sg.des _ rfl)) ?_)); exact ix_nil)) rfl (by simp only [(show upd LL 5 4 = LL 4 from rfl), sg.anc 4 rfl, (show upd LL 5 5 = true from rfl), cond_true, cond_false]; exact H2.out)
  · exact skips [] (by kernel_rfl) (fun _ h => by cases h)
  · intro xx ac1 wz hfr hsl hst
    revert hsl hst; revert xx; intro b14 hsl hst
    exact hfin b14 ac1 wz (hfr.size.trans hz) hfr.defers (fr_keep hfr [14, 59, 60, 61, 62] (by kernel_rfl)) (hsl 4 (by decide)) (Lib.hid hst)
set_option maxRecDepth 20000 in
theorem withRyes6_r9 (la : Option Addr) (lc : Nat) (l : List PairV) (room : Int) (k : KeyV) (v : Int) (hl : l.length ≤ 1000000) (q0 : ((!(getR k l).2) && (decide (room ≤ (l.length : Int)))) = false) (hfl : (l.filter (keepN k)).length ≤ 1000000) (b36 : Nat) (c37 : Nat) (hln : IntKind.i64.wrap ((l.filter (keepN k)).length : Int) = ((l.filter (keepN k)).length : Int)) (yo : Addr) (i : Nat) (hi : i ≤ (l.filter (keepN k)).length) (y1d : 0 < (i : Int)) (q : Nat) (r : PairV) (HRr : Hid (((insAt (l.filter (keepN k)) i (k, v)).map rowOf)[q]? = some [.string r.1, .int .i64 r.2])) (hqm : IntKind.i64.wrap ((i : Int) - 1) = (q : Int)) (hq1 : i ≤ q + 1) (hq2 : q + 1 ≤ i) (hil : (insAt (l.filter (keepN k)) i (k, v)).length = (l.filter (keepN k)).length + 1) (b14 : Nat) {wa wb : World} (H : Hid (Hp [] wa wb [rB b14 124 [.string k, .int .i64 v], rB b36 124 [.string k, .int .i64 v], rA (some yo) c37 124 2 ((insAt (l.filter (keepN k)) i (k, v)).map rowOf), rS la lc 2 (l.map rowOf)])) (ac0 : Act) (hz : ac0.tmps.size = 77) (so12 : ac0.eval (.tmp 12) = .slice (some yo) ((l.filter (keepN k)).length + 1) c37) (so13 : ac0.eval (.tmp 13) = .int .i64 i) {QR : Exit → Act → World → Prop} (hfin : ∀ (ac1 : Act) (wz : World), ac1.tmps.size = 77 → ac1.defers = ac0.defers → (∀ t, ([63, 64, 65, 66, 67, 68, 69, 70] : List Nat).contains t = false → ac1.eval (.tmp t) = ac0.eval (.tmp t)) →  Hid (Hp [] wa wz [rB b14 124 [.string k, .int .i64 v], rB b36 124 [.string k, .int .i64 v], rA (some yo) c37 124 2 (((insAt (l.filter (keepN k)) i (k, v)).map rowOf).set i [.string r.1, .int .i64 r.2]), rS la lc 2 (l.map rowOf)]) → QR .normal ac1 wz) : (regAt Try.f38 9).wp Try.prog QR ac0 wb := by
  refine wp_region_sq (by kernel_rfl) 77 hz (by kernel_rfl) (fun (xx : Unit) jx => nth [.slice (some yo) ((l.filter (keepN k)).length + 1) c37, .int .i64 i, .slice (some yo) ((l.filter (keepN k)).length + 1) c37, .int .i64 i, .int .i64 q, .pointer (some (yo.add (q * 2))), .agg #[.string r.1, .int .i64 r.2], .pointer (some (yo.add (i * 2))), undef] jx) (fun (LL : Nat → Bool) (xx : Unit) ww => Hp [] wa ww (bif LL 8 then [rB b14 124 [.string k, .int .i64 v], rB b36 124 [.string k, .int .i64 v], rA (some yo) c37 124 2 (((insAt (l.filter (keepN k)) i (k, v)).map rowOf).set i [.string r.1, .int .i64 r.2]), rS la lc 2 (l.map rowOf)] else [rB b14 124 [.string k, .int .i64 v], rB b36 124 [.string k, .int .i64 v], rA (some yo) c37 124 2 ((insAt (l.filter (keepN k)) i (k, v)).map rowOf), rS la lc 2 (l.map rowOf)])) () H.out ?_ (steps_al ?_) ?_ ?_
  · intro L1 L2 xx ww hL sg
    have lh8 := hL 8 (by decide)
    simp only [lh8] at sg
    exact sg
  · refine al_cons ?_ (al_cons ?_ (al_cons ?_ (al_cons ?_ (al_cons ?_ (al_cons ?_ (al_cons ?_ (al_cons ?_ (al_cons ?_ (al_nil)))))))))
    · intro LL xx ac wc sg hst hwant QQ hgo
      exact op_val hwant hgo hst _ (exec_move rfl ((sg.free 12 (by kernel_rfl)).trans so12)) rfl
    · intro LL xx ac wc sg hst hwant QQ hgo
      exact op_val hwant hgo hst _ (exec_move rfl ((sg.free 13 (by kernel_rfl)).trans so13)) rfl
    · intro LL xx ac wc sg hst hwant QQ hgo
      exact op_val hwant hgo hst _ (exec_move rfl ((sg.free 12 (by kernel_rfl)).trans so12)) rfl
    · intro LL xx ac wc sg hst hwant QQ hgo
      exact op_val hwant hgo hst _ (exec_move rfl ((sg.free 13 (by kernel_rfl)).trans so13)) rfl
    · intro LL xx ac wc sg hst hwant QQ hgo
      have se66 : ac.eval (.tmp 66) = _ := (sg.slot 3 (sg.anc 3 rfl))
      have sg66 := gt_of se66
      (try simp only [nth] at se66 sg66)
      exact op_val hwant hgo hst _ (by simp only [execOp, nth]; go_simp <;> omega) rfl
    · intro LL xx ac wc sg hst hwant QQ hgo
      have se65 : ac.eval (.tmp 65) = _ := (sg.slot 2 (sg.anc 2 rfl))
      have sg65 := gt_of se65
      have se67 : ac.eval (.tmp 67) = _ := (sg.slot 4 (sg.anc 4 rfl))
      have sg67 := gt_of se67
      (try simp only [nth] at se65 sg65 se67 sg67)
      exact op_val hwant hgo hst _ (by simp only [execOp, nth]; go_simp <;> omega) rfl
    · intro LL xx ac wc sg hst hwant QQ hgo
      have H := Lib.hid hst
      simp only [sg.des 8 rfl, cond_true, cond_false] at H
      replace H := hp_read H 2 rfl
      refine hpS_load tyhoistwayref06_Pair H rfl (sg.slot 5 (sg.anc 5 rfl)) hwant (by (repeat (first | exact List.Mem.head _ | apply List.Mem.tail))) HRr.out rfl ?_
      exact hgo _ () _ (fun _ _ => rfl) rfl hst
    · intro LL xx ac wc sg hst hwant QQ hgo
      have se63 : ac.eval (.tmp 63) = _ := (sg.slot 0 (sg.anc 0 rfl))
      have sg63 := gt_of se63
      have se64 : ac.eval (.tmp 64) = _ := (sg.slot 1 (sg.anc 1 rfl))
      have sg64 := gt_of se64
      (try simp only [nth] at se63 sg63 se64 sg64)
      exact op_val hwant hgo hst _ (by simp only [execOp, nth]; go_simp <;> omega) rfl
    · intro LL xx ac wc sg hst hwant QQ hgo
      have H := Lib.hid hst
      simp only [sg.self, cond_true, cond_false] at H
      refine hp_elstore tyhoistwayref06_Pair H rfl rfl (sg.slot 7 (sg.anc 7 rfl)) (i := i) (j := 2) (by simp [Addr.add]) (r := [.string r.1, .int .i64 r.2]) (sg.slot 6 (sg.anc 6 rfl)) rfl (by simp [Value.oneCell']) rfl (by simp [hil]; omega) ?_
      intro wd H2
      exact hgo _ () _ (fun _ _ => rfl) rfl (by simp only [(show upd LL 8 8 = true from rfl), cond_true, cond_false]; exact H2.out)
  · exact skips [] (by kernel_rfl) (fun _ h => by cases h)
  · intro xx ac1 wz hfr hsl hst
    exact hfin ac1 wz (hfr.size.trans hz) hfr.defers (fr_keep hfr [63, 64, 65, 66, 67, 68, 69, 70] (by kernel_rfl)) (Lib.hid hst)
set_option maxRecDepth 20000 in
theorem withRyes6_r10 (la : Option Addr) (lc : Nat) (l : List PairV) (room : Int) (k : KeyV) (v : Int) (hl : l.length ≤ 1000000) (q0 : ((!(getR k l).2) && (decide (room ≤ (l.length : Int)))) = false) (hfl : (l.filter (keepN k)).length ≤ 1000000) (b36 : Nat) (c37 : Nat) (hln : IntKind.i64.wrap ((l.filter (keepN k)).length : Int) = ((l.filter (keepN k)).length : Int)) (yo : Addr) (i : Nat) (hi : i ≤ (l.filter (keepN k)).length) (y1d : 0 < (i : Int)) (q : Nat) (r : PairV) (hqm : IntKind.i64.wrap ((i : Int) - 1) = (q : Int)) (hq1 : i ≤ q + 1) (hq2 : q + 1 ≤ i) (hil : (insAt (l.filter (keepN k)) i (k, v)).length = (l.filter (keepN k)).length + 1) (b14 : Nat) {wa wb : World} (H : Hid (Hp [] wa wb [rB b14 124 [.string k, .int .i64 v], rB b36 124 [.string k, .int .i64 v], rA (some yo) c37 124 2 (((insAt (l.filter (keepN k)) i (k, v)).map rowOf).set i [.string r.1, .int .i64 r.2]), rS la lc 2 (l.map rowOf)])) (ac0 : Act) (hz : ac0.tmps.size = 77) (so12 : ac0.eval (.tmp 12) = .slice (some yo) ((l.filter (keepN k)).length + 1) c37) (so13 : ac0.eval (.tmp 13) = .int .i64 i) (so14 : ac0.eval (.tmp 14) = .pointer (some ⟨b14, 0, none⟩)) {QR : Exit → Act → World → Prop} (hfin : ∀ (ac1 : Act) (wz : World), ac1.tmps.size = 77 → ac1.defers = ac0.defers → (∀ t, ([71, 72, 73, 74, 75] : List Nat).contains t = false → ac1.eval (.tmp t) = ac0.eval (.tmp t)) →  Hid (Hp [] wa wz [rB b14 124 [.string k, .int .i64 v], rB b36 124 [.string k, .int .i64 v], rA (some yo) c37 124 2 ((((insAt (l.filter (keepN k)) i (k, v)).map rowOf).set i [.string r.1, .int .i64 r.2]).set q [.string k, .int .i64 v]), rS la lc 2 (l.map rowOf)]) → QR .normal ac1 wz) : (regAt Try.f38 10).wp Try.prog QR ac0 wb := by
  refine wp_region_sq (by kernel_rfl) 77 hz (by kernel_rfl) (fun (xx : Unit) jx => nth [.slice (some yo) ((l.filter (keepN k)).length + 1) c37, .int .i64 i, .int .i64 q, .agg #[.string k, .int .i64 v], .pointer (some (yo.add (q * 2))), undef] jx) (fun (LL : Nat → Bool) (xx : Unit) ww => Hp [] wa ww (bif LL 5 then [rB b14 124 [.string k, .int .i64 v], rB b36 124 [.string k, .int .i64 v], rA (some yo) c37 124 2 ((((insAt (l.filter (keepN k)) i (k, v)).map rowOf).set i [.string r.1, .int .i64 r.2]).set q [.string k, .int .i64 v]), rS la lc 2 (l.map rowOf)] else [rB b14 124 [.string k, .int .i64 v], rB b36 124 [.string k, .int .i64 v], rA (some yo) c37 124 2 (((insAt (l.filter (keepN k)) i (k, v)).map rowOf).set i [.string r.1, .int .i64 r.2]), rS la lc 2 (l.map rowOf)])) () H.out ?_ (steps_al ?_) ?_ ?_
  · intro L1 L2 xx ww hL sg
    have lh5 := hL 5 (by decide)
    simp only [lh5] at sg
    exact sg
  · refine al_cons ?_ (al_cons ?_ (al_cons ?_ (al_cons ?_ (al_cons ?_ (al_cons ?_ (al_nil))))))
    · intro LL xx ac wc sg hst hwant QQ hgo
      exact op_val hwant hgo hst _ (exec_move rfl ((sg.free 12 (by kernel_rfl)).trans so12)) rfl
    · intro LL xx ac wc sg hst hwant QQ hgo
      exact op_val hwant hgo hst _ (exec_move rfl ((sg.free 13 (by kernel_rfl)).trans so13)) rfl
    · intro LL xx ac wc sg hst hwant QQ hgo
      have se72 : ac.eval (.tmp 72) = _ := (sg.slot 1 (sg.anc 1 rfl))
      have sg72 := gt_of se72
      (try simp only [nth] at se72 sg72)
      exact op_val hwant hgo hst _ (by simp only [execOp, nth]; go_simp <;> omega) rfl
    · intro LL xx ac wc sg hst hwant QQ hgo
      have H := Lib.hid hst
      simp only [sg.des 5 rfl, cond_true, cond_false] at H
      refine hpA_load tyhoistwayref06_Pair H rfl ((sg.free 14 (by kernel_rfl)).trans so14) hwant (by (repeat (first | exact List.Mem.head _ | apply List.Mem.tail))) (by rfl) rfl ?_
      exact hgo _ () _ (fun _ _ => rfl) rfl hst
    · intro LL xx ac wc sg hst hwant QQ hgo
      have se71 : ac.eval (.tmp 71) = _ := (sg.slot 0 (sg.anc 0 rfl))
      have sg71 := gt_of se71
      have se73 : ac.eval (.tmp 73) = _ := (sg.slot 2 (sg.anc 2 rfl))
      have sg73 := gt_of se73
      (try simp only [nth] at se71 sg71 se73 sg73)
      exact op_val hwant hgo hst _ (by simp only [execOp, nth]; go_simp <;> omega) rfl
    · intro LL xx ac wc sg hst hwant QQ hgo
      have H := Lib.hid hst
      simp only [sg.self, cond_true, cond_false] at H
      refine hp_elstore tyhoistwayref06_Pair H rfl rfl (sg.slot 4 (sg.anc 4 rfl)) (i := q) (j := 2) (by simp [Addr.add]) (r := [.string k, .int .i64 v]) (sg.slot 3 (sg.anc 3 rfl)) rfl (by simp [Value.oneCell']) rfl (by simp [hil]; omega) ?_
      intro wd H2
      exact hgo _ () _ (fun _ _ => rfl) rfl (by simp only [(show upd LL 5 5 = true from rfl), cond_true, cond_false]; exact H2.out)
  · exact skips [] (by kernel_rfl) (fun _ h => by cases h)
  · intro xx ac1 wz hfr hsl hst
    exact hfin ac1 wz (hfr.size.trans hz) hfr.defers (fr_keep hfr [71, 72, 73, 74, 75] (by kernel_rfl)) (Lib.hid hst)
set_option maxRecDepth 20000 in
theorem withRyes6_r7 (la : Option Addr) (lc : Nat) (l : List PairV) (room : Int) (k : KeyV) (v : Int) (hl : l.length ≤ 1000000) (q0 : ((!(getR k l).2) && (decide (room ≤ (l.length : Int)))) = false) (hfl : (l.filter (keepN k)).length ≤ 1000000) (b36 : Nat) (c37 : Nat) (hln : IntKind.i64.wrap ((l.filter (keepN k)).length : Int) = ((l.filter (keepN k)).length : Int)) (yo : Addr) (i : Nat) (hi : i ≤ (l.filter (keepN k)).length) (y1d : 0 < (i : Int)) (q : Nat) (r : PairV) (hqm : IntKind.i64.wrap ((i : Int) - 1) = (q : Int)) (hq1 : i ≤ q + 1) (hq2 : q + 1 ≤ i) (hil : (insAt (l.filter (keepN k)) i (k, v)).length = (l.filter (keepN k)).length + 1) (b14 : Nat) {wa wb : World} (H : Hid (Hp [] wa wb [rB b14 124 [.string k, .int .i64 v], rB b36 124 [.string k, .int .i64 v], rA (some yo) c37 124 2 ((((insAt (l.filter (keepN k)) i (k, v)).map rowOf).set i [.string r.1, .int .i64 r.2]).set q [.string k, .int .i64 v]), rS la lc 2 (l.map rowOf)])) (ac0 : Act) (hz : ac0.tmps.size = 77) (so13 : ac0.eval (.tmp 13) = .int .i64 i) {QR : Exit → Act → World → Prop} (hfin : ∀ (ac1 : Act) (wz : World), ac1.tmps.size = 77 → ac1.defers = ac0.defers → (∀ t, ([13, 57, 58] : List Nat).contains t = false → ac1.eval (.tmp t) = ac0.eval (.tmp t)) → ac1.eval (.tmp 13) = .int .i64 q →  Hid (Hp [] wa wz [rB b14 124 [.string k, .int .i64 v], rB b36 124 [.string k, .int .i64 v], rA (some yo) c37 124 2 ((((insAt (l.filter (keepN k)) i (k, v)).map rowOf).set i [.string r.1, .int .i64 r.2]).set q [.string k, .int .i64 v]), rS la lc 2 (l.map rowOf)]) → QR .normal ac1 wz) : (regAt Try.f38 7).wp Try.prog QR ac0 wb := by
  refine wp_region_sq (by kernel_rfl) 77 hz (by kernel_rfl) (fun (xx : Unit) jx => nth [.int .i64 i, .int .i64 q, .int .i64 q] jx) (fun (LL : Nat → Bool) (xx : Unit) ww => Hp [] wa ww [rB b14 124 [.string k, .int .i64 v], rB b36 124 [.string k, .int .i64 v], rA (some yo) c37 124 2 ((((insAt (l.filter (keepN k)) i (k, v)).map rowOf).set i [.string r.1, .int .i64 r.2]).set q [.string k, .int .i64 v]), rS la lc 2 (l.map rowOf)]) () H.out ?_ (steps_al ?_) ?_ ?_
  · exact fun _ _ _ _ _ h => h
  · refine al_cons ?_ (al_cons ?_ (al_cons ?_ (al_nil)))
    · intro LL xx ac wc sg hst hwant QQ hgo
      exact op_val hwant hgo hst _ (exec_move rfl ((sg.yet 13 2 (sg.des 2 rfl) (by kernel_rfl)).trans so13)) rfl
    · intro LL xx ac wc sg hst hwant QQ hgo
      have se57 : ac.eval (.tmp 57) = _ := (sg.slot 0 (sg.anc 0 rfl))
      have sg57 := gt_of se57
      (try simp only [nth] at se57 sg57)
      exact op_val hwant hgo hst _ (by simp only [execOp, nth]; go_simp <;> omega) rfl
    · intro LL xx ac wc sg hst hwant QQ hgo
      exact op_val hwant hgo hst _ (exec_assign rfl (sg.slot 1 (sg.anc 1 rfl))) rfl
  · exact skips [] (by kernel_rfl) (fun _ h => by cases h)
  · intro xx ac1 wz hfr hsl hst
    exact hfin ac1 wz (hfr.size.trans hz) hfr.defers (fr_keep hfr [13, 57, 58] (by kernel_rfl)) (hsl 2 (by decide)) (Lib.hid hst)
set_option maxRecDepth 20000 in
theorem withRyes6_r6x1 (la : Option Addr) (lc : Nat) (l : List PairV) (room : Int) (k : KeyV) (v : Int) (hl : l.length ≤ 1000000) (q0 : ((!(getR k l).2) && (decide (room ≤ (l.length : Int)))) = false) (hfl : (l.filter (keepN k)).length ≤ 1000000) (b36 : Nat) (c37 : Nat) (hln : IntKind.i64.wrap ((l.filter (keepN k)).length : Int) = ((l.filter (keepN k)).length : Int)) (yo : Addr) (i : Nat) (hi : i ≤ (l.filter (keepN k)).length) (y1 : (decide (0 < (i : Int))) = true) (y1d : 0 < (i : Int)) (q : Nat) (r : PairV) (HRp : Hid (((insAt (l.filter (keepN k)) i (k, v)).map rowOf)[i]? = some [.string k, .int .i64 v])) (HRr : Hid (((insAt (l.filter (keepN k)) i (k, v)).map rowOf)[q]? = some [.string r.1, .int .i64 r.2])) (hqm : IntKind.i64.wrap ((i : Int) - 1) = (q : Int)) (hq1 : i ≤ q + 1) (hq2 : q + 1 ≤ i) (hil : (insAt (l.filter (keepN k)) i (k, v)).length = (l.filter (keepN k)).length + 1) (y2 : (Op.bytesLess k.toList r.1.toList) = false) {wa wb : World} (H : Hid (Hp [] wa wb [rB b36 124 [.string k, .int .i64 v], rA (some yo) c37 124 2 ((insAt (l.filter (keepN k)) i (k, v)).map rowOf), rS la lc 2 (l.map rowOf)])) (ac0 : Act) (hz : ac0.tmps.size = 77) (so12 : ac0.eval (.tmp 12) = .slice (some yo) ((l.filter (keepN k)).length + 1) c37) (so13 : ac0.eval (.tmp 13) = .int .i64 i) {QR : Exit → Act → World → Prop} (hfin : ∀ (ac1 : Act) (wz : World), ac1.tmps.size = 77 → ac1.defers = ac0.defers → (∀ t, ([41, 42, 43, 44, 45, 46, 47, 48, 49, 50, 51, 52, 53, 54, 55, 56] : List Nat).contains t = false → ac1.eval (.tmp t) = ac0.eval (.tmp t)) → ac1.eval (.tmp 56) = .bool false →  Hid (Hp [] wa wz [rB b36 124 [.string k, .int .i64 v], rA (some yo) c37 124 2 ((insAt (l.filter (keepN k)) i (k, v)).map rowOf), rS la lc 2 (l.map rowOf)]) → QR .normal ac1 wz) : (regAt Try.f38 6).wp Try.prog QR ac0 wb := by
  refine wp_region_st mixedP ⟨[0, 1, 2, 3, 3, 4, 5, 6, 3, 3, 4, 5, 6, 7, 8, 9], by kernel_rfl⟩ [[], [0], [0, 1], [0, 1, 2], [0, 1, 2], [0, 1, 2, 3, 4], [0, 1, 2, 3, 4, 5], [0, 1, 2, 3, 4, 5, 6], [0, 1, 2], [0, 1, 2], [0, 1, 2, 9], [0, 1, 2, 8, 9, 10], [0, 1, 2, 8, 9, 10, 11], [0, 1, 2, 8, 9, 10, 11, 12], [0, 1, 2, 3, 4, 5, 6, 7, 8, 9, 10, 11, 12, 13], [0, 1, 2, 3, 4, 5, 6, 7, 8, 9, 10, 11, 12, 13, 14]] (by kernel_rfl) (by kernel_rfl) 77 hz (by kernel_rfl) (fun (xx : Unit) jx => nth [.int .i64 i, .bool true, .bool true, .slice (some yo) ((l.filter (keepN k)).length + 1) c37, .int .i64 i, .pointer (some (yo.add (i * 2))), .pointer (some (yo.add (i * 2))), .string k, .slice (some yo) ((l.filter (keepN k)).length + 1) c37, .int .i64 i, .int .i64 q, .pointer (some (yo.add (q * 2))), .pointer (some (yo.add (q * 2))), .string r.1, .bool false, .bool false] jx) (fun (LL : Nat → Bool) (xx : Unit) ww => Hp [] wa ww [rB b36 124 [.string k, .int .i64 v], rA (some yo) c37 124 2 ((insAt (l.filter (keepN k)) i (k, v)).map rowOf), rS la lc 2 (l.map rowOf)]) () H.out.drew ?_ (steps_al ?_) ?_ ?_
  · exact fun _ _ _ _ _ h => h
  · refine al_cons ?_ (al_cons ?_ (al_cons ?_ (al_cons ?_ (al_cons ?_ (al_cons ?_ (al_cons ?_ (al_cons ?_ (al_cons ?_ (al_cons ?_ (al_cons ?_ (al_cons ?_ (al_cons ?_ (al_cons ?_ (al_cons ?_ (al_cons ?_ (al_nil))))))))))))))))
    · intro LL xx ac wc sg hst hwant QQ hgo
      exact op_val hwant hgo hst _ (exec_move rfl ((sg.free 13 (by kernel_rfl)).trans so13)) rfl
    · intro LL xx ac wc sg hst hwant QQ hgo
      have se41 : ac.eval (.tmp 41) = _ := (sg.slot 0 (sg.anc 0 rfl))
      have sg41 := gt_of se41
      (try simp only [nth] at se41 sg41)
      exact op_val hwant hgo hst _ (by simp only [execOp, nth]; go_simp <;> omega) rfl
    · intro LL xx ac wc sg hst hwant QQ hgo
      exact op_val hwant hgo hst _ (exec_move rfl (sg.slot 1 (sg.anc 1 rfl))) rfl
    · intro LL xx ac wc sg hst hwant QQ hgo
      exact op_val hwant hgo hst _ (exec_move rfl ((sg.free 12 (by kernel_rfl)).trans so12)) rfl
    · intro LL xx ac wc sg hst hwant QQ hgo
      exact op_val hwant hgo hst _ (exec_move rfl ((sg.free 13 (by kernel_rfl)).trans so13)) rfl
    · intro LL xx ac wc sg hst hwant QQ hgo
      have se44 : ac.eval (.tmp 44) = _ := (sg.slot 3 (sg.anc 3 rfl))
      have sg44 := gt_of se44
      have se45 : ac.eval (.tmp 45) = _ := (sg.slot 4 (sg.anc 4 rfl))
      have sg45 := gt_of se45
      (try simp only [nth] at se44 sg44 se45 sg45)
      exact op_val hwant hgo hst _ (by simp only [execOp, nth]; go_simp <;> omega) rfl
    · intro LL xx ac wc sg hst hwant QQ hgo
      have se46 : ac.eval (.tmp 46) = _ := (sg.slot 5 (sg.anc 5 rfl))
      have sg46 := gt_of se46
      (try simp only [nth] at se46 sg46)
      exact op_val hwant hgo hst _ (by simp only [execOp, nth]; go_simp <;> omega) rfl
    · intro LL xx ac wc sg hst hwant QQ hgo
      have H := Lib.hid hst
      replace H := hp_read H 1 rfl
      refine hpS_load1 0 tystring H rfl (sg.slot 6 (sg.anc 6 rfl)) hwant (by (repeat (first | exact List.Mem.head _ | apply List.Mem.tail))) HRp.out (by rfl) (by simp [Addr.add]) ?_
      exact hgo _ () _ (fun _ _ => rfl) rfl hst
    · intro LL xx ac wc sg hst hwant QQ hgo
      exact op_val hwant hgo hst _ (exec_move rfl ((sg.free 12 (by kernel_rfl)).trans so12)) rfl
    · intro LL xx ac wc sg hst hwant QQ hgo
      exact op_val hwant hgo hst _ (exec_move rfl ((sg.free 13 (by kernel_rfl)).trans so13)) rfl
    · intro LL xx ac wc sg hst hwant QQ hgo
      have se50 : ac.eval (.tmp 50) = _ := (sg.slot 9 (sg.anc 9 rfl))
      have sg50 := gt_of se50
      (try simp only [nth] at se50 sg50)
      exact op_val hwant hgo hst _ (by simp only [execOp, nth]; go_simp <;> omega) rfl
    · intro LL xx ac wc sg hst hwant QQ hgo
      have se49 : ac.eval (.tmp 49) = _ := (sg.slot 8 (sg.anc 8 rfl))
      have sg49 := gt_of se49
      have se51 : ac.eval (.tmp 51) = _ := (sg.slot 10 (sg.anc 10 rfl))
      have sg51 := gt_of se51
      (try simp only [nth] at se49 sg49 se51 sg51)
      exact op_val hwant hgo hst _ (by simp only [execOp, nth]; go_simp <;> omega) rfl
    · intro LL xx ac wc sg hst hwant QQ hgo
      have se52 : ac.eval (.tmp 52) = _ := (sg.slot 11 (sg.anc 11 rfl))
      have sg52 := gt_of se52
      (try simp only [nth] at se52 sg52)
      exact op_val hwant hgo hst _ (by simp only [execOp, nth]; go_simp <;> omega) rfl
    · intro LL xx ac wc sg hst hwant QQ hgo
      have H := Lib.hid hst
      replace H := hp_read H 1 rfl
      refine hpS_load1 0 tystring H rfl (sg.slot 12 (sg.anc 12 rfl)) hwant (by (repeat (first | exact List.Mem.head _ | apply List.Mem.tail))) HRr.out (by rfl) (by simp [Addr.add]) ?_
      exact hgo _ () _ (fun _ _ => rfl) rfl hst
    · intro LL xx ac wc sg hst hwant QQ hgo
      have se48 : ac.eval (.tmp 48) = _ := (sg.slot 7 (sg.anc 7 rfl))
      have sg48 := gt_of se48
      have se54 : ac.eval (.tmp 54) = _ := (sg.slot 13 (sg.anc 13 rfl))
      have sg54 := gt_of se54
      (try simp only [nth] at se48 sg48 se54 sg54)
      exact op_val hwant hgo hst _ (by simp only [execOp, nth]; go_simp <;> omega) rfl
    · intro LL xx ac wc sg hst hwant QQ hgo
      exact op_val hwant hgo hst (.bool false) (exec_pick (B := true) (U := .bool false) (V := undef) rfl (sg.slot 2 (sg.anc 2 rfl)) (fun _ => (sg.slot 14 (sg.anc 14 rfl))) (fun h => by cases h)) rfl
  · refine skips [3, 4, 5, 6, 7, 8, 9, 10, 11, 12, 13, 14] (by kernel_rfl) ?_
    refine List.forall_mem_cons.2 ⟨?_, List.forall_mem_cons.2 ⟨?_, List.forall_mem_cons.2 ⟨?_, List.forall_mem_cons.2 ⟨?_, List.forall_mem_cons.2 ⟨?_, List.forall_mem_cons.2 ⟨?_, List.forall_mem_cons.2 ⟨?_, List.forall_mem_cons.2 ⟨?_, List.forall_mem_cons.2 ⟨?_, List.forall_mem_cons.2 ⟨?_, List.forall_mem_cons.2 ⟨?_, List.forall_mem_cons.2 ⟨?_, fun _ h => by cases h⟩⟩⟩⟩⟩⟩⟩⟩⟩⟩⟩⟩
    · intro oo hop LL xx ac sg hwant
      cases Option.some.inj hop
      exact absurd ((want_t rfl rfl (sg.slot 2 (sg.anc 2 rfl))).symm.trans hwant) (by decide)
    · intro oo hop LL xx ac sg hwant
      cases Option.some.inj hop
      exact absurd ((want_t rfl rfl (sg.slot 2 (sg.anc 2 rfl))).symm.trans hwant) (by decide)
    · intro oo hop LL xx ac sg hwant
      cases Option.some.inj hop
      exact absurd ((want_t rfl rfl (sg.slot 2 (sg.anc 2 rfl))).symm.trans hwant) (by decide)
    · intro oo hop LL xx ac sg hwant
      cases Option.some.inj hop
      exact absurd ((want_t rfl rfl (sg.slot 2 (sg.anc 2 rfl))).symm.trans hwant) (by decide)
    · intro oo hop LL xx ac sg hwant
      cases Option.some.inj hop
      exact absurd ((want_t rfl rfl (sg.slot 2 (sg.anc 2 rfl))).symm.trans hwant) (by decide)
    · intro oo hop LL xx ac sg hwant
      cases Option.some.inj hop
      exact absurd ((want_t rfl rfl (sg.slot 2 (sg.anc 2 rfl))).symm.trans hwant) (by decide)
    · intro oo hop LL xx ac sg hwant
      cases Option.some.inj hop
      exact absurd ((want_t rfl rfl (sg.slot 2 (sg.anc 2 rfl))).symm.trans hwant) (by decide)
    · intro oo hop LL xx ac sg hwant
      cases Option.some.inj hop
      exact absurd ((want_t rfl rfl (sg.slot 2 (sg.anc 2 rfl))).symm.trans hwant) (by decide)
    · intro oo hop LL xx ac sg hwant
      cases Option.some.inj hop
      exact absurd ((want_t rfl rfl (sg.slot 2 (sg.anc 2 rfl))).symm.trans hwant) (by decide)
    · intro oo hop LL xx ac sg hwant
      cases Option.some.inj hop
      exact absurd ((want_t rfl rfl (sg.slot 2 (sg.anc 2 rfl))).symm.trans hwant) (by decide)
    · intro oo hop LL xx ac sg hwant
      cases Option.some.inj hop
      exact absurd ((want_t rfl rfl (sg.slot 2 (sg.anc 2 rfl))).symm.trans hwant) (by decide)
    · intro oo hop LL xx ac sg hwant
      cases Option.some.inj hop
      exact absurd ((want_t rfl rfl (sg.slot 2 (sg.anc 2 rfl))).symm.trans hwant) (by decide)
  · intro xx ac1 wz hfr hsl hst
    exact hfin ac1 wz (hfr.size.trans hz) hfr.defers (fr_keep hfr [41, 42, 43, 44, 45, 46, 47, 48, 49, 50, 51, 52, 53, 54, 55, 56] (by kernel_rfl)) (hsl 15 (by decide)) (Lib.hid hst)
set_option maxRecDepth 20000 in
theorem withRyes6_r11 (la : Option Addr) (lc : Nat) (l : List PairV) (room : Int) (k : KeyV) (v : Int) (hl : l.length ≤ 1000000) (q0 : ((!(getR k l).2) && (decide (room ≤ (l.length : Int)))) = false) (hfl : (l.filter (keepN k)).length ≤ 1000000) (b36 : Nat) (c37 : Nat) (hln : IntKind.i64.wrap ((l.filter (keepN k)).length : Int) = ((l.filter (keepN k)).length : Int)) (yo : Addr) (i : Nat) (hi : i ≤ (l.filter (keepN k)).length) (y1d : 0 < (i : Int)) (q : Nat) (hqm : IntKind.i64.wrap ((i : Int) - 1) = (q : Int)) (hq1 : i ≤ q + 1) (hq2 : q + 1 ≤ i) (hil : (insAt (l.filter (keepN k)) i (k, v)).length = (l.filter (keepN k)).length + 1) {wa wb : World} (H : Hid (Hp [] wa wb [rB b36 124 [.string k, .int .i64 v], rA (some yo) c37 124 2 ((insAt (l.filter (keepN k)) i (k, v)).map rowOf), rS la lc 2 (l.map rowOf)])) (ac0 : Act) (hz : ac0.tmps.size = 77) (so12 : ac0.eval (.tmp 12) = .slice (some yo) ((l.filter (keepN k)).length + 1) c37) {QR : Exit → Act → World → Prop} (hfin : ∀ (ac1 : Act) (wz : World), ac1.tmps.size = 77 → ac1.defers = ac0.defers → (∀ t, ([8, 9, 76] : List Nat).contains t = false → ac1.eval (.tmp t) = ac0.eval (.tmp t)) → ac1.eval (.tmp 8) = .slice (some yo) ((l.filter (keepN k)).length + 1) c37 → ac1.eval (.tmp 9) = .bool true →  Hid (Hp [] wa wz [rB b36 124 [.string k, .int .i64 v], rA (some yo) c37 124 2 ((insAt (l.filter (keepN k)) i (k, v)).map rowOf), rS la lc 2 (l.map rowOf)]) → QR .normal ac1 wz) : (regAt Try.f38 11).wp Try.prog QR ac0 wb := by
  refine wp_region_sq (by kernel_rfl) 77 hz (by kernel_rfl) (fun (xx : Unit) jx => nth [.slice (some yo) ((l.filter (keepN k)).length + 1) c37, .slice (some yo) ((l.filter (keepN k)).length + 1) c37, .bool true] jx) (fun (LL : Nat → Bool) (xx : Unit) ww => Hp [] wa ww [rB b36 124 [.string k, .int .i64 v], rA (some yo) c37 124 2 ((insAt (l.filter (keepN k)) i (k, v)).map rowOf), rS la lc 2 (l.map rowOf)]) () H.out ?_ (steps_al ?_) ?_ ?_
  · exact fun _ _ _ _ _ h => h
  · refine al_cons ?_ (al_cons ?_ (al_cons ?_ (al_nil)))
    · intro LL xx ac wc sg hst hwant QQ hgo
      exact op_val hwant hgo hst _ (exec_move rfl ((sg.free 12 (by kernel_rfl)).trans so12)) rfl
    · intro LL xx ac wc sg hst hwant QQ hgo
      exact op_val hwant hgo hst _ (exec_assign rfl (sg.slot 0 (sg.anc 0 rfl))) rfl
    · intro LL xx ac wc sg hst hwant QQ hgo
      exact op_val hwant hgo hst _ (exec_assign rfl rfl) rfl
  · exact skips [] (by kernel_rfl) (fun _ h => by cases h)
  · intro xx ac1 wz hfr hsl hst
    exact hfin ac1 wz (hfr.size.trans hz) hfr.defers (fr_keep hfr [8, 9, 76] (by kernel_rfl)) (hsl 1 (by decide)) (hsl 2 (by decide)) (Lib.hid hst)
set_option maxRecDepth 20000 in
theorem withRyes6_r6x2 (la : Option Addr) (lc : Nat) (l : List PairV) (room : Int) (k : KeyV) (v : Int) (hl : l.length ≤ 1000000) (q0 : ((!(getR k l).2) && (decide (room ≤ (l.length : Int)))) = false) (hfl : (l.filter (keepN k)).length ≤ 1000000) (b36 : Nat) (c37 : Nat) (hln : IntKind.i64.wrap ((l.filter (keepN k)).length : Int) = ((l.filter (keepN k)).length : Int)) (yo : Addr) (i : Nat) (hi : i ≤ (l.filter (keepN k)).length) (y1 : (decide (0 < (i : Int))) = false) (y1d : ¬ (0 < (i : Int))) {wa wb : World} (H : Hid (Hp [] wa wb [rB b36 124 [.string k, .int .i64 v], rA (some yo) c37 124 2 ((insAt (l.filter (keepN k)) i (k, v)).map rowOf), rS la lc 2 (l.map rowOf)])) (ac0 : Act) (hz : ac0.tmps.size = 77) (so13 : ac0.eval (.tmp 13) = .int .i64 i) {QR : Exit → Act → World → Prop} (hfin : ∀ (ac1 : Act) (wz : World), ac1.tmps.size = 77 → ac1.defers = ac0.defers → (∀ t, ([41, 42, 43, 44, 45, 46, 47, 48, 49, 50, 51, 52, 53, 54, 55, 56] : List Nat).contains t = false → ac1.eval (.tmp t) = ac0.eval (.tmp t)) → ac1.eval (.tmp 56) = .bool false →  Hid (Hp [] wa wz [rB b36 124 [.string k, .int .i64 v], rA (some yo) c37 124 2 ((insAt (l.filter (keepN k)) i (k, v)).map rowOf), rS la lc 2 (l.map rowOf)]) → QR .normal ac1 wz) : (regAt Try.f38 6).wp Try.prog QR ac0 wb := by
  refine wp_region_st mixedP ⟨[0, 1, 2, 3, 3, 4, 5, 6, 3, 3, 4, 5, 6, 7, 8, 9], by kernel_rfl⟩ [[], [0], [0, 1], [0, 1, 2], [0, 1, 2], [0, 1, 2, 3, 4], [0, 1, 2, 3, 4, 5], [0, 1, 2, 3, 4, 5, 6], [0, 1, 2], [0, 1, 2], [0, 1, 2, 9], [0, 1, 2, 8, 9, 10], [0, 1, 2, 8, 9, 10, 11], [0, 1, 2, 8, 9, 10, 11, 12], [0, 1, 2, 3, 4, 5, 6, 7, 8, 9, 10, 11, 12, 13], [0, 1, 2, 3, 4, 5, 6, 7, 8, 9, 10, 11, 12, 13, 14]] (by kernel_rfl) (by kernel_rfl) 77 hz (by kernel_rfl) (fun (xx : Unit) jx => nth [.int .i64 i, .bool false, .bool false, undef, undef, undef, undef, undef, undef, undef, undef, undef, undef, undef, undef, .bool false] jx) (fun (LL : Nat → Bool) (xx : Unit) ww => Hp [] wa ww [rB b36 124 [.string k, .int .i64 v], rA (some yo) c37 124 2 ((insAt (l.filter (keepN k)) i (k, v)).map rowOf), rS la lc 2 (l.map rowOf)]) () H.out.drew ?_ (steps_al ?_) ?_ ?_
  · exact fun _ _ _ _ _ h => h
  · refine al_cons ?_ (al_cons ?_ (al_cons ?_ (al_cons ?_ (al_cons ?_ (al_cons ?_ (al_cons ?_ (al_cons ?_ (al_cons ?_ (al_cons ?_ (al_cons ?_ (al_cons ?_ (al_cons ?_ (al_cons ?_ (al_cons ?_ (al_cons ?_ (al_nil))))))))))))))))
    · intro LL xx ac wc sg hst hwant QQ hgo
      exact op_val hwant hgo hst _ (exec_move rfl ((sg.free 13 (by kernel_rfl)).trans so13)) rfl
    · intro LL xx ac wc sg hst hwant QQ hgo
      have se41 : ac.eval (.tmp 41) = _ := (sg.slot 0 (sg.anc 0 rfl))
      have sg41 := gt_of se41
      (try simp only [nth] at se41 sg41)
      exact op_val hwant hgo hst _ (by simp only [execOp, nth]; go_simp <;> omega) rfl
    · intro LL xx ac wc sg hst hwant QQ hgo
      exact op_val hwant hgo hst _ (exec_move rfl (sg.slot 1 (sg.anc 1 rfl))) rfl
    · intro LL xx ac wc sg hst hwant QQ hgo
      exact absurd ((want_t rfl rfl (sg.slot 2 (sg.anc 2 rfl))).symm.trans hwant) (by simp)
    · intro LL xx ac wc sg hst hwant QQ hgo
      exact absurd ((want_t rfl rfl (sg.slot 2 (sg.anc 2 rfl))).symm.trans hwant) (by simp)
    · intro LL xx ac wc sg hst hwant QQ hgo
      exact absurd ((want_t rfl rfl (sg.slot 2 (sg.anc 2 rfl))).symm.trans hwant) (by simp)
    · intro LL xx ac wc sg hst hwant QQ hgo
      exact absurd ((want_t rfl rfl (sg.slot 2 (sg.anc 2 rfl))).symm.trans hwant) (by simp)
    · intro LL xx ac wc sg hst hwant QQ hgo
      exact absurd ((want_t rfl rfl (sg.slot 2 (sg.anc 2 rfl))).symm.trans hwant) (by simp)
    · intro LL xx ac wc sg hst hwant QQ hgo
      exact absurd ((want_t rfl rfl (sg.slot 2 (sg.anc 2 rfl))).symm.trans hwant) (by simp)
    · intro LL xx ac wc sg hst hwant QQ hgo
      exact absurd ((want_t rfl rfl (sg.slot 2 (sg.anc 2 rfl))).symm.trans hwant) (by simp)
    · intro LL xx ac wc sg hst hwant QQ hgo
      exact absurd ((want_t rfl rfl (sg.slot 2 (sg.anc 2 rfl))).symm.trans hwant) (by simp)
    · intro LL xx ac wc sg hst hwant QQ hgo
      exact absurd ((want_t rfl rfl (sg.slot 2 (sg.anc 2 rfl))).symm.trans hwant) (by simp)
    · intro LL xx ac wc sg hst hwant QQ hgo
      exact absurd ((want_t rfl rfl (sg.slot 2 (sg.anc 2 rfl))).symm.trans hwant) (by simp)
    · intro LL xx ac wc sg hst hwant QQ hgo
      exact absurd ((want_t rfl rfl (sg.slot 2 (sg.anc 2 rfl))).symm.trans hwant) (by simp)
    · intro LL xx ac wc sg hst hwant QQ hgo
      exact absurd ((want_t rfl rfl (sg.slot 2 (sg.anc 2 rfl))).symm.trans hwant) (by simp)
    · intro LL xx ac wc sg hst hwant QQ hgo
      exact op_val hwant hgo hst (.bool false) (exec_pick (B := false) (U := undef) (V := .bool false) rfl (sg.slot 2 (sg.anc 2 rfl)) (fun h => by cases h) (fun _ => rfl)) rfl
  · refine skips [3, 4, 5, 6, 7, 8, 9, 10, 11, 12, 13, 14] (by kernel_rfl) ?_
    refine List.forall_mem_cons.2 ⟨?_, List.forall_mem_cons.2 ⟨?_, List.forall_mem_cons.2 ⟨?_, List.forall_mem_cons.2 ⟨?_, List.forall_mem_cons.2 ⟨?_, List.forall_mem_cons.2 ⟨?_, List.forall_mem_cons.2 ⟨?_, List.forall_mem_cons.2 ⟨?_, List.forall_mem_cons.2 ⟨?_, List.forall_mem_cons.2 ⟨?_, List.forall_mem_cons.2 ⟨?_, List.forall_mem_cons.2 ⟨?_, fun _ h => by cases h⟩⟩⟩⟩⟩⟩⟩⟩⟩⟩⟩⟩
    · intro oo hop LL xx ac sg hwant
      cases Option.some.inj hop
      exact ⟨rfl, fun _ h => h⟩
    · intro oo hop LL xx ac sg hwant
      cases Option.some.inj hop
      exact ⟨rfl, fun _ h => h⟩
    · intro oo hop LL xx ac sg hwant
      cases Option.some.inj hop
      exact ⟨rfl, fun _ h => h⟩
    · intro oo hop LL xx ac sg hwant
      cases Option.some.inj hop
      exact ⟨rfl, fun _ h => h⟩
    · intro oo hop LL xx ac sg hwant
      cases Option.some.inj hop
      exact ⟨rfl, fun _ h => h⟩
    · intro oo hop LL xx ac sg hwant
      cases Option.some.inj hop
      exact ⟨rfl, fun _ h => h⟩
    · intro oo hop LL xx ac sg hwant
      cases Option.some.inj hop
      exact ⟨rfl, fun _ h => h⟩
    · intro oo hop LL xx ac sg hwant
      cases Option.some.inj hop
      exact ⟨rfl, fun _ h => h⟩
    · intro oo hop LL xx ac sg hwant
      cases Option.some.inj hop
      exact ⟨rfl, fun _ h => h⟩
    · intro oo hop LL xx ac sg hwant
      cases Option.some.inj hop
      exact ⟨rfl, fun _ h => h⟩
    · intro oo hop LL xx ac sg hwant
      cases Option.some.inj hop
      exact ⟨rfl, fun _ h => h⟩
    · intro oo hop LL xx ac sg hwant
      cases Option.some.inj hop
      exact ⟨rfl, fun _ h => h⟩
  · intro xx ac1 wz hfr hsl hst
    exact hfin ac1 wz (hfr.size.trans hz) hfr.defers (fr_keep hfr [41, 42, 43, 44, 45, 46, 47, 48, 49, 50, 51, 52, 53, 54, 55, 56] (by kernel_rfl)) (hsl 15 (by decide)) (Lib.hid hst)
set_option maxRecDepth 20000 in
theorem withRyes6_r11x1 (la : Option Addr) (lc : Nat) (l : List PairV) (room : Int) (k : KeyV) (v : Int) (hl : l.length ≤ 1000000) (q0 : ((!(getR k l).2) && (decide (room ≤ (l.length : Int)))) = false) (hfl : (l.filter (keepN k)).length ≤ 1000000) (b36 : Nat) (c37 : Nat) (hln : IntKind.i64.wrap ((l.filter (keepN k)).length : Int) = ((l.filter (keepN k)).length : Int)) (yo : Addr) (i : Nat) (hi : i ≤ (l.filter (keepN k)).length) (y1d : ¬ (0 < (i : Int))) {wa wb : World} (H : Hid (Hp [] wa wb [rB b36 124 [.string k, .int .i64 v], rA (some yo) c37 124 2 ((insAt (l.filter (keepN k)) i (k, v)).map rowOf), rS la lc 2 (l.map rowOf)])) (ac0 : Act) (hz : ac0.tmps.size = 77) (so12 : ac0.eval (.tmp 12) = .slice (some yo) ((l.filter (keepN k)).length + 1) c37) {QR : Exit → Act → World → Prop} (hfin : ∀ (ac1 : Act) (wz : World), ac1.tmps.size = 77 → ac1.defers = ac0.defers → (∀ t, ([8, 9, 76] : List Nat).contains t = false → ac1.eval (.tmp t) = ac0.eval (.tmp t)) → ac1.eval (.tmp 8) = .slice (some yo) ((l.filter (keepN k)).length + 1) c37 → ac1.eval (.tmp 9) = .bool true →  Hid (Hp [] wa wz [rB b36 124 [.string k, .int .i64 v], rA (some yo) c37 124 2 ((insAt (l.filter (keepN k)) i (k, v)).map rowOf), rS la lc 2 (l.map rowOf)]) → QR .normal ac1 wz) : (regAt Try.f38 11).wp Try.prog QR ac0 wb := by
  refine wp_region_sq (by kernel_rfl) 77 hz (by kernel_rfl) (fun (xx : Unit) jx => nth [.slice (some yo) ((l.filter (keepN k)).length + 1) c37, .slice (some yo) ((l.filter (keepN k)).length + 1) c37, .bool true] jx) (fun (LL : Nat → Bool) (xx : Unit) ww => Hp [] wa ww [rB b36 124 [.string k, .int .i64 v], rA (some yo) c37 124 2 ((insAt (l.filter (keepN k)) i (k, v)).map rowOf), rS la lc 2 (l.map rowOf)]) () H.out ?_ (steps_al ?_) ?_ ?_
  · exact fun _ _ _ _ _ h => h
  · refine al_cons ?_ (al_cons ?_ (al_cons ?_ (al_nil)))
    · intro LL xx ac wc sg hst hwant QQ hgo
      exact op_val hwant hgo hst _ (exec_move rfl ((sg.free 12 (by kernel_rfl)).trans so12)) rfl
    · intro LL xx ac wc sg hst hwant QQ hgo
      exact op_val hwant hgo hst _ (exec_assign rfl (sg.slot 0 (sg.anc 0 rfl))) rfl
    · intro LL xx ac wc sg hst hwant QQ hgo
      exact op_val hwant hgo hst _ (exec_assign rfl rfl) rfl
  · exact skips [] (by kernel_rfl) (fun _ h => by cases h)
  · intro xx ac1 wz hfr hsl hst
    exact hfin ac1 wz (hfr.size.trans hz) hfr.defers (fr_keep hfr [8, 9, 76] (by kernel_rfl)) (hsl 1 (by decide)) (hsl 2 (by decide)) (Lib.hid hst)
set_option maxRecDepth 20000 in
theorem withRyes6 (la : Option Addr) (lc : Nat) (l : List PairV) (room : Int) (k : KeyV) (v : Int) (w : World) (h : (rS la lc 2 (l.map rowOf)).holds w) (hl : l.length ≤ 1000000) (hs : Hid (Sorted l)) (hrm : Hid (isV k l = true ∨ ((l.length : Int) == room) = false)) (q0 : ((!(getR k l).2) && (decide (room ≤ (l.length : Int)))) = false) : Calls Try.prog 38 #[.slice la l.length lc, .int .i64 room, .string k, .int .i64 v] w fun e w' => ∃ a' c', e = .returned (.tuple #[.slice a' (withV room k v l).1.length c', .bool true]) ∧ (rS a' c' 2 ((withV room k v l).1.map rowOf)).holds w' ∧ From w [] (rS a' c' 2 ((withV room k v l).1.map rowOf)).foot ∧ Off [] w w' := by
  have H := Lib.hid (Hp.start [] w)
  have H := hp_old H h (by decide)
  clear h
  refine calls_start Try.func38 rfl 77 rfl (by simp) (fun aa nn dd sl => ?_)
  have ss0 : aa.eval (.tmp 0) = .slice la l.length lc := sl 0 (by simp)
  have ss1 : aa.eval (.tmp 1) = .int .i64 room := sl 1 (by simp)
  have ss2 : aa.eval (.tmp 2) = .string k := sl 2 (by simp)
  have ss3 : aa.eval (.tmp 3) = .int .i64 v := sl 3 (by simp)
  clear sl
  have hfl : (l.filter (keepN k)).length ≤ 1000000 := Nat.le_trans (List.length_filter_le _ _) hl
  refine wp_seq_k fun KK1 hK1 => ?_
  refine withRyes6_r0 la lc l room k hl q0 hfl H aa nn  ?_
  clear H nn
  intro aa ww nn dd1 kp ss8 ss9 H
  replace ss0 := (kp 0 rfl).trans ss0
  replace ss1 := (kp 1 rfl).trans ss1
  replace ss2 := (kp 2 rfl).trans ss2
  replace ss3 := (kp 3 rfl).trans ss3
  replace dd := dd1.trans dd
  clear dd1 kp
  refine then_normal ?_
  refine hK1 _ _ ?_
  refine wp_seq_k fun KK2 hK2 => ?_
  refine withRyes6_r1 la lc l room k hl q0 hfl H aa nn ss0 ss2 ?_
  clear H nn
  intro aa ww nn dd1 kp ss11 H
  replace ss0 := (kp 0 rfl).trans ss0
  replace ss1 := (kp 1 rfl).trans ss1
  replace ss2 := (kp 2 rfl).trans ss2
  replace ss3 := (kp 3 rfl).trans ss3
  replace ss8 := (kp 8 rfl).trans ss8
  replace ss9 := (kp 9 rfl).trans ss9
  replace dd := dd1.trans dd
  clear dd1 kp
  refine then_normal ?_
  refine hK2 _ _ ?_
  refine wp_seq_k fun KK3 hK3 => ?_
  refine wp_seq_k fun KK4 hK4 => ?_
  refine withRyes6_r2 la lc l room k hl q0 hfl H aa nn ss0 ss1 ss11 ?_
  clear H nn
  intro aa ww nn dd1 kp ss28 H
  replace ss0 := (kp 0 rfl).trans ss0
  replace ss1 := (kp 1 rfl).trans ss1
  replace ss2 := (kp 2 rfl).trans ss2
  replace ss3 := (kp 3 rfl).trans ss3
  replace ss8 := (kp 8 rfl).trans ss8
  replace ss9 := (kp 9 rfl).trans ss9
  replace ss11 := (kp 11 rfl).trans ss11
  replace dd := dd1.trans dd
  clear dd1 kp
  refine then_normal ?_
  refine hK4 _ _ ?_
  refine wp_cond_false ss28 ?_
  refine wp_skip ?_
  refine then_normal ?_
  refine hK3 _ _ ?_
  refine wp_seq_k fun KK5 hK5 => ?_
  refine withRyes6_r4 la lc l room k v hl q0 hfl H aa nn ss0 ss2 ss3 ?_
  clear H nn
  intro a4_2 c4_2 b36 a37 c37 aa ww nn dd1 kp ss12 H
  replace ss0 := (kp 0 rfl).trans ss0
  replace ss1 := (kp 1 rfl).trans ss1
  replace ss2 := (kp 2 rfl).trans ss2
  replace ss3 := (kp 3 rfl).trans ss3
  replace ss8 := (kp 8 rfl).trans ss8
  replace ss9 := (kp 9 rfl).trans ss9
  replace ss11 := (kp 11 rfl).trans ss11
  replace ss28 := (kp 28 rfl).trans ss28
  replace dd := dd1.trans dd
  clear dd1 kp
  refine then_normal ?_
  refine hK5 _ _ ?_
  refine wp_seq_k fun KK6 hK6 => ?_
  refine wp_seq_k fun KK7 hK7 => ?_
  obtain ⟨yb, rfl⟩ := rA_at (H.out.at 1 rfl) (by simp)
  generalize hyo : (⟨yb, 0, none⟩ : Addr) = yo at H ss12
  clear hyo
  rw [show (l.filter (keepN k)) ++ [(⟨k, v⟩ : PairV)] = insAt (l.filter (keepN k)) (l.filter (keepN k)).length (k, v) by simp [insAt]] at H ss12
  rw [gap_len _ _ _ (Nat.le_refl _)] at ss12
  have hln : IntKind.i64.wrap ((l.filter (keepN k)).length : Int) = ((l.filter (keepN k)).length : Int) := IntWalk.i64_in _ (by omega)
  refine withRyes6_r5 la lc l room k v hl q0 hfl b36 c37 hln yo H aa nn ss12 ?_
  clear H nn
  intro aa ww nn dd1 kp ss13 H
  replace ss0 := (kp 0 rfl).trans ss0
  replace ss1 := (kp 1 rfl).trans ss1
  replace ss2 := (kp 2 rfl).trans ss2
  replace ss3 := (kp 3 rfl).trans ss3
  replace ss8 := (kp 8 rfl).trans ss8
  replace ss9 := (kp 9 rfl).trans ss9
  replace ss11 := (kp 11 rfl).trans ss11
  replace ss12 := (kp 12 rfl).trans ss12
  replace ss28 := (kp 28 rfl).trans ss28
  replace dd := dd1.trans dd
  clear dd1 kp
  refine then_normal ?_
  refine hK7 _ _ ?_
  refine wp_block ?_
  refine wp_loop (fun ab wv => ∃ i : Nat, i ≤ (l.filter (keepN k)).length ∧ Hid (∀ j, i ≤ j → ∀ p, (l.filter (keepN k))[j]? = some p → ltK k p.1 = true) ∧ ab.tmps.size = 77 ∧ ab.defers = [] ∧ ab.eval (.tmp 0) = .slice la l.length lc ∧ ab.eval (.tmp 1) = .int .i64 room ∧ ab.eval (.tmp 2) = .string k ∧ ab.eval (.tmp 3) = .int .i64 v ∧ ab.eval (.tmp 8) = .slice none 0 0 ∧ ab.eval (.tmp 9) = .bool false ∧ ab.eval (.tmp 11) = .bool ((getR k l).2) ∧ ab.eval (.tmp 12) = .slice (some yo) ((l.filter (keepN k)).length + 1) c37 ∧ ab.eval (.tmp 13) = .int .i64 i ∧ ab.eval (.tmp 28) = .bool false ∧ Hid (Hp [] w wv [rB b36 124 [.string k, .int .i64 v], rA (some yo) c37 124 2 ((insAt (l.filter (keepN k)) i (k, v)).map rowOf), rS la lc 2 (l.map rowOf)])) (fun ab _ => (intOf (ab.eval (.tmp 13))).toNat) ⟨(l.filter (keepN k)).length, (Nat.le_refl _), (Lib.hid (fun j hj p hp => by rw [List.getElem?_eq_none hj] at hp; cases hp)), nn, dd, ss0, ss1, ss2, ss3, ss8, ss9, ss11, ss12, ss13, ss28, H⟩ (fun aa wv hI => ?_)
  clear H nn dd ss0 ss1 ss2 ss3 ss8 ss9 ss11 ss12 ss13 ss28
  obtain ⟨i, hi, hg, nn, dd, ss0, ss1, ss2, ss3, ss8, ss9, ss11, ss12, ss13, ss28, H⟩ := hI
  have mu1_13 := ss13
  refine wp_seq_k fun KK8 hK8 => ?_
  refine wp_seq_k fun KK9 hK9 => ?_
  rcases Bool.eq_false_or_eq_true (decide (0 < (i : Int))) with y1 | y1
  · skip
    have y1d : 0 < (i : Int) := of_decide_eq_true y1
    obtain ⟨q, hq0⟩ : ∃ q, i = q + 1 := ⟨i - 1, by omega⟩
    obtain ⟨r, hr⟩ : ∃ r, (l.filter (keepN k))[q]? = some r := ⟨(l.filter (keepN k))[q], List.getElem?_eq_getElem (by omega)⟩
    have HRp := Lib.hid (show ((insAt (l.filter (keepN k)) i (k, v)).map rowOf)[i]? = some [.string k, .int .i64 v] by rw [List.getElem?_map, gap_at _ _ _ (by omega)]; rfl)
    have HRr := Lib.hid (show ((insAt (l.filter (keepN k)) i (k, v)).map rowOf)[q]? = some [.string r.1, .int .i64 r.2] by rw [List.getElem?_map, hq0, gap_left _ _ _ _ hr]; rfl)
    have HXr := Lib.hid hr
    have hqm : IntKind.i64.wrap ((i : Int) - 1) = (q : Int) := by rw [IntWalk.i64_in _ (by omega)]; omega
    have hq1 : i ≤ q + 1 := by omega
    have hq2 : q + 1 ≤ i := by omega
    have hil : (insAt (l.filter (keepN k)) i (k, v)).length = (l.filter (keepN k)).length + 1 := gap_len _ _ _ (by omega)
    clear hr hq0
    rcases Bool.eq_false_or_eq_true (Op.bytesLess k.toList r.1.toList) with y2 | y2
    · skip
      refine withRyes6_r6 la lc l room k v hl q0 hfl b36 c37 hln yo i hi y1 y1d q r HRp HRr hqm hq1 hq2 hil y2 H aa nn ss12 ss13 ?_
      clear H nn
      intro aa ww nn dd1 kp ss56 H
      replace ss0 := (kp 0 rfl).trans ss0
      replace ss1 := (kp 1 rfl).trans ss1
      replace ss2 := (kp 2 rfl).trans ss2
      replace ss3 := (kp 3 rfl).trans ss3
      replace ss8 := (kp 8 rfl).trans ss8
      replace ss9 := (kp 9 rfl).trans ss9
      replace ss11 := (kp 11 rfl).trans ss11
      replace ss12 := (kp 12 rfl).trans ss12
      replace ss13 := (kp 13 rfl).trans ss13
      replace ss28 := (kp 28 rfl).trans ss28
      replace dd := dd1.trans dd
      clear dd1 kp
      refine then_normal ?_
      refine hK9 _ _ ?_
      refine wp_cond_true ss56 ?_
      refine wp_skip ?_
      refine then_normal ?_
      refine hK8 _ _ ?_
      refine wp_seq_k fun KK10 hK10 => ?_
      refine wp_block ?_
      refine wp_seq_k fun KK11 hK11 => ?_
      refine withRyes6_r8 la lc l room k v hl q0 hfl b36 c37 hln yo i hi y1d q HRp hqm hq1 hq2 hil H aa nn ss12 ss13 ?_
      clear H nn
      intro b14 aa ww nn dd1 kp ss14 H
      replace ss0 := (kp 0 rfl).trans ss0
      replace ss1 := (kp 1 rfl).trans ss1
      replace ss2 := (kp 2 rfl).trans ss2
      replace ss3 := (kp 3 rfl).trans ss3
      replace ss8 := (kp 8 rfl).trans ss8
      replace ss9 := (kp 9 rfl).trans ss9
      replace ss11 := (kp 11 rfl).trans ss11
      replace ss12 := (kp 12 rfl).trans ss12
      replace ss13 := (kp 13 rfl).trans ss13
      replace ss28 := (kp 28 rfl).trans ss28
      replace ss56 := (kp 56 rfl).trans ss56
      replace dd := dd1.trans dd
      clear dd1 kp
      refine then_normal ?_
      refine hK11 _ _ ?_
      refine wp_seq_k fun KK12 hK12 => ?_
      refine withRyes6_r9 la lc l room k v hl q0 hfl b36 c37 hln yo i hi y1d q r HRr hqm hq1 hq2 hil b14 H aa nn ss12 ss13 ?_
      clear H nn
      intro aa ww nn dd1 kp H
      replace ss0 := (kp 0 rfl).trans ss0
      replace ss1 := (kp 1 rfl).trans ss1
      replace ss2 := (kp 2 rfl).trans ss2
      replace ss3 := (kp 3 rfl).trans ss3
      replace ss8 := (kp 8 rfl).trans ss8
      replace ss9 := (kp 9 rfl).trans ss9
      replace ss11 := (kp 11 rfl).trans ss11
      replace ss12 := (kp 12 rfl).trans ss12
      replace ss13 := (kp 13 rfl).trans ss13
      replace ss14 := (kp 14 rfl).trans ss14
      replace ss28 := (kp 28 rfl).trans ss28
      replace ss56 := (kp 56 rfl).trans ss56
      replace dd := dd1.trans dd
      clear dd1 kp
      refine then_normal ?_
      refine hK12 _ _ ?_
      refine withRyes6_r10 la lc l room k v hl q0 hfl b36 c37 hln yo i hi y1d q r hqm hq1 hq2 hil b14 H aa nn ss12 ss13 ss14 ?_
      clear H nn
      intro aa ww nn dd1 kp H
      replace ss0 := (kp 0 rfl).trans ss0
      replace ss1 := (kp 1 rfl).trans ss1
      replace ss2 := (kp 2 rfl).trans ss2
      replace ss3 := (kp 3 rfl).trans ss3
      replace ss8 := (kp 8 rfl).trans ss8
      replace ss9 := (kp 9 rfl).trans ss9
      replace ss11 := (kp 11 rfl).trans ss11
      replace ss12 := (kp 12 rfl).trans ss12
      replace ss13 := (kp 13 rfl).trans ss13
      replace ss14 := (kp 14 rfl).trans ss14
      replace ss28 := (kp 28 rfl).trans ss28
      replace ss56 := (kp 56 rfl).trans ss56
      replace dd := dd1.trans dd
      clear dd1 kp
      refine block_normal ?_
      refine then_normal ?_
      refine hK10 _ _ ?_
      refine withRyes6_r7 la lc l room k v hl q0 hfl b36 c37 hln yo i hi y1d q r hqm hq1 hq2 hil b14 H aa nn ss13 ?_
      clear H nn ss13
      intro aa ww nn dd1 kp ss13 H
      replace ss0 := (kp 0 rfl).trans ss0
      replace ss1 := (kp 1 rfl).trans ss1
      replace ss2 := (kp 2 rfl).trans ss2
      replace ss3 := (kp 3 rfl).trans ss3
      replace ss8 := (kp 8 rfl).trans ss8
      replace ss9 := (kp 9 rfl).trans ss9
      replace ss11 := (kp 11 rfl).trans ss11
      replace ss12 := (kp 12 rfl).trans ss12
      replace ss14 := (kp 14 rfl).trans ss14
      replace ss28 := (kp 28 rfl).trans ss28
      replace ss56 := (kp 56 rfl).trans ss56
      replace dd := dd1.trans dd
      clear dd1 kp
      refine then_normal ?_
      have hlt : ltK k r.1 = true := y2
      obtain rfl : i = q + 1 := by omega
      have hsw := gap_swap (l.filter (keepN k)) q (k, v) r HXr.out
      rw [show rowOf r = [.string r.1, .int .i64 r.2] from rfl, show rowOf (k, v) = [.string k, .int .i64 v] from rfl] at hsw
      rw [hsw] at H
      replace H := hp_front H 3 rfl
      replace H := hp_front H 3 rfl
      replace H := hp_front H 3 rfl
      refine ⟨⟨q, (by omega), (Lib.hid (gap_more hg.out HXr.out hlt)), nn, dd, ss0, ss1, ss2, ss3, ss8, ss9, ss11, ss12, ss13, ss28, (hp_take H 3)⟩, ?_⟩
      simp only [mu1_13, ss13, intOf]
      omega
    · skip
      refine withRyes6_r6x1 la lc l room k v hl q0 hfl b36 c37 hln yo i hi y1 y1d q r HRp HRr hqm hq1 hq2 hil y2 H aa nn ss12 ss13 ?_
      clear H nn
      intro aa ww nn dd1 kp ss56 H
      replace ss0 := (kp 0 rfl).trans ss0
      replace ss1 := (kp 1 rfl).trans ss1
      replace ss2 := (kp 2 rfl).trans ss2
      replace ss3 := (kp 3 rfl).trans ss3
      replace ss8 := (kp 8 rfl).trans ss8
      replace ss9 := (kp 9 rfl).trans ss9
      replace ss11 := (kp 11 rfl).trans ss11
      replace ss12 := (kp 12 rfl).trans ss12
      replace ss13 := (kp 13 rfl).trans ss13
      replace ss28 := (kp 28 rfl).trans ss28
      replace dd := dd1.trans dd
      clear dd1 kp
      refine then_normal ?_
      refine hK9 _ _ ?_
      refine wp_cond_false ss56 ?_
      refine wp_exit ?_
      refine then_exit ?_
      refine then_exit ?_
      refine block_exit ?_
      refine then_normal ?_
      refine hK6 _ _ ?_
      refine wp_seq_k fun KK13 hK13 => ?_
      refine withRyes6_r11 la lc l room k v hl q0 hfl b36 c37 hln yo i hi y1d q hqm hq1 hq2 hil H aa nn ss12 ?_
      clear H nn ss8 ss9
      intro aa ww nn dd1 kp ss8 ss9 H
      replace ss0 := (kp 0 rfl).trans ss0
      replace ss1 := (kp 1 rfl).trans ss1
      replace ss2 := (kp 2 rfl).trans ss2
      replace ss3 := (kp 3 rfl).trans ss3
      replace ss11 := (kp 11 rfl).trans ss11
      replace ss12 := (kp 12 rfl).trans ss12
      replace ss13 := (kp 13 rfl).trans ss13
      replace ss28 := (kp 28 rfl).trans ss28
      replace ss56 := (kp 56 rfl).trans ss56
      replace dd := dd1.trans dd
      clear dd1 kp
      refine then_normal ?_
      refine hK13 _ _ ?_
      refine wp_ret ?_
      exact ret2 rfl dd ss8 ss9 (by have hgw := gap_with hs.out room k v hrm.out hg.out (.inr ⟨q, r, by omega, HXr.out, y2⟩); rw [hgw] at H; have hlen := gap_len (l.filter (keepN k)) i (k, v) hi; rw [hgw] at hlen; rw [← hlen]; have hh := hp_from (e := 124) H (show rA (some yo) c37 124 2 ((withV room k v l).1.map rowOf) ∈ _ by (repeat (first | exact List.Mem.head _ | apply List.Mem.tail))) []; exact ⟨_, _, rfl, hh.1, hh.2, H.out.off⟩)
  · skip
    have y1d : ¬ (0 < (i : Int)) := of_decide_eq_false y1
    refine withRyes6_r6x2 la lc l room k v hl q0 hfl b36 c37 hln yo i hi y1 y1d H aa nn ss13 ?_
    clear H nn
    intro aa ww nn dd1 kp ss56 H
    replace ss0 := (kp 0 rfl).trans ss0
    replace ss1 := (kp 1 rfl).trans ss1
    replace ss2 := (kp 2 rfl).trans ss2
    replace ss3 := (kp 3 rfl).trans ss3
    replace ss8 := (kp 8 rfl).trans ss8
    replace ss9 := (kp 9 rfl).trans ss9
    replace ss11 := (kp 11 rfl).trans ss11
    replace ss12 := (kp 12 rfl).trans ss12
    replace ss13 := (kp 13 rfl).trans ss13
    replace ss28 := (kp 28 rfl).trans ss28
    replace dd := dd1.trans dd
    clear dd1 kp
    refine then_normal ?_
    refine hK9 _ _ ?_
    refine wp_cond_false ss56 ?_
    refine wp_exit ?_
    refine then_exit ?_
    refine then_exit ?_
    refine block_exit ?_
    refine then_normal ?_
    refine hK6 _ _ ?_
    refine wp_seq_k fun KK14 hK14 => ?_
    refine withRyes6_r11x1 la lc l room k v hl q0 hfl b36 c37 hln yo i hi y1d H aa nn ss12 ?_
    clear H nn ss8 ss9
    intro aa ww nn dd1 kp ss8 ss9 H
    replace ss0 := (kp 0 rfl).trans ss0
    replace ss1 := (kp 1 rfl).trans ss1
    replace ss2 := (kp 2 rfl).trans ss2
    replace ss3 := (kp 3 rfl).trans ss3
    replace ss11 := (kp 11 rfl).trans ss11
    replace ss12 := (kp 12 rfl).trans ss12
    replace ss13 := (kp 13 rfl).trans ss13
    replace ss28 := (kp 28 rfl).trans ss28
    replace ss56 := (kp 56 rfl).trans ss56
    replace dd := dd1.trans dd
    clear dd1 kp
    refine then_normal ?_
    refine hK14 _ _ ?_
    refine wp_ret ?_
    exact ret2 rfl dd ss8 ss9 (by have hgw := gap_with hs.out room k v hrm.out hg.out (.inl (by omega)); rw [hgw] at H; have hlen := gap_len (l.filter (keepN k)) i (k, v) hi; rw [hgw] at hlen; rw [← hlen]; have hh := hp_from (e := 124) H (show rA (some yo) c37 124 2 ((withV room k v l).1.map rowOf) ∈ _ by (repeat (first | exact List.Mem.head _ | apply List.Mem.tail))) []; exact ⟨_, _, rfl, hh.1, hh.2, H.out.off⟩)
end Go.Proofs.Ytfhhfmkfkoemjaa.Si6
