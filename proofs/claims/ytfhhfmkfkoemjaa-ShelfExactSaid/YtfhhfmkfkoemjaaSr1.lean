/- The reference of layer 6: Get, Without, Keep. -/
import Derived.Test.YtfhhfmkfkoemjaaProg
import Derived.Below
import Derived.WalkKit
import Derived.KernelRfl
import Derived.RowKit3
import Derived.Deep.LoopGhost
import Derived.Deep.QuietTactic
import Derived.BigQuiet
import Derived.WideLaws
import Derived.Deep.DeepCutAuto
import Derived.Deep.CutBlock
import Derived.Lib.Hide
import Derived.Laws.BitsLemmas
import Derived.Laws.Bits64
import Derived.Laws.BitsAllLaws
import Derived.IntWalk
import Derived.Outline
import Derived.WalkSpells
import Derived.Test.YtfhhfmkfkoemjaaMem
import Derived.Test.YtfhhfmkfkoemjaaSo6
import Derived.Test.YtfhhfmkfkoemjaaRegS
namespace Go.Proofs.Ytfhhfmkfkoemjaa.Si6
open Go.RowKit Go.Proofs.Ytfhhfmkfkoemjaa.Mem Go.Proofs.Ytfhhfmkfkoemjaa.Reg
set_option linter.unusedVariables false
set_option linter.unusedSimpArgs false

def hitP (k : KeyV) (p : PairV) : Bool := p.1.toList == k.toList
def keepN (k : KeyV) (p : PairV) : Bool := !(p.1.toList == k.toList)
def getR (k : KeyV) (l : List PairV) : Int × Bool := match l.find? (hitP k) with
  | some p => (p.2, true)
  | none => (0, false)
theorem find_at {α : Type} (f : α → Bool) : ∀ (l : List α) (j : Nat) (x : α), (∀ k, k < j → ∀ y, l[k]? = some y → f y = false) → l[j]? = some x → f x = true → l.find? f = some x
  | [], _, _, _, h, _ => by simp at h
  | a :: l, 0, x, _, h, hf => by simp at h; subst h; simp [hf]
  | a :: l, j + 1, x, hn, h, hf => by
    have h0 := hn 0 (by omega) a rfl
    rw [List.find?_cons_of_neg (by simp [h0])]
    exact find_at f l j x (fun k hk y hy => hn (k + 1) (by omega) y (by simpa using hy)) (by simpa using h) hf
theorem find_no {α : Type} (f : α → Bool) (l : List α) (h : ∀ k, k < l.length → ∀ y, l[k]? = some y → f y = false) : l.find? f = none := by
  rw [List.find?_eq_none]
  intro x hx
  obtain ⟨k, hk, rfl⟩ := List.getElem_of_mem hx
  rw [h k hk _ (List.getElem?_eq_getElem hk)]
  decide
theorem take_yes {α : Type} {l : List α} {f : α → Bool} {i : Nat} {x : α} (h : l[i]? = some x) (hf : f x = true) : (l.take (i + 1)).filter f = (l.take i).filter f ++ [x] := by
  rw [List.take_add_one, h, List.filter_append]
  simp [hf]
theorem take_no {α : Type} {l : List α} {f : α → Bool} {i : Nat} {x : α} (h : l[i]? = some x) (hf : f x = false) : (l.take (i + 1)).filter f = (l.take i).filter f := by
  rw [List.take_add_one, h, List.filter_append]
  simp [hf]
theorem take_le {α : Type} (l : List α) (f : α → Bool) (i : Nat) : ((l.take i).filter f).length ≤ i := Nat.le_trans (List.length_filter_le _ _) (List.length_take_le _ _)
theorem find_next {α : Type} {f : α → Bool} {l : List α} {j : Nat} {x : α} (h : ∀ k, k < j → ∀ y, l[k]? = some y → f y = false) (hx : l[j]? = some x) (hf : f x = false) : ∀ k, k < j + 1 → ∀ y, l[k]? = some y → f y = false := fun k hk y hy => by
  rcases Nat.lt_or_ge k j with h1 | h1
  · exact h k h1 y hy
  · obtain rfl : k = j := by omega
    rw [hx] at hy
    exact Option.some.inj hy ▸ hf
theorem elP : ElI Try.prog 65 124 2 24 := ElI.of (by kernel_rfl) (by kernel_rfl) (by decide)
theorem tyhoistwayref06_Pair : TyI Try.prog 124 2 true [.string ⟨#[]⟩, .int .i64 0] := ⟨by kernel_rfl, by kernel_rfl, by kernel_rfl⟩
set_option maxRecDepth 20000 in
theorem getRC_r0 (la : Option Addr) (lc : Nat) (l : List PairV) (hl : l.length ≤ 1000000) {wa wb : World} (H : Hid (Hp [] wa wb [rS la lc 2 (l.map rowOf)])) (ac0 : Act) (hz : ac0.tmps.size = 25)  {QR : Exit → Act → World → Prop} (hfin : ∀ (ac1 : Act) (wz : World), ac1.tmps.size = 25 → ac1.defers = ac0.defers → (∀ t, ([4, 5] : List Nat).contains t = false → ac1.eval (.tmp t) = ac0.eval (.tmp t)) → ac1.eval (.tmp 4) = .int .i64 0 → ac1.eval (.tmp 5) = .bool false →  Hid (Hp [] wa wz [rS la lc 2 (l.map rowOf)]) → QR .normal ac1 wz) : (regAt Try.f41 0).wp Try.prog QR ac0 wb := by
  refine wp_region_sq (by kernel_rfl) 25 hz (by kernel_rfl) (fun (xx : Unit) jx => nth [.int .i64 0, .bool false] jx) (fun (LL : Nat → Bool) (xx : Unit) ww => Hp [] wa ww [rS la lc 2 (l.map rowOf)]) () H.out ?_ (steps_al ?_) ?_ ?_
  · exact fun _ _ _ _ _ h => h
  · refine al_cons ?_ (al_cons ?_ (al_nil))
    · intro LL xx ac wc sg hst hwant QQ hgo
      exact op_val hwant hgo hst _ (exec_assign rfl rfl) rfl
    · intro LL xx ac wc sg hst hwant QQ hgo
      exact op_val hwant hgo hst _ (exec_assign rfl rfl) rfl
  · exact skips [] (by kernel_rfl) (fun _ h => by cases h)
  · intro xx ac1 wz hfr hsl hst
    exact hfin ac1 wz (hfr.size.trans hz) hfr.defers (fr_keep hfr [4, 5] (by kernel_rfl)) (hsl 0 (by decide)) (hsl 1 (by decide)) (Lib.hid hst)
set_option maxRecDepth 20000 in
theorem getRC_r1 (la : Option Addr) (lc : Nat) (l : List PairV) (hl : l.length ≤ 1000000) {wa wb : World} (H : Hid (Hp [] wa wb [rS la lc 2 (l.map rowOf)])) (ac0 : Act) (hz : ac0.tmps.size = 25)  {QR : Exit → Act → World → Prop} (hfin : ∀ (ac1 : Act) (wz : World), ac1.tmps.size = 25 → ac1.defers = ac0.defers → (∀ t, ([6] : List Nat).contains t = false → ac1.eval (.tmp t) = ac0.eval (.tmp t)) → ac1.eval (.tmp 6) = .int .i64 0 →  Hid (Hp [] wa wz [rS la lc 2 (l.map rowOf)]) → QR .normal ac1 wz) : (regAt Try.f41 1).wp Try.prog QR ac0 wb := by
  refine wp_region_sq (by kernel_rfl) 25 hz (by kernel_rfl) (fun (xx : Unit) jx => nth [.int .i64 0] jx) (fun (LL : Nat → Bool) (xx : Unit) ww => Hp [] wa ww [rS la lc 2 (l.map rowOf)]) () H.out ?_ (steps_al ?_) ?_ ?_
  · exact fun _ _ _ _ _ h => h
  · refine al_cons ?_ (al_nil)
    · intro LL xx ac wc sg hst hwant QQ hgo
      exact op_val hwant hgo hst _ (exec_assign rfl rfl) rfl
  · exact skips [] (by kernel_rfl) (fun _ h => by cases h)
  · intro xx ac1 wz hfr hsl hst
    exact hfin ac1 wz (hfr.size.trans hz) hfr.defers (fr_keep hfr [6] (by kernel_rfl)) (hsl 0 (by decide)) (Lib.hid hst)
set_option maxRecDepth 20000 in
theorem getRC_r2 (la : Option Addr) (lc : Nat) (l : List PairV) (hl : l.length ≤ 1000000) (i : Nat) (hi : i ≤ l.length) {wa wb : World} (H : Hid (Hp [] wa wb [rS la lc 2 (l.map rowOf)])) (ac0 : Act) (hz : ac0.tmps.size = 25) (so0 : ac0.eval (.tmp 0) = .slice la l.length lc) (so6 : ac0.eval (.tmp 6) = .int .i64 i) {QR : Exit → Act → World → Prop} (hfin : ∀ (ac1 : Act) (wz : World), ac1.tmps.size = 25 → ac1.defers = ac0.defers → (∀ t, ([7, 8, 9, 10] : List Nat).contains t = false → ac1.eval (.tmp t) = ac0.eval (.tmp t)) → ac1.eval (.tmp 10) = .bool (decide (i < l.length)) →  Hid (Hp [] wa wz [rS la lc 2 (l.map rowOf)]) → QR .normal ac1 wz) : (regAt Try.f41 2).wp Try.prog QR ac0 wb := by
  refine wp_region_sq (by kernel_rfl) 25 hz (by kernel_rfl) (fun (xx : Unit) jx => nth [.int .i64 i, .slice la l.length lc, .int .i64 l.length, .bool (decide (i < l.length))] jx) (fun (LL : Nat → Bool) (xx : Unit) ww => Hp [] wa ww [rS la lc 2 (l.map rowOf)]) () H.out ?_ (steps_al ?_) ?_ ?_
  · exact fun _ _ _ _ _ h => h
  · refine al_cons ?_ (al_cons ?_ (al_cons ?_ (al_cons ?_ (al_nil))))
    · intro LL xx ac wc sg hst hwant QQ hgo
      exact op_val hwant hgo hst _ (exec_move rfl ((sg.free 6 (by kernel_rfl)).trans so6)) rfl
    · intro LL xx ac wc sg hst hwant QQ hgo
      exact op_val hwant hgo hst _ (exec_move rfl ((sg.free 0 (by kernel_rfl)).trans so0)) rfl
    · intro LL xx ac wc sg hst hwant QQ hgo
      have se8 : ac.eval (.tmp 8) = _ := (sg.slot 1 (sg.anc 1 rfl))
      have sg8 := gt_of se8
      (try simp only [nth] at se8 sg8)
      exact op_val hwant hgo hst _ (by simp only [execOp, nth]; go_simp <;> omega) rfl
    · intro LL xx ac wc sg hst hwant QQ hgo
      have se7 : ac.eval (.tmp 7) = _ := (sg.slot 0 (sg.anc 0 rfl))
      have sg7 := gt_of se7
      have se9 : ac.eval (.tmp 9) = _ := (sg.slot 2 (sg.anc 2 rfl))
      have sg9 := gt_of se9
      (try simp only [nth] at se7 sg7 se9 sg9)
      exact op_val hwant hgo hst _ (by simp only [execOp, nth]; go_simp <;> omega) rfl
  · exact skips [] (by kernel_rfl) (fun _ h => by cases h)
  · intro xx ac1 wz hfr hsl hst
    exact hfin ac1 wz (hfr.size.trans hz) hfr.defers (fr_keep hfr [7, 8, 9, 10] (by kernel_rfl)) (hsl 3 (by decide)) (Lib.hid hst)
set_option maxRecDepth 20000 in
theorem getRC_r4 (lc : Nat) (l : List PairV) (k : KeyV) (hl : l.length ≤ 1000000) (i : Nat) (hi : i ≤ l.length) (z1d : i < l.length) (y : Addr) (x : PairV) (HRx : Hid ((l.map rowOf)[i]? = some [.string x.1, .int .i64 x.2])) {wa wb : World} (H : Hid (Hp [] wa wb [rS (some y) lc 2 (l.map rowOf)])) (ac0 : Act) (hz : ac0.tmps.size = 25) (so0 : ac0.eval (.tmp 0) = .slice (some y) l.length lc) (so1 : ac0.eval (.tmp 1) = .string k) (so6 : ac0.eval (.tmp 6) = .int .i64 i) {QR : Exit → Act → World → Prop} (hfin : ∀ (ac1 : Act) (wz : World), ac1.tmps.size = 25 → ac1.defers = ac0.defers → (∀ t, ([13, 14, 15, 16, 17, 18, 19] : List Nat).contains t = false → ac1.eval (.tmp t) = ac0.eval (.tmp t)) → ac1.eval (.tmp 19) = .bool (x.1.toList == k.toList) →  Hid (Hp [] wa wz [rS (some y) lc 2 (l.map rowOf)]) → QR .normal ac1 wz) : (regAt Try.f41 4).wp Try.prog QR ac0 wb := by
  refine wp_region_sq (by kernel_rfl) 25 hz (by kernel_rfl) (fun (xx : Unit) jx => nth [.slice (some y) l.length lc, .int .i64 i, .pointer (some (y.add (i * 2))), .pointer (some (y.add (i * 2))), .string x.1, .string k, .bool (x.1.toList == k.toList)] jx) (fun (LL : Nat → Bool) (xx : Unit) ww => Hp [] wa ww [rS (some y) lc 2 (l.map rowOf)]) () H.out ?_ (steps_al ?_) ?_ ?_
  · exact fun _ _ _ _ _ h => h
  · refine al_cons ?_ (al_cons ?_ (al_cons ?_ (al_cons ?_ (al_cons ?_ (al_cons ?_ (al_cons ?_ (al_nil)))))))
    · intro LL xx ac wc sg hst hwant QQ hgo
      exact op_val hwant hgo hst _ (exec_move rfl ((sg.free 0 (by kernel_rfl)).trans so0)) rfl
    · intro LL xx ac wc sg hst hwant QQ hgo
      exact op_val hwant hgo hst _ (exec_move rfl ((sg.free 6 (by kernel_rfl)).trans so6)) rfl
    · intro LL xx ac wc sg hst hwant QQ hgo
      have se13 : ac.eval (.tmp 13) = _ := (sg.slot 0 (sg.anc 0 rfl))
      have sg13 := gt_of se13
      have se14 : ac.eval (.tmp 14) = _ := (sg.slot 1 (sg.anc 1 rfl))
      have sg14 := gt_of se14
      (try simp only [nth] at se13 sg13 se14 sg14)
      exact op_val hwant hgo hst _ (by simp only [execOp, nth]; go_simp <;> omega) rfl
    · intro LL xx ac wc sg hst hwant QQ hgo
      have se15 : ac.eval (.tmp 15) = _ := (sg.slot 2 (sg.anc 2 rfl))
      have sg15 := gt_of se15
      (try simp only [nth] at se15 sg15)
      exact op_val hwant hgo hst _ (by simp only [execOp, nth]; go_simp <;> omega) rfl
    · intro LL xx ac wc sg hst hwant QQ hgo
      have H := Lib.hid hst
      refine hpS_load1 0 tystring H rfl (sg.slot 3 (sg.anc 3 rfl)) hwant (by (repeat (first | exact List.Mem.head _ | apply List.Mem.tail))) HRx.out (by rfl) (by simp [Addr.add]) ?_
      exact hgo _ () _ (fun _ _ => rfl) rfl hst
    · intro LL xx ac wc sg hst hwant QQ hgo
      exact op_val hwant hgo hst _ (exec_move rfl ((sg.free 1 (by kernel_rfl)).trans so1)) rfl
    · intro LL xx ac wc sg hst hwant QQ hgo
      have se17 : ac.eval (.tmp 17) = _ := (sg.slot 4 (sg.anc 4 rfl))
      have sg17 := gt_of se17
      have se18 : ac.eval (.tmp 18) = _ := (sg.slot 5 (sg.anc 5 rfl))
      have sg18 := gt_of se18
      (try simp only [nth] at se17 sg17 se18 sg18)
      exact op_val hwant hgo hst _ (by simp only [execOp, nth]; go_simp <;> omega) rfl
  · exact skips [] (by kernel_rfl) (fun _ h => by cases h)
  · intro xx ac1 wz hfr hsl hst
    exact hfin ac1 wz (hfr.size.trans hz) hfr.defers (fr_keep hfr [13, 14, 15, 16, 17, 18, 19] (by kernel_rfl)) (hsl 6 (by decide)) (Lib.hid hst)
set_option maxRecDepth 20000 in
theorem getRC_r5 (lc : Nat) (l : List PairV) (hl : l.length ≤ 1000000) (i : Nat) (hi : i ≤ l.length) (z1d : i < l.length) (y : Addr) (x : PairV) (HRx : Hid ((l.map rowOf)[i]? = some [.string x.1, .int .i64 x.2])) {wa wb : World} (H : Hid (Hp [] wa wb [rS (some y) lc 2 (l.map rowOf)])) (ac0 : Act) (hz : ac0.tmps.size = 25) (so0 : ac0.eval (.tmp 0) = .slice (some y) l.length lc) (so6 : ac0.eval (.tmp 6) = .int .i64 i) {QR : Exit → Act → World → Prop} (hfin : ∀ (ac1 : Act) (wz : World), ac1.tmps.size = 25 → ac1.defers = ac0.defers → (∀ t, ([4, 5, 20, 21, 22, 23, 24] : List Nat).contains t = false → ac1.eval (.tmp t) = ac0.eval (.tmp t)) → ac1.eval (.tmp 4) = .int .i64 x.2 → ac1.eval (.tmp 5) = .bool true →  Hid (Hp [] wa wz [rS (some y) lc 2 (l.map rowOf)]) → QR .normal ac1 wz) : (regAt Try.f41 5).wp Try.prog QR ac0 wb := by
  refine wp_region_sq (by kernel_rfl) 25 hz (by kernel_rfl) (fun (xx : Unit) jx => nth [.slice (some y) l.length lc, .int .i64 i, .pointer (some (y.add (i * 2))), .pointer (some ⟨(y.add (i * 2)).block, (y.add (i * 2)).off + 1, none⟩), .int .i64 x.2, .int .i64 x.2, .bool true] jx) (fun (LL : Nat → Bool) (xx : Unit) ww => Hp [] wa ww [rS (some y) lc 2 (l.map rowOf)]) () H.out ?_ (steps_al ?_) ?_ ?_
  · exact fun _ _ _ _ _ h => h
  · refine al_cons ?_ (al_cons ?_ (al_cons ?_ (al_cons ?_ (al_cons ?_ (al_cons ?_ (al_cons ?_ (al_nil)))))))
    · intro LL xx ac wc sg hst hwant QQ hgo
      exact op_val hwant hgo hst _ (exec_move rfl ((sg.free 0 (by kernel_rfl)).trans so0)) rfl
    · intro LL xx ac wc sg hst hwant QQ hgo
      exact op_val hwant hgo hst _ (exec_move rfl ((sg.free 6 (by kernel_rfl)).trans so6)) rfl
    · intro LL xx ac wc sg hst hwant QQ hgo
      have se20 : ac.eval (.tmp 20) = _ := (sg.slot 0 (sg.anc 0 rfl))
      have sg20 := gt_of se20
      have se21 : ac.eval (.tmp 21) = _ := (sg.slot 1 (sg.anc 1 rfl))
      have sg21 := gt_of se21
      (try simp only [nth] at se20 sg20 se21 sg21)
      exact op_val hwant hgo hst _ (by simp only [execOp, nth]; go_simp <;> omega) rfl
    · intro LL xx ac wc sg hst hwant QQ hgo
      have se22 : ac.eval (.tmp 22) = _ := (sg.slot 2 (sg.anc 2 rfl))
      have sg22 := gt_of se22
      (try simp only [nth] at se22 sg22)
      exact op_val hwant hgo hst _ (by simp only [execOp, nth]; go_simp <;> omega) rfl
    · intro LL xx ac wc sg hst hwant QQ hgo
      have H := Lib.hid hst
      refine hpS_load1 1 tyint H rfl (sg.slot 3 (sg.anc 3 rfl)) hwant (by (repeat (first | exact List.Mem.head _ | apply List.Mem.tail))) HRx.out (by rfl) (by simp [Addr.add]) ?_
      exact hgo _ () _ (fun _ _ => rfl) rfl hst
    · intro LL xx ac wc sg hst hwant QQ hgo
      exact op_val hwant hgo hst _ (exec_assign rfl (sg.slot 4 (sg.anc 4 rfl))) rfl
    · intro LL xx ac wc sg hst hwant QQ hgo
      exact op_val hwant hgo hst _ (exec_assign rfl rfl) rfl
  · exact skips [] (by kernel_rfl) (fun _ h => by cases h)
  · intro xx ac1 wz hfr hsl hst
    exact hfin ac1 wz (hfr.size.trans hz) hfr.defers (fr_keep hfr [4, 5, 20, 21, 22, 23, 24] (by kernel_rfl)) (hsl 5 (by decide)) (hsl 6 (by decide)) (Lib.hid hst)
set_option maxRecDepth 20000 in
theorem getRC_r3 (lc : Nat) (l : List PairV) (hl : l.length ≤ 1000000) (i : Nat) (hi : i ≤ l.length) (z1d : i < l.length) (y : Addr) {wa wb : World} (H : Hid (Hp [] wa wb [rS (some y) lc 2 (l.map rowOf)])) (ac0 : Act) (hz : ac0.tmps.size = 25) (so6 : ac0.eval (.tmp 6) = .int .i64 i) {QR : Exit → Act → World → Prop} (hfin : ∀ (ac1 : Act) (wz : World), ac1.tmps.size = 25 → ac1.defers = ac0.defers → (∀ t, ([6, 11, 12] : List Nat).contains t = false → ac1.eval (.tmp t) = ac0.eval (.tmp t)) → ac1.eval (.tmp 6) = .int .i64 (i + 1) →  Hid (Hp [] wa wz [rS (some y) lc 2 (l.map rowOf)]) → QR .normal ac1 wz) : (regAt Try.f41 3).wp Try.prog QR ac0 wb := by
  refine wp_region_sq (by kernel_rfl) 25 hz (by kernel_rfl) (fun (xx : Unit) jx => nth [.int .i64 i, .int .i64 (i + 1), .int .i64 (i + 1)] jx) (fun (LL : Nat → Bool) (xx : Unit) ww => Hp [] wa ww [rS (some y) lc 2 (l.map rowOf)]) () H.out ?_ (steps_al ?_) ?_ ?_
  · exact fun _ _ _ _ _ h => h
  · refine al_cons ?_ (al_cons ?_ (al_cons ?_ (al_nil)))
    · intro LL xx ac wc sg hst hwant QQ hgo
      exact op_val hwant hgo hst _ (exec_move rfl ((sg.yet 6 2 (sg.des 2 rfl) (by kernel_rfl)).trans so6)) rfl
    · intro LL xx ac wc sg hst hwant QQ hgo
      have se11 : ac.eval (.tmp 11) = _ := (sg.slot 0 (sg.anc 0 rfl))
      have sg11 := gt_of se11
      (try simp only [nth] at se11 sg11)
      have hnw : IntKind.i64.wrap (i + 1 : Int) = i + 1 := IntWalk.i64_in _ (by omega)
      exact op_val hwant hgo hst _ (by simp only [execOp, nth]; go_simp <;> omega) rfl
    · intro LL xx ac wc sg hst hwant QQ hgo
      exact op_val hwant hgo hst _ (exec_assign rfl (sg.slot 1 (sg.anc 1 rfl))) rfl
  · exact skips [] (by kernel_rfl) (fun _ h => by cases h)
  · intro xx ac1 wz hfr hsl hst
    exact hfin ac1 wz (hfr.size.trans hz) hfr.defers (fr_keep hfr [6, 11, 12] (by kernel_rfl)) (hsl 2 (by decide)) (Lib.hid hst)
set_option maxRecDepth 20000 in
theorem getRC_r6 (la : Option Addr) (lc : Nat) (l : List PairV) (hl : l.length ≤ 1000000) (i : Nat) (hi : i ≤ l.length) (z1d : ¬ (i < l.length)) {wa wb : World} (H : Hid (Hp [] wa wb [rS la lc 2 (l.map rowOf)])) (ac0 : Act) (hz : ac0.tmps.size = 25)  {QR : Exit → Act → World → Prop} (hfin : ∀ (ac1 : Act) (wz : World), ac1.tmps.size = 25 → ac1.defers = ac0.defers → (∀ t, ([4, 5] : List Nat).contains t = false → ac1.eval (.tmp t) = ac0.eval (.tmp t)) → ac1.eval (.tmp 4) = .int .i64 0 → ac1.eval (.tmp 5) = .bool false →  Hid (Hp [] wa wz [rS la lc 2 (l.map rowOf)]) → QR .normal ac1 wz) : (regAt Try.f41 6).wp Try.prog QR ac0 wb := by
  refine wp_region_sq (by kernel_rfl) 25 hz (by kernel_rfl) (fun (xx : Unit) jx => nth [.int .i64 0, .bool false] jx) (fun (LL : Nat → Bool) (xx : Unit) ww => Hp [] wa ww [rS la lc 2 (l.map rowOf)]) () H.out ?_ (steps_al ?_) ?_ ?_
  · exact fun _ _ _ _ _ h => h
  · refine al_cons ?_ (al_cons ?_ (al_nil))
    · intro LL xx ac wc sg hst hwant QQ hgo
      exact op_val hwant hgo hst _ (exec_assign rfl rfl) rfl
    · intro LL xx ac wc sg hst hwant QQ hgo
      exact op_val hwant hgo hst _ (exec_assign rfl rfl) rfl
  · exact skips [] (by kernel_rfl) (fun _ h => by cases h)
  · intro xx ac1 wz hfr hsl hst
    exact hfin ac1 wz (hfr.size.trans hz) hfr.defers (fr_keep hfr [4, 5] (by kernel_rfl)) (hsl 0 (by decide)) (hsl 1 (by decide)) (Lib.hid hst)
set_option maxRecDepth 20000 in
theorem getRC (la : Option Addr) (lc : Nat) (l : List PairV) (k : KeyV) (w : World) (h : (rS la lc 2 (l.map rowOf)).holds w) (hl : l.length ≤ 1000000) : Calls Try.prog 41 #[.slice la l.length lc, .string k] w fun e w' => e = .returned (.tuple #[.int .i64 (getR k l).1, .bool (getR k l).2]) ∧ Off [] w w' := by
  have H := Lib.hid (Hp.start [] w)
  have H := hp_old H h (by decide)
  clear h
  refine calls_start Try.func41 rfl 25 rfl (by simp) (fun aa nn dd sl => ?_)
  have ss0 : aa.eval (.tmp 0) = .slice la l.length lc := sl 0 (by simp)
  have ss1 : aa.eval (.tmp 1) = .string k := sl 1 (by simp)
  clear sl
  refine wp_seq_k fun KK1 hK1 => ?_
  refine getRC_r0 la lc l hl H aa nn  ?_
  clear H nn
  intro aa ww nn dd1 kp ss4 ss5 H
  replace ss0 := (kp 0 rfl).trans ss0
  replace ss1 := (kp 1 rfl).trans ss1
  replace dd := dd1.trans dd
  clear dd1 kp
  refine then_normal ?_
  refine hK1 _ _ ?_
  refine wp_seq_k fun KK2 hK2 => ?_
  refine wp_seq_k fun KK3 hK3 => ?_
  refine getRC_r1 la lc l hl H aa nn  ?_
  clear H nn
  intro aa ww nn dd1 kp ss6 H
  replace ss0 := (kp 0 rfl).trans ss0
  replace ss1 := (kp 1 rfl).trans ss1
  replace ss4 := (kp 4 rfl).trans ss4
  replace ss5 := (kp 5 rfl).trans ss5
  replace dd := dd1.trans dd
  clear dd1 kp
  refine then_normal ?_
  refine hK3 _ _ ?_
  refine wp_block ?_
  refine wp_loop (fun ab wv => ∃ i : Nat, i ≤ l.length ∧ Hid (∀ q, q < i → ∀ y, l[q]? = some y → hitP k y = false) ∧ ab.tmps.size = 25 ∧ ab.defers = [] ∧ ab.eval (.tmp 0) = .slice la l.length lc ∧ ab.eval (.tmp 1) = .string k ∧ ab.eval (.tmp 6) = .int .i64 i ∧ Hid (Hp [] w wv [rS la lc 2 (l.map rowOf)])) (fun ab _ => l.length - (intOf (ab.eval (.tmp 6))).toNat) ⟨0, (Nat.zero_le _), (Lib.hid (fun q hq => absurd hq (by omega))), nn, dd, ss0, ss1, ss6, H⟩ (fun aa wv hI => ?_)
  clear H nn dd ss0 ss1 ss4 ss5 ss6
  obtain ⟨i, hi, hf, nn, dd, ss0, ss1, ss6, H⟩ := hI
  have mu1_6 := ss6
  refine wp_seq_k fun KK4 hK4 => ?_
  refine wp_seq_k fun KK5 hK5 => ?_
  refine getRC_r2 la lc l hl i hi H aa nn ss0 ss6 ?_
  clear H nn
  intro aa ww nn dd1 kp ss10 H
  replace ss0 := (kp 0 rfl).trans ss0
  replace ss1 := (kp 1 rfl).trans ss1
  replace ss6 := (kp 6 rfl).trans ss6
  replace dd := dd1.trans dd
  clear dd1 kp
  refine then_normal ?_
  refine hK5 _ _ ?_
  refine wp_cond_split ss10 (fun z1 => ?_) (fun z1 => ?_)
  · skip
    have z1d : i < l.length := of_decide_eq_true z1
    obtain ⟨y, rfl⟩ := some_of_row (hp_held H (show rS la lc 2 (l.map rowOf) ∈ _ by simp)) (i := i) (by simp; omega)
    obtain ⟨x, hx⟩ : ∃ x, l[i]? = some x := ⟨l[i], List.getElem?_eq_getElem (by omega)⟩
    have HRx := Lib.hid (show (l.map rowOf)[i]? = some [.string x.1, .int .i64 x.2] by rw [List.getElem?_map, hx]; rfl)
    have HXx := Lib.hid hx
    clear hx
    refine wp_skip ?_
    refine then_normal ?_
    refine hK4 _ _ ?_
    refine wp_seq_k fun KK6 hK6 => ?_
    refine wp_block ?_
    refine wp_seq_k fun KK7 hK7 => ?_
    refine getRC_r4 lc l k hl i hi z1d y x HRx H aa nn ss0 ss1 ss6 ?_
    clear H nn
    intro aa ww nn dd1 kp ss19 H
    replace ss0 := (kp 0 rfl).trans ss0
    replace ss1 := (kp 1 rfl).trans ss1
    replace ss6 := (kp 6 rfl).trans ss6
    replace ss10 := (kp 10 rfl).trans ss10
    replace dd := dd1.trans dd
    clear dd1 kp
    refine then_normal ?_
    refine hK7 _ _ ?_
    refine wp_cond_split ss19 (fun z2 => ?_) (fun z2 => ?_)
    · skip
      have z2o : (x.1.toList != k.toList) = false := eqq_t z2
      have hsome := Lib.hid (find_at (hitP k) l i x hf.out HXx.out z2)
      refine wp_seq_k fun KK8 hK8 => ?_
      refine getRC_r5 lc l hl i hi z1d y x HRx H aa nn ss0 ss6 ?_
      clear H nn
      intro aa ww nn dd1 kp ss4 ss5 H
      replace ss0 := (kp 0 rfl).trans ss0
      replace ss1 := (kp 1 rfl).trans ss1
      replace ss6 := (kp 6 rfl).trans ss6
      replace ss10 := (kp 10 rfl).trans ss10
      replace ss19 := (kp 19 rfl).trans ss19
      replace dd := dd1.trans dd
      clear dd1 kp
      refine then_normal ?_
      refine hK8 _ _ ?_
      refine wp_ret ?_
      refine block_ret ?_
      refine then_ret ?_
      refine then_ret ?_
      refine block_ret ?_
      refine then_ret ?_
      exact ret2 rfl dd ss4 ss5 ⟨by unfold getR; simp only [hsome.out], H.out.off⟩
    · skip
      have z2o : (x.1.toList != k.toList) = true := eqq_f z2
      refine wp_skip ?_
      refine block_normal ?_
      refine then_normal ?_
      refine hK6 _ _ ?_
      refine getRC_r3 lc l hl i hi z1d y H aa nn ss6 ?_
      clear H nn ss6
      intro aa ww nn dd1 kp ss6 H
      replace ss0 := (kp 0 rfl).trans ss0
      replace ss1 := (kp 1 rfl).trans ss1
      replace ss10 := (kp 10 rfl).trans ss10
      replace ss19 := (kp 19 rfl).trans ss19
      replace dd := dd1.trans dd
      clear dd1 kp
      refine then_normal ?_
      refine ⟨⟨i + 1, (by omega), (Lib.hid (find_next hf.out HXx.out z2)), nn, dd, ss0, ss1, ss6, (Lib.hid (H.out.sub (by repeat (first | exact List.Sublist.refl _ | apply List.Sublist.cons₂ | apply List.Sublist.cons))))⟩, ?_⟩
      simp only [mu1_6, ss6, intOf]
      omega
  · skip
    have z1d : ¬ (i < l.length) := of_decide_eq_false z1
    have hnone := Lib.hid (find_no (hitP k) l (fun q hq => hf.out q (by omega)))
    refine wp_exit ?_
    refine then_exit ?_
    refine then_exit ?_
    refine block_exit ?_
    refine then_normal ?_
    refine hK2 _ _ ?_
    refine wp_seq_k fun KK9 hK9 => ?_
    refine getRC_r6 la lc l hl i hi z1d H aa nn  ?_
    clear H nn
    intro aa ww nn dd1 kp ss4 ss5 H
    replace ss0 := (kp 0 rfl).trans ss0
    replace ss1 := (kp 1 rfl).trans ss1
    replace ss6 := (kp 6 rfl).trans ss6
    replace ss10 := (kp 10 rfl).trans ss10
    replace dd := dd1.trans dd
    clear dd1 kp
    refine then_normal ?_
    refine hK9 _ _ ?_
    refine wp_ret ?_
    exact ret2 rfl dd ss4 ss5 ⟨by unfold getR; simp only [hnone.out], H.out.off⟩
set_option maxRecDepth 20000 in
theorem withoutRC_r0 (la : Option Addr) (lc : Nat) (l : List PairV) (hl : l.length ≤ 1000000) {wa wb : World} (H : Hid (Hp [] wa wb [rS la lc 2 (l.map rowOf)])) (ac0 : Act) (hz : ac0.tmps.size = 29)  {QR : Exit → Act → World → Prop} (hfin : ∀ (ac1 : Act) (wz : World), ac1.tmps.size = 29 → ac1.defers = ac0.defers → (∀ t, ([4] : List Nat).contains t = false → ac1.eval (.tmp t) = ac0.eval (.tmp t)) → ac1.eval (.tmp 4) = .slice none 0 0 →  Hid (Hp [] wa wz [rS la lc 2 (l.map rowOf)]) → QR .normal ac1 wz) : (regAt Try.f39 0).wp Try.prog QR ac0 wb := by
  refine wp_region_sq (by kernel_rfl) 29 hz (by kernel_rfl) (fun (xx : Unit) jx => nth [.slice none 0 0] jx) (fun (LL : Nat → Bool) (xx : Unit) ww => Hp [] wa ww [rS la lc 2 (l.map rowOf)]) () H.out ?_ (steps_al ?_) ?_ ?_
  · exact fun _ _ _ _ _ h => h
  · refine al_cons ?_ (al_nil)
    · intro LL xx ac wc sg hst hwant QQ hgo
      exact op_val hwant hgo hst _ (exec_assign rfl rfl) rfl
  · exact skips [] (by kernel_rfl) (fun _ h => by cases h)
  · intro xx ac1 wz hfr hsl hst
    exact hfin ac1 wz (hfr.size.trans hz) hfr.defers (fr_keep hfr [4] (by kernel_rfl)) (hsl 0 (by decide)) (Lib.hid hst)
set_option maxRecDepth 20000 in
theorem withoutRC_r1 (la : Option Addr) (lc : Nat) (l : List PairV) (hl : l.length ≤ 1000000) {wa wb : World} (H : Hid (Hp [] wa wb [rS la lc 2 (l.map rowOf)])) (ac0 : Act) (hz : ac0.tmps.size = 29)  {QR : Exit → Act → World → Prop} (hfin : ∀ (b7 : Nat) (ac1 : Act) (wz : World), ac1.tmps.size = 29 → ac1.defers = ac0.defers → (∀ t, ([5, 7] : List Nat).contains t = false → ac1.eval (.tmp t) = ac0.eval (.tmp t)) → ac1.eval (.tmp 5) = .slice (some ⟨b7, 0, none⟩) 0 0 →  Hid (Hp [] wa wz [rA (some ⟨b7, 0, none⟩) 0 124 2 (([] : List PairV).map rowOf), rS la lc 2 (l.map rowOf)]) → QR .normal ac1 wz) : (regAt Try.f39 1).wp Try.prog QR ac0 wb := by
  refine wp_region_sq (by kernel_rfl) 29 hz (by kernel_rfl) (fun (xx : Nat) jx => match xx with | b7 => nth [.slice (some ⟨b7, 0, none⟩) 0 0, .slice (some ⟨b7, 0, none⟩) 0 0] jx) (fun (LL : Nat → Bool) (xx : Nat) ww => match xx with | b7 => Hp [] wa ww (bif LL 0 then [rA (some ⟨b7, 0, none⟩) 0 124 2 (([] : List PairV).map rowOf), rS la lc 2 (l.map rowOf)] else [rS la lc 2 (l.map rowOf)])) default H.out ?_ (steps_al ?_) ?_ ?_
  · intro L1 L2 xx ww hL sg
    have lh0 := hL 0 (by decide)
    simp only [lh0] at sg
    exact sg
  · refine al_cons ?_ (al_cons ?_ (al_nil))
    · intro LL xx ac wc sg hst hwant QQ hgo
      revert sg hst hgo; revert xx; intro xold sg hst hgo
      have H := Lib.hid hst
      simp only [sg.self, cond_true, cond_false] at H
      refine hp_bslice0 elP H rfl hwant ?_
      intro wd b7 H2
      exact hgo _ b7 _ (sg.agree (x' := b7) (n := 2) rfl (by (iterate 2 (refine ix_cons (by first | exact fun _ => rfl | exact no sg.self | exact no (sg.des _ rfl)) ?_)); exact ix_nil)) rfl (by simp only [(show upd LL 0 0 = true from rfl), cond_true, cond_false]; exact H2.out)
    · intro LL xx ac wc sg hst hwant QQ hgo
      revert sg hst hgo; revert xx; intro b7 sg hst hgo
      exact op_val hwant hgo hst _ (exec_assign rfl (sg.slot 0 (sg.anc 0 rfl))) rfl
  · exact skips [] (by kernel_rfl) (fun _ h => by cases h)
  · intro xx ac1 wz hfr hsl hst
    revert hsl hst; revert xx; intro b7 hsl hst
    exact hfin b7 ac1 wz (hfr.size.trans hz) hfr.defers (fr_keep hfr [5, 7] (by kernel_rfl)) (hsl 1 (by decide)) (Lib.hid hst)
set_option maxRecDepth 20000 in
theorem withoutRC_r2 (la : Option Addr) (lc : Nat) (l : List PairV) (hl : l.length ≤ 1000000) (b7 : Nat) {wa wb : World} (H : Hid (Hp [] wa wb [rA (some ⟨b7, 0, none⟩) 0 124 2 (([] : List PairV).map rowOf), rS la lc 2 (l.map rowOf)])) (ac0 : Act) (hz : ac0.tmps.size = 29)  {QR : Exit → Act → World → Prop} (hfin : ∀ (ac1 : Act) (wz : World), ac1.tmps.size = 29 → ac1.defers = ac0.defers → (∀ t, ([6] : List Nat).contains t = false → ac1.eval (.tmp t) = ac0.eval (.tmp t)) → ac1.eval (.tmp 6) = .int .i64 0 →  Hid (Hp [] wa wz [rA (some ⟨b7, 0, none⟩) 0 124 2 (([] : List PairV).map rowOf), rS la lc 2 (l.map rowOf)]) → QR .normal ac1 wz) : (regAt Try.f39 2).wp Try.prog QR ac0 wb := by
  refine wp_region_sq (by kernel_rfl) 29 hz (by kernel_rfl) (fun (xx : Unit) jx => nth [.int .i64 0] jx) (fun (LL : Nat → Bool) (xx : Unit) ww => Hp [] wa ww [rA (some ⟨b7, 0, none⟩) 0 124 2 (([] : List PairV).map rowOf), rS la lc 2 (l.map rowOf)]) () H.out ?_ (steps_al ?_) ?_ ?_
  · exact fun _ _ _ _ _ h => h
  · refine al_cons ?_ (al_nil)
    · intro LL xx ac wc sg hst hwant QQ hgo
      exact op_val hwant hgo hst _ (exec_assign rfl rfl) rfl
  · exact skips [] (by kernel_rfl) (fun _ h => by cases h)
  · intro xx ac1 wz hfr hsl hst
    exact hfin ac1 wz (hfr.size.trans hz) hfr.defers (fr_keep hfr [6] (by kernel_rfl)) (hsl 0 (by decide)) (Lib.hid hst)
set_option maxRecDepth 20000 in
theorem withoutRC_r3 (la : Option Addr) (lc : Nat) (l : List PairV) (k : KeyV) (hl : l.length ≤ 1000000) (i : Nat) (ad : Option Addr) (cd : Nat) (hi : i ≤ l.length) {wa wb : World} (H : Hid (Hp [] wa wb [rA ad cd 124 2 (((l.take i).filter (keepN k)).map rowOf), rS la lc 2 (l.map rowOf)])) (ac0 : Act) (hz : ac0.tmps.size = 29) (so0 : ac0.eval (.tmp 0) = .slice la l.length lc) (so6 : ac0.eval (.tmp 6) = .int .i64 i) {QR : Exit → Act → World → Prop} (hfin : ∀ (ac1 : Act) (wz : World), ac1.tmps.size = 29 → ac1.defers = ac0.defers → (∀ t, ([8, 9, 10, 11] : List Nat).contains t = false → ac1.eval (.tmp t) = ac0.eval (.tmp t)) → ac1.eval (.tmp 11) = .bool (decide (i < l.length)) →  Hid (Hp [] wa wz [rA ad cd 124 2 (((l.take i).filter (keepN k)).map rowOf), rS la lc 2 (l.map rowOf)]) → QR .normal ac1 wz) : (regAt Try.f39 3).wp Try.prog QR ac0 wb := by
  refine wp_region_sq (by kernel_rfl) 29 hz (by kernel_rfl) (fun (xx : Unit) jx => nth [.int .i64 i, .slice la l.length lc, .int .i64 l.length, .bool (decide (i < l.length))] jx) (fun (LL : Nat → Bool) (xx : Unit) ww => Hp [] wa ww [rA ad cd 124 2 (((l.take i).filter (keepN k)).map rowOf), rS la lc 2 (l.map rowOf)]) () H.out ?_ (steps_al ?_) ?_ ?_
  · exact fun _ _ _ _ _ h => h
  · refine al_cons ?_ (al_cons ?_ (al_cons ?_ (al_cons ?_ (al_nil))))
    · intro LL xx ac wc sg hst hwant QQ hgo
      exact op_val hwant hgo hst _ (exec_move rfl ((sg.free 6 (by kernel_rfl)).trans so6)) rfl
    · intro LL xx ac wc sg hst hwant QQ hgo
      exact op_val hwant hgo hst _ (exec_move rfl ((sg.free 0 (by kernel_rfl)).trans so0)) rfl
    · intro LL xx ac wc sg hst hwant QQ hgo
      have se9 : ac.eval (.tmp 9) = _ := (sg.slot 1 (sg.anc 1 rfl))
      have sg9 := gt_of se9
      (try simp only [nth] at se9 sg9)
      exact op_val hwant hgo hst _ (by simp only [execOp, nth]; go_simp <;> omega) rfl
    · intro LL xx ac wc sg hst hwant QQ hgo
      have se8 : ac.eval (.tmp 8) = _ := (sg.slot 0 (sg.anc 0 rfl))
      have sg8 := gt_of se8
      have se10 : ac.eval (.tmp 10) = _ := (sg.slot 2 (sg.anc 2 rfl))
      have sg10 := gt_of se10
      (try simp only [nth] at se8 sg8 se10 sg10)
      exact op_val hwant hgo hst _ (by simp only [execOp, nth]; go_simp <;> omega) rfl
  · exact skips [] (by kernel_rfl) (fun _ h => by cases h)
  · intro xx ac1 wz hfr hsl hst
    exact hfin ac1 wz (hfr.size.trans hz) hfr.defers (fr_keep hfr [8, 9, 10, 11] (by kernel_rfl)) (hsl 3 (by decide)) (Lib.hid hst)
set_option maxRecDepth 20000 in
theorem withoutRC_r5 (lc : Nat) (l : List PairV) (k : KeyV) (hl : l.length ≤ 1000000) (i : Nat) (ad : Option Addr) (cd : Nat) (hi : i ≤ l.length) (z1d : i < l.length) (y : Addr) (x : PairV) (HRx : Hid ((l.map rowOf)[i]? = some [.string x.1, .int .i64 x.2])) (hcl : ((l.take i).filter (keepN k)).length ≤ i) {wa wb : World} (H : Hid (Hp [] wa wb [rA ad cd 124 2 (((l.take i).filter (keepN k)).map rowOf), rS (some y) lc 2 (l.map rowOf)])) (ac0 : Act) (hz : ac0.tmps.size = 29) (so0 : ac0.eval (.tmp 0) = .slice (some y) l.length lc) (so1 : ac0.eval (.tmp 1) = .string k) (so6 : ac0.eval (.tmp 6) = .int .i64 i) {QR : Exit → Act → World → Prop} (hfin : ∀ (ac1 : Act) (wz : World), ac1.tmps.size = 29 → ac1.defers = ac0.defers → (∀ t, ([14, 15, 16, 17, 18, 19, 20] : List Nat).contains t = false → ac1.eval (.tmp t) = ac0.eval (.tmp t)) → ac1.eval (.tmp 20) = .bool (!(x.1.toList == k.toList)) →  Hid (Hp [] wa wz [rA ad cd 124 2 (((l.take i).filter (keepN k)).map rowOf), rS (some y) lc 2 (l.map rowOf)]) → QR .normal ac1 wz) : (regAt Try.f39 5).wp Try.prog QR ac0 wb := by
  refine wp_region_sq (by kernel_rfl) 29 hz (by kernel_rfl) (fun (xx : Unit) jx => nth [.slice (some y) l.length lc, .int .i64 i, .pointer (some (y.add (i * 2))), .pointer (some (y.add (i * 2))), .string x.1, .string k, .bool (!(x.1.toList == k.toList))] jx) (fun (LL : Nat → Bool) (xx : Unit) ww => Hp [] wa ww [rA ad cd 124 2 (((l.take i).filter (keepN k)).map rowOf), rS (some y) lc 2 (l.map rowOf)]) () H.out ?_ (steps_al ?_) ?_ ?_
  · exact fun _ _ _ _ _ h => h
  · refine al_cons ?_ (al_cons ?_ (al_cons ?_ (al_cons ?_ (al_cons ?_ (al_cons ?_ (al_cons ?_ (al_nil)))))))
    · intro LL xx ac wc sg hst hwant QQ hgo
      exact op_val hwant hgo hst _ (exec_move rfl ((sg.free 0 (by kernel_rfl)).trans so0)) rfl
    · intro LL xx ac wc sg hst hwant QQ hgo
      exact op_val hwant hgo hst _ (exec_move rfl ((sg.free 6 (by kernel_rfl)).trans so6)) rfl
    · intro LL xx ac wc sg hst hwant QQ hgo
      have se14 : ac.eval (.tmp 14) = _ := (sg.slot 0 (sg.anc 0 rfl))
      have sg14 := gt_of se14
      have se15 : ac.eval (.tmp 15) = _ := (sg.slot 1 (sg.anc 1 rfl))
      have sg15 := gt_of se15
      (try simp only [nth] at se14 sg14 se15 sg15)
      exact op_val hwant hgo hst _ (by simp only [execOp, nth]; go_simp <;> omega) rfl
    · intro LL xx ac wc sg hst hwant QQ hgo
      have se16 : ac.eval (.tmp 16) = _ := (sg.slot 2 (sg.anc 2 rfl))
      have sg16 := gt_of se16
      (try simp only [nth] at se16 sg16)
      exact op_val hwant hgo hst _ (by simp only [execOp, nth]; go_simp <;> omega) rfl
    · intro LL xx ac wc sg hst hwant QQ hgo
      have H := Lib.hid hst
      refine hpS_load1 0 tystring H rfl (sg.slot 3 (sg.anc 3 rfl)) hwant (by (repeat (first | exact List.Mem.head _ | apply List.Mem.tail))) HRx.out (by rfl) (by simp [Addr.add]) ?_
      exact hgo _ () _ (fun _ _ => rfl) rfl hst
    · intro LL xx ac wc sg hst hwant QQ hgo
      exact op_val hwant hgo hst _ (exec_move rfl ((sg.free 1 (by kernel_rfl)).trans so1)) rfl
    · intro LL xx ac wc sg hst hwant QQ hgo
      have se18 : ac.eval (.tmp 18) = _ := (sg.slot 4 (sg.anc 4 rfl))
      have sg18 := gt_of se18
      have se19 : ac.eval (.tmp 19) = _ := (sg.slot 5 (sg.anc 5 rfl))
      have sg19 := gt_of se19
      (try simp only [nth] at se18 sg18 se19 sg19)
      exact op_val hwant hgo hst _ (by simp only [execOp, nth]; go_simp <;> omega) rfl
  · exact skips [] (by kernel_rfl) (fun _ h => by cases h)
  · intro xx ac1 wz hfr hsl hst
    exact hfin ac1 wz (hfr.size.trans hz) hfr.defers (fr_keep hfr [14, 15, 16, 17, 18, 19, 20] (by kernel_rfl)) (hsl 6 (by decide)) (Lib.hid hst)
set_option maxRecDepth 20000 in
theorem withoutRC_r6 (lc : Nat) (l : List PairV) (k : KeyV) (hl : l.length ≤ 1000000) (i : Nat) (ad : Option Addr) (cd : Nat) (hi : i ≤ l.length) (z1d : i < l.length) (y : Addr) (x : PairV) (HRx : Hid ((l.map rowOf)[i]? = some [.string x.1, .int .i64 x.2])) (hcl : ((l.take i).filter (keepN k)).length ≤ i) {wa wb : World} (H : Hid (Hp [] wa wb [rA ad cd 124 2 (((l.take i).filter (keepN k)).map rowOf), rS (some y) lc 2 (l.map rowOf)])) (ac0 : Act) (hz : ac0.tmps.size = 29) (so0 : ac0.eval (.tmp 0) = .slice (some y) l.length lc) (so5 : ac0.eval (.tmp 5) = .slice ad (((l.take i).filter (keepN k)).length) cd) (so6 : ac0.eval (.tmp 6) = .int .i64 i) {QR : Exit → Act → World → Prop} (hfin : ∀ (b26 : Nat) (a27 : Option Addr) (c27 : Nat) (ac1 : Act) (wz : World), ac1.tmps.size = 29 → ac1.defers = ac0.defers → (∀ t, ([5, 21, 22, 23, 24, 25, 26, 27] : List Nat).contains t = false → ac1.eval (.tmp t) = ac0.eval (.tmp t)) → ac1.eval (.tmp 5) = .slice a27 ((((l.take i).filter (keepN k)) ++ [x]).length) c27 →  Hid (Hp [] wa wz [rB b26 124 [.string x.1, .int .i64 x.2], rA a27 c27 124 2 ((((l.take i).filter (keepN k)) ++ [x]).map rowOf), rS (some y) lc 2 (l.map rowOf)]) → QR .normal ac1 wz) : (regAt Try.f39 6).wp Try.prog QR ac0 wb := by
  refine wp_region_sq (by kernel_rfl) 29 hz (by kernel_rfl) (fun (xx : Nat × Option Addr × Nat) jx => match xx with | (b26, a27, c27) => nth [.slice ad (((l.take i).filter (keepN k)).length) cd, .slice (some y) l.length lc, .int .i64 i, .pointer (some (y.add (i * 2))), .agg #[.string x.1, .int .i64 x.2], .slice (some ⟨b26, 0, none⟩) 1 1, .slice a27 ((((l.take i).filter (keepN k)) ++ [x]).length) c27, .slice a27 ((((l.take i).filter (keepN k)) ++ [x]).length) c27] jx) (fun (LL : Nat → Bool) (xx : Nat × Option Addr × Nat) ww => match xx with | (b26, a27, c27) => Hp [] wa ww (bif LL 6 then [rB b26 124 [.string x.1, .int .i64 x.2], rA a27 c27 124 2 ((((l.take i).filter (keepN k)) ++ [x]).map rowOf), rS (some y) lc 2 (l.map rowOf)] else (bif LL 5 then [rB b26 124 [.string x.1, .int .i64 x.2], rA ad cd 124 2 (((l.take i).filter (keepN k)).map rowOf), rS (some y) lc 2 (l.map rowOf)] else [rA ad cd 124 2 (((l.take i).filter (keepN k)).map rowOf), rS (some y) lc 2 (l.map rowOf)]))) (default, default, default) H.out ?_ (steps_al ?_) ?_ ?_
  · intro L1 L2 xx ww hL sg
    have lh5 := hL 5 (by decide)
    have lh6 := hL 6 (by decide)
    simp only [lh5, lh6] at sg
    exact sg
  · refine al_cons ?_ (al_cons ?_ (al_cons ?_ (al_cons ?_ (al_cons ?_ (al_cons ?_ (al_cons ?_ (al_cons ?_ (al_nil))))))))
    · intro LL xx ac wc sg hst hwant QQ hgo
      obtain ⟨b26, a27, c27⟩ := xx
      exact op_val hwant hgo hst _ (exec_move rfl ((sg.yet 5 7 (sg.des 7 rfl) (by kernel_rfl)).trans so5)) rfl
    · intro LL xx ac wc sg hst hwant QQ hgo
      obtain ⟨b26, a27, c27⟩ := xx
      exact op_val hwant hgo hst _ (exec_move rfl ((sg.free 0 (by kernel_rfl)).trans so0)) rfl
    · intro LL xx ac wc sg hst hwant QQ hgo
      obtain ⟨b26, a27, c27⟩ := xx
      exact op_val hwant hgo hst _ (exec_move rfl ((sg.free 6 (by kernel_rfl)).trans so6)) rfl
    · intro LL xx ac wc sg hst hwant QQ hgo
      obtain ⟨b26, a27, c27⟩ := xx
      have se22 : ac.eval (.tmp 22) = _ := (sg.slot 1 (sg.anc 1 rfl))
      have sg22 := gt_of se22
      have se23 : ac.eval (.tmp 23) = _ := (sg.slot 2 (sg.anc 2 rfl))
      have sg23 := gt_of se23
      (try simp only [nth] at se22 sg22 se23 sg23)
      exact op_val hwant hgo hst _ (by simp only [execOp, nth]; go_simp <;> omega) rfl
    · intro LL xx ac wc sg hst hwant QQ hgo
      obtain ⟨b26, a27, c27⟩ := xx
      have H := Lib.hid hst
      simp only [sg.des 5 rfl, sg.des 6 rfl, cond_true, cond_false] at H
      refine hpS_load tyhoistwayref06_Pair H rfl (sg.slot 3 (sg.anc 3 rfl)) hwant (by (repeat (first | exact List.Mem.head _ | apply List.Mem.tail))) HRx.out rfl ?_
      exact hgo _ (b26, a27, c27) _ (fun _ _ => rfl) rfl hst
    · intro LL xx ac wc sg hst hwant QQ hgo
      obtain ⟨_, a27, c27⟩ := xx
      have se25 : ac.eval (.tmp 25) = _ := (sg.slot 4 (sg.anc 4 rfl))
      have sg25 := gt_of se25
      (try simp only [nth] at se25 sg25)
      have H := Lib.hid hst
      simp only [sg.self, sg.des 6 rfl, cond_true, cond_false] at H
      refine hpA_bslice Try.underlying65 tyhoistwayref06_Pair H rfl rfl (by decide) (by decide) (by first | (go_simp; rfl) | rfl | (simp; rfl)) ?_
      intro wd b26 H2
      exact hgo _ (b26, a27, c27) _ (sg.agree (x' := (b26, a27, c27)) (n := 8) rfl (by (iterate 8 (refine ix_cons (by first | exact fun _ => rfl | exact no sg.self | exact no (sg.des _ rfl)) ?_)); exact ix_nil)) rfl (by simp only [(show upd LL 5 5 = true from rfl), (show upd LL 5 6 = LL 6 from rfl), sg.des 6 rfl, cond_true, cond_false]; exact H2.out)
    · intro LL xx ac wc sg hst hwant QQ hgo
      obtain ⟨b26, _, _⟩ := xx
      have H := Lib.hid hst
      simp only [sg.anc 5 rfl, sg.self, cond_true, cond_false] at H
      refine hp_append (news := [rowOf x]) elP H rfl rfl 1 rfl (sg.slot 0 (sg.anc 0 rfl)) (by simp) (sg.slot 5 (sg.anc 5 rfl)) rfl (hp_single (e := 124) H (by (repeat (first | exact List.Mem.head _ | apply List.Mem.tail))) rfl (by simp [rowOf, Value.oneCell'])) (by simp; omega) (by decide) ?_
      intro wd a27 c27 H2
      rw [show ((l.take i).filter (keepN k)).map rowOf ++ [rowOf x] = (((l.take i).filter (keepN k)) ++ [x]).map rowOf by simp] at H2 ⊢
      rw [List.length_map]
      exact hgo _ (b26, a27, c27) _ (sg.agree (x' := (b26, a27, c27)) (n := 8) rfl (by (iterate 8 (refine ix_cons (by first | exact fun _ => rfl | exact no sg.self | exact no (sg.des _ rfl)) ?_)); exact ix_nil)) rfl (by simp only [(show upd LL 6 5 = LL 5 from rfl), sg.anc 5 rfl, (show upd LL 6 6 = true from rfl), cond_true, cond_false]; exact H2.out)
    · intro LL xx ac wc sg hst hwant QQ hgo
      obtain ⟨b26, a27, c27⟩ := xx
      exact op_val hwant hgo hst _ (exec_assign rfl (sg.slot 6 (sg.anc 6 rfl))) rfl
  · exact skips [] (by kernel_rfl) (fun _ h => by cases h)
  · intro xx ac1 wz hfr hsl hst
    obtain ⟨b26, a27, c27⟩ := xx
    exact hfin b26 a27 c27 ac1 wz (hfr.size.trans hz) hfr.defers (fr_keep hfr [5, 21, 22, 23, 24, 25, 26, 27] (by kernel_rfl)) (hsl 7 (by decide)) (Lib.hid hst)
set_option maxRecDepth 20000 in
theorem withoutRC_r4 (lc : Nat) (l : List PairV) (k : KeyV) (hl : l.length ≤ 1000000) (i : Nat) (hi : i ≤ l.length) (z1d : i < l.length) (y : Addr) (x : PairV) (hcl : ((l.take i).filter (keepN k)).length ≤ i) (b26 : Nat) (a27 : Option Addr) (c27 : Nat) {wa wb : World} (H : Hid (Hp [] wa wb [rB b26 124 [.string x.1, .int .i64 x.2], rA a27 c27 124 2 ((((l.take i).filter (keepN k)) ++ [x]).map rowOf), rS (some y) lc 2 (l.map rowOf)])) (ac0 : Act) (hz : ac0.tmps.size = 29) (so6 : ac0.eval (.tmp 6) = .int .i64 i) {QR : Exit → Act → World → Prop} (hfin : ∀ (ac1 : Act) (wz : World), ac1.tmps.size = 29 → ac1.defers = ac0.defers → (∀ t, ([6, 12, 13] : List Nat).contains t = false → ac1.eval (.tmp t) = ac0.eval (.tmp t)) → ac1.eval (.tmp 6) = .int .i64 (i + 1) →  Hid (Hp [] wa wz [rB b26 124 [.string x.1, .int .i64 x.2], rA a27 c27 124 2 ((((l.take i).filter (keepN k)) ++ [x]).map rowOf), rS (some y) lc 2 (l.map rowOf)]) → QR .normal ac1 wz) : (regAt Try.f39 4).wp Try.prog QR ac0 wb := by
  refine wp_region_sq (by kernel_rfl) 29 hz (by kernel_rfl) (fun (xx : Unit) jx => nth [.int .i64 i, .int .i64 (i + 1), .int .i64 (i + 1)] jx) (fun (LL : Nat → Bool) (xx : Unit) ww => Hp [] wa ww [rB b26 124 [.string x.1, .int .i64 x.2], rA a27 c27 124 2 ((((l.take i).filter (keepN k)) ++ [x]).map rowOf), rS (some y) lc 2 (l.map rowOf)]) () H.out ?_ (steps_al ?_) ?_ ?_
  · exact fun _ _ _ _ _ h => h
  · refine al_cons ?_ (al_cons ?_ (al_cons ?_ (al_nil)))
    · intro LL xx ac wc sg hst hwant QQ hgo
      exact op_val hwant hgo hst _ (exec_move rfl ((sg.yet 6 2 (sg.des 2 rfl) (by kernel_rfl)).trans so6)) rfl
    · intro LL xx ac wc sg hst hwant QQ hgo
      have se12 : ac.eval (.tmp 12) = _ := (sg.slot 0 (sg.anc 0 rfl))
      have sg12 := gt_of se12
      (try simp only [nth] at se12 sg12)
      have hnw : IntKind.i64.wrap (i + 1 : Int) = i + 1 := IntWalk.i64_in _ (by omega)
      exact op_val hwant hgo hst _ (by simp only [execOp, nth]; go_simp <;> omega) rfl
    · intro LL xx ac wc sg hst hwant QQ hgo
      exact op_val hwant hgo hst _ (exec_assign rfl (sg.slot 1 (sg.anc 1 rfl))) rfl
  · exact skips [] (by kernel_rfl) (fun _ h => by cases h)
  · intro xx ac1 wz hfr hsl hst
    exact hfin ac1 wz (hfr.size.trans hz) hfr.defers (fr_keep hfr [6, 12, 13] (by kernel_rfl)) (hsl 2 (by decide)) (Lib.hid hst)
set_option maxRecDepth 20000 in
theorem withoutRC_r4x1 (lc : Nat) (l : List PairV) (k : KeyV) (hl : l.length ≤ 1000000) (i : Nat) (ad : Option Addr) (cd : Nat) (hi : i ≤ l.length) (z1d : i < l.length) (y : Addr) (hcl : ((l.take i).filter (keepN k)).length ≤ i) {wa wb : World} (H : Hid (Hp [] wa wb [rA ad cd 124 2 (((l.take i).filter (keepN k)).map rowOf), rS (some y) lc 2 (l.map rowOf)])) (ac0 : Act) (hz : ac0.tmps.size = 29) (so6 : ac0.eval (.tmp 6) = .int .i64 i) {QR : Exit → Act → World → Prop} (hfin : ∀ (ac1 : Act) (wz : World), ac1.tmps.size = 29 → ac1.defers = ac0.defers → (∀ t, ([6, 12, 13] : List Nat).contains t = false → ac1.eval (.tmp t) = ac0.eval (.tmp t)) → ac1.eval (.tmp 6) = .int .i64 (i + 1) →  Hid (Hp [] wa wz [rA ad cd 124 2 (((l.take i).filter (keepN k)).map rowOf), rS (some y) lc 2 (l.map rowOf)]) → QR .normal ac1 wz) : (regAt Try.f39 4).wp Try.prog QR ac0 wb := by
  refine wp_region_sq (by kernel_rfl) 29 hz (by kernel_rfl) (fun (xx : Unit) jx => nth [.int .i64 i, .int .i64 (i + 1), .int .i64 (i + 1)] jx) (fun (LL : Nat → Bool) (xx : Unit) ww => Hp [] wa ww [rA ad cd 124 2 (((l.take i).filter (keepN k)).map rowOf), rS (some y) lc 2 (l.map rowOf)]) () H.out ?_ (steps_al ?_) ?_ ?_
  · exact fun _ _ _ _ _ h => h
  · refine al_cons ?_ (al_cons ?_ (al_cons ?_ (al_nil)))
    · intro LL xx ac wc sg hst hwant QQ hgo
      exact op_val hwant hgo hst _ (exec_move rfl ((sg.yet 6 2 (sg.des 2 rfl) (by kernel_rfl)).trans so6)) rfl
    · intro LL xx ac wc sg hst hwant QQ hgo
      have se12 : ac.eval (.tmp 12) = _ := (sg.slot 0 (sg.anc 0 rfl))
      have sg12 := gt_of se12
      (try simp only [nth] at se12 sg12)
      have hnw : IntKind.i64.wrap (i + 1 : Int) = i + 1 := IntWalk.i64_in _ (by omega)
      exact op_val hwant hgo hst _ (by simp only [execOp, nth]; go_simp <;> omega) rfl
    · intro LL xx ac wc sg hst hwant QQ hgo
      exact op_val hwant hgo hst _ (exec_assign rfl (sg.slot 1 (sg.anc 1 rfl))) rfl
  · exact skips [] (by kernel_rfl) (fun _ h => by cases h)
  · intro xx ac1 wz hfr hsl hst
    exact hfin ac1 wz (hfr.size.trans hz) hfr.defers (fr_keep hfr [6, 12, 13] (by kernel_rfl)) (hsl 2 (by decide)) (Lib.hid hst)
set_option maxRecDepth 20000 in
theorem withoutRC_r7 (la : Option Addr) (lc : Nat) (l : List PairV) (k : KeyV) (hl : l.length ≤ 1000000) (ad : Option Addr) (cd : Nat) (hi : l.length ≤ l.length) {wa wb : World} (H : Hid (Hp [] wa wb [rA ad cd 124 2 ((l.filter (keepN k)).map rowOf), rS la lc 2 (l.map rowOf)])) (ac0 : Act) (hz : ac0.tmps.size = 29) (so5 : ac0.eval (.tmp 5) = .slice ad ((l.filter (keepN k)).length) cd) {QR : Exit → Act → World → Prop} (hfin : ∀ (ac1 : Act) (wz : World), ac1.tmps.size = 29 → ac1.defers = ac0.defers → (∀ t, ([4, 28] : List Nat).contains t = false → ac1.eval (.tmp t) = ac0.eval (.tmp t)) → ac1.eval (.tmp 4) = .slice ad ((l.filter (keepN k)).length) cd →  Hid (Hp [] wa wz [rA ad cd 124 2 ((l.filter (keepN k)).map rowOf), rS la lc 2 (l.map rowOf)]) → QR .normal ac1 wz) : (regAt Try.f39 7).wp Try.prog QR ac0 wb := by
  refine wp_region_sq (by kernel_rfl) 29 hz (by kernel_rfl) (fun (xx : Unit) jx => nth [.slice ad ((l.filter (keepN k)).length) cd, .slice ad ((l.filter (keepN k)).length) cd] jx) (fun (LL : Nat → Bool) (xx : Unit) ww => Hp [] wa ww [rA ad cd 124 2 ((l.filter (keepN k)).map rowOf), rS la lc 2 (l.map rowOf)]) () H.out ?_ (steps_al ?_) ?_ ?_
  · exact fun _ _ _ _ _ h => h
  · refine al_cons ?_ (al_cons ?_ (al_nil))
    · intro LL xx ac wc sg hst hwant QQ hgo
      exact op_val hwant hgo hst _ (exec_move rfl ((sg.free 5 (by kernel_rfl)).trans so5)) rfl
    · intro LL xx ac wc sg hst hwant QQ hgo
      exact op_val hwant hgo hst _ (exec_assign rfl (sg.slot 0 (sg.anc 0 rfl))) rfl
  · exact skips [] (by kernel_rfl) (fun _ h => by cases h)
  · intro xx ac1 wz hfr hsl hst
    exact hfin ac1 wz (hfr.size.trans hz) hfr.defers (fr_keep hfr [4, 28] (by kernel_rfl)) (hsl 1 (by decide)) (Lib.hid hst)
set_option maxRecDepth 20000 in
theorem withoutRC (la : Option Addr) (lc : Nat) (l : List PairV) (k : KeyV) (w : World) (h : (rS la lc 2 (l.map rowOf)).holds w) (hl : l.length ≤ 1000000) : Calls Try.prog 39 #[.slice la l.length lc, .string k] w fun e w' => ∃ a' c', e = .returned (.slice a' (l.filter (keepN k)).length c') ∧ (rA a' c' 124 2 ((l.filter (keepN k)).map rowOf)).holds w' ∧ (∀ q ∈ footA a', w.heap.size ≤ q) ∧ Off [] w w' := by
  have H := Lib.hid (Hp.start [] w)
  have H := hp_old H h (by decide)
  clear h
  refine calls_start Try.func39 rfl 29 rfl (by simp) (fun aa nn dd sl => ?_)
  have ss0 : aa.eval (.tmp 0) = .slice la l.length lc := sl 0 (by simp)
  have ss1 : aa.eval (.tmp 1) = .string k := sl 1 (by simp)
  clear sl
  refine wp_seq_k fun KK1 hK1 => ?_
  refine withoutRC_r0 la lc l hl H aa nn  ?_
  clear H nn
  intro aa ww nn dd1 kp ss4 H
  replace ss0 := (kp 0 rfl).trans ss0
  replace ss1 := (kp 1 rfl).trans ss1
  replace dd := dd1.trans dd
  clear dd1 kp
  refine then_normal ?_
  refine hK1 _ _ ?_
  refine wp_seq_k fun KK2 hK2 => ?_
  refine withoutRC_r1 la lc l hl H aa nn  ?_
  clear H nn
  intro b7 aa ww nn dd1 kp ss5 H
  replace ss0 := (kp 0 rfl).trans ss0
  replace ss1 := (kp 1 rfl).trans ss1
  replace ss4 := (kp 4 rfl).trans ss4
  replace dd := dd1.trans dd
  clear dd1 kp
  refine then_normal ?_
  refine hK2 _ _ ?_
  refine wp_seq_k fun KK3 hK3 => ?_
  refine wp_seq_k fun KK4 hK4 => ?_
  refine withoutRC_r2 la lc l hl b7 H aa nn  ?_
  clear H nn
  intro aa ww nn dd1 kp ss6 H
  replace ss0 := (kp 0 rfl).trans ss0
  replace ss1 := (kp 1 rfl).trans ss1
  replace ss4 := (kp 4 rfl).trans ss4
  replace ss5 := (kp 5 rfl).trans ss5
  replace dd := dd1.trans dd
  clear dd1 kp
  refine then_normal ?_
  refine hK4 _ _ ?_
  refine wp_block ?_
  refine wp_loop (fun ab wv => ∃ i : Nat, ∃ ad : Option Addr, ∃ cd : Nat, i ≤ l.length ∧ ab.tmps.size = 29 ∧ ab.defers = [] ∧ ab.eval (.tmp 0) = .slice la l.length lc ∧ ab.eval (.tmp 1) = .string k ∧ ab.eval (.tmp 4) = .slice none 0 0 ∧ ab.eval (.tmp 5) = .slice ad (((l.take i).filter (keepN k)).length) cd ∧ ab.eval (.tmp 6) = .int .i64 i ∧ Hid (Hp [] w wv [rA ad cd 124 2 (((l.take i).filter (keepN k)).map rowOf), rS la lc 2 (l.map rowOf)])) (fun ab _ => l.length - (intOf (ab.eval (.tmp 6))).toNat) ⟨0, (some ⟨b7, 0, none⟩), 0, (Nat.zero_le _), nn, dd, ss0, ss1, ss4, ss5, ss6, H⟩ (fun aa wv hI => ?_)
  clear H nn dd ss0 ss1 ss4 ss5 ss6
  obtain ⟨i, ad, cd, hi, nn, dd, ss0, ss1, ss4, ss5, ss6, H⟩ := hI
  have mu1_6 := ss6
  refine wp_seq_k fun KK5 hK5 => ?_
  refine wp_seq_k fun KK6 hK6 => ?_
  refine withoutRC_r3 la lc l k hl i ad cd hi H aa nn ss0 ss6 ?_
  clear H nn
  intro aa ww nn dd1 kp ss11 H
  replace ss0 := (kp 0 rfl).trans ss0
  replace ss1 := (kp 1 rfl).trans ss1
  replace ss4 := (kp 4 rfl).trans ss4
  replace ss5 := (kp 5 rfl).trans ss5
  replace ss6 := (kp 6 rfl).trans ss6
  replace dd := dd1.trans dd
  clear dd1 kp
  refine then_normal ?_
  refine hK6 _ _ ?_
  refine wp_cond_split ss11 (fun z1 => ?_) (fun z1 => ?_)
  · skip
    have z1d : i < l.length := of_decide_eq_true z1
    obtain ⟨y, rfl⟩ := some_of_row (hp_held H (show rS la lc 2 (l.map rowOf) ∈ _ by simp)) (i := i) (by simp; omega)
    obtain ⟨x, hx⟩ : ∃ x, l[i]? = some x := ⟨l[i], List.getElem?_eq_getElem (by omega)⟩
    have HRx := Lib.hid (show (l.map rowOf)[i]? = some [.string x.1, .int .i64 x.2] by rw [List.getElem?_map, hx]; rfl)
    have HXx := Lib.hid hx
    clear hx
    have hcl := take_le l (keepN k) i
    refine wp_skip ?_
    refine then_normal ?_
    refine hK5 _ _ ?_
    refine wp_seq_k fun KK7 hK7 => ?_
    refine wp_block ?_
    refine wp_seq_k fun KK8 hK8 => ?_
    refine withoutRC_r5 lc l k hl i ad cd hi z1d y x HRx hcl H aa nn ss0 ss1 ss6 ?_
    clear H nn
    intro aa ww nn dd1 kp ss20 H
    replace ss0 := (kp 0 rfl).trans ss0
    replace ss1 := (kp 1 rfl).trans ss1
    replace ss4 := (kp 4 rfl).trans ss4
    replace ss5 := (kp 5 rfl).trans ss5
    replace ss6 := (kp 6 rfl).trans ss6
    replace ss11 := (kp 11 rfl).trans ss11
    replace dd := dd1.trans dd
    clear dd1 kp
    refine then_normal ?_
    refine hK8 _ _ ?_
    refine wp_cond_split ss20 (fun z2 => ?_) (fun z2 => ?_)
    · skip
      have z2n : (x.1.toList == k.toList) = false := bn z2
      have z2no : (x.1.toList != k.toList) = true := eqq_f z2n
      refine withoutRC_r6 lc l k hl i ad cd hi z1d y x HRx hcl H aa nn ss0 ss5 ss6 ?_
      clear H nn ss5
      intro b26 a27 c27 aa ww nn dd1 kp ss5 H
      replace ss0 := (kp 0 rfl).trans ss0
      replace ss1 := (kp 1 rfl).trans ss1
      replace ss4 := (kp 4 rfl).trans ss4
      replace ss6 := (kp 6 rfl).trans ss6
      replace ss11 := (kp 11 rfl).trans ss11
      replace ss20 := (kp 20 rfl).trans ss20
      replace dd := dd1.trans dd
      clear dd1 kp
      refine block_normal ?_
      refine then_normal ?_
      refine hK7 _ _ ?_
      refine withoutRC_r4 lc l k hl i hi z1d y x hcl b26 a27 c27 H aa nn ss6 ?_
      clear H nn ss6
      intro aa ww nn dd1 kp ss6 H
      replace ss0 := (kp 0 rfl).trans ss0
      replace ss1 := (kp 1 rfl).trans ss1
      replace ss4 := (kp 4 rfl).trans ss4
      replace ss5 := (kp 5 rfl).trans ss5
      replace ss11 := (kp 11 rfl).trans ss11
      replace ss20 := (kp 20 rfl).trans ss20
      replace dd := dd1.trans dd
      clear dd1 kp
      refine then_normal ?_
      have hT := take_yes (f := keepN k) HXx.out z2
      rw [← hT] at ss5 H
      replace H := hp_front H 2 rfl
      replace H := hp_front H 2 rfl
      refine ⟨⟨i + 1, a27, c27, (by omega), nn, dd, ss0, ss1, ss4, ss5, ss6, (hp_take H 2)⟩, ?_⟩
      simp only [mu1_6, ss6, intOf]
      omega
    · skip
      have z2n : (x.1.toList == k.toList) = true := bt z2
      have z2no : (x.1.toList != k.toList) = false := eqq_t z2n
      refine wp_skip ?_
      refine block_normal ?_
      refine then_normal ?_
      refine hK7 _ _ ?_
      refine withoutRC_r4x1 lc l k hl i ad cd hi z1d y hcl H aa nn ss6 ?_
      clear H nn ss6
      intro aa ww nn dd1 kp ss6 H
      replace ss0 := (kp 0 rfl).trans ss0
      replace ss1 := (kp 1 rfl).trans ss1
      replace ss4 := (kp 4 rfl).trans ss4
      replace ss5 := (kp 5 rfl).trans ss5
      replace ss11 := (kp 11 rfl).trans ss11
      replace ss20 := (kp 20 rfl).trans ss20
      replace dd := dd1.trans dd
      clear dd1 kp
      refine then_normal ?_
      have hT := take_no (f := keepN k) HXx.out z2
      rw [← hT] at ss5 H
      replace H := hp_front H 1 rfl
      replace H := hp_front H 1 rfl
      refine ⟨⟨i + 1, ad, cd, (by omega), nn, dd, ss0, ss1, ss4, ss5, ss6, (hp_take H 2)⟩, ?_⟩
      simp only [mu1_6, ss6, intOf]
      omega
  · skip
    have z1d : ¬ (i < l.length) := of_decide_eq_false z1
    obtain rfl : i = l.length := by omega
    rw [List.take_length] at ss5 H
    refine wp_exit ?_
    refine then_exit ?_
    refine then_exit ?_
    refine block_exit ?_
    refine then_normal ?_
    refine hK3 _ _ ?_
    refine wp_seq_k fun KK9 hK9 => ?_
    refine withoutRC_r7 la lc l k hl ad cd hi H aa nn ss5 ?_
    clear H nn ss4
    intro aa ww nn dd1 kp ss4 H
    replace ss0 := (kp 0 rfl).trans ss0
    replace ss1 := (kp 1 rfl).trans ss1
    replace ss5 := (kp 5 rfl).trans ss5
    replace ss6 := (kp 6 rfl).trans ss6
    replace ss11 := (kp 11 rfl).trans ss11
    replace dd := dd1.trans dd
    clear dd1 kp
    refine then_normal ?_
    refine hK9 _ _ ?_
    refine wp_ret ?_
    exact ret1 rfl dd ss4 (by obtain ⟨g1, g2, g3⟩ := hp_giveA H (show rA ad cd 124 2 ((l.filter (keepN k)).map rowOf) ∈ _ by (repeat (first | exact List.Mem.head _ | apply List.Mem.tail))); exact ⟨_, _, rfl, g1, g2, g3⟩)
set_option maxRecDepth 20000 in
theorem keepRC_r0 (la : Option Addr) (lc : Nat) (l : List PairV) (m : Int) (hl : l.length ≤ 1000000) (hm0 : 0 < m) {wa wb : World} (H : Hid (Hp [] wa wb [rS la lc 2 (l.map rowOf)])) (ac0 : Act) (hz : ac0.tmps.size = 30)  {QR : Exit → Act → World → Prop} (hfin : ∀ (ac1 : Act) (wz : World), ac1.tmps.size = 30 → ac1.defers = ac0.defers → (∀ t, ([4] : List Nat).contains t = false → ac1.eval (.tmp t) = ac0.eval (.tmp t)) → ac1.eval (.tmp 4) = .slice none 0 0 →  Hid (Hp [] wa wz [rS la lc 2 (l.map rowOf)]) → QR .normal ac1 wz) : (regAt Try.f40 0).wp Try.prog QR ac0 wb := by
  refine wp_region_sq (by kernel_rfl) 30 hz (by kernel_rfl) (fun (xx : Unit) jx => nth [.slice none 0 0] jx) (fun (LL : Nat → Bool) (xx : Unit) ww => Hp [] wa ww [rS la lc 2 (l.map rowOf)]) () H.out ?_ (steps_al ?_) ?_ ?_
  · exact fun _ _ _ _ _ h => h
  · refine al_cons ?_ (al_nil)
    · intro LL xx ac wc sg hst hwant QQ hgo
      exact op_val hwant hgo hst _ (exec_assign rfl rfl) rfl
  · exact skips [] (by kernel_rfl) (fun _ h => by cases h)
  · intro xx ac1 wz hfr hsl hst
    exact hfin ac1 wz (hfr.size.trans hz) hfr.defers (fr_keep hfr [4] (by kernel_rfl)) (hsl 0 (by decide)) (Lib.hid hst)
set_option maxRecDepth 20000 in
theorem keepRC_r1 (la : Option Addr) (lc : Nat) (l : List PairV) (m : Int) (hl : l.length ≤ 1000000) (hm0 : 0 < m) {wa wb : World} (H : Hid (Hp [] wa wb [rS la lc 2 (l.map rowOf)])) (ac0 : Act) (hz : ac0.tmps.size = 30)  {QR : Exit → Act → World → Prop} (hfin : ∀ (b7 : Nat) (ac1 : Act) (wz : World), ac1.tmps.size = 30 → ac1.defers = ac0.defers → (∀ t, ([5, 7] : List Nat).contains t = false → ac1.eval (.tmp t) = ac0.eval (.tmp t)) → ac1.eval (.tmp 5) = .slice (some ⟨b7, 0, none⟩) 0 0 →  Hid (Hp [] wa wz [rA (some ⟨b7, 0, none⟩) 0 124 2 (([] : List PairV).map rowOf), rS la lc 2 (l.map rowOf)]) → QR .normal ac1 wz) : (regAt Try.f40 1).wp Try.prog QR ac0 wb := by
  refine wp_region_sq (by kernel_rfl) 30 hz (by kernel_rfl) (fun (xx : Nat) jx => match xx with | b7 => nth [.slice (some ⟨b7, 0, none⟩) 0 0, .slice (some ⟨b7, 0, none⟩) 0 0] jx) (fun (LL : Nat → Bool) (xx : Nat) ww => match xx with | b7 => Hp [] wa ww (bif LL 0 then [rA (some ⟨b7, 0, none⟩) 0 124 2 (([] : List PairV).map rowOf), rS la lc 2 (l.map rowOf)] else [rS la lc 2 (l.map rowOf)])) default H.out ?_ (steps_al ?_) ?_ ?_
  · intro L1 L2 xx ww hL sg
    have lh0 := hL 0 (by decide)
    simp only [lh0] at sg
    exact sg
  · refine al_cons ?_ (al_cons ?_ (al_nil))
    · intro LL xx ac wc sg hst hwant QQ hgo
      revert sg hst hgo; revert xx; intro xold sg hst hgo
      have H := Lib.hid hst
      simp only [sg.self, cond_true, cond_false] at H
      refine hp_bslice0 elP H rfl hwant ?_
      intro wd b7 H2
      exact hgo _ b7 _ (sg.agree (x' := b7) (n := 2) rfl (by (iterate 2 (refine ix_cons (by first | exact fun _ => rfl | exact no sg.self | exact no (sg.des _ rfl)) ?_)); exact ix_nil)) rfl (by simp only [(show upd LL 0 0 = true from rfl), cond_true, cond_false]; exact H2.out)
    · intro LL xx ac wc sg hst hwant QQ hgo
      revert sg hst hgo; revert xx; intro b7 sg hst hgo
      exact op_val hwant hgo hst _ (exec_assign rfl (sg.slot 0 (sg.anc 0 rfl))) rfl
  · exact skips [] (by kernel_rfl) (fun _ h => by cases h)
  · intro xx ac1 wz hfr hsl hst
    revert hsl hst; revert xx; intro b7 hsl hst
    exact hfin b7 ac1 wz (hfr.size.trans hz) hfr.defers (fr_keep hfr [5, 7] (by kernel_rfl)) (hsl 1 (by decide)) (Lib.hid hst)
set_option maxRecDepth 20000 in
theorem keepRC_r2 (la : Option Addr) (lc : Nat) (l : List PairV) (m : Int) (hl : l.length ≤ 1000000) (hm0 : 0 < m) (b7 : Nat) {wa wb : World} (H : Hid (Hp [] wa wb [rA (some ⟨b7, 0, none⟩) 0 124 2 (([] : List PairV).map rowOf), rS la lc 2 (l.map rowOf)])) (ac0 : Act) (hz : ac0.tmps.size = 30)  {QR : Exit → Act → World → Prop} (hfin : ∀ (ac1 : Act) (wz : World), ac1.tmps.size = 30 → ac1.defers = ac0.defers → (∀ t, ([6] : List Nat).contains t = false → ac1.eval (.tmp t) = ac0.eval (.tmp t)) → ac1.eval (.tmp 6) = .int .i64 0 →  Hid (Hp [] wa wz [rA (some ⟨b7, 0, none⟩) 0 124 2 (([] : List PairV).map rowOf), rS la lc 2 (l.map rowOf)]) → QR .normal ac1 wz) : (regAt Try.f40 2).wp Try.prog QR ac0 wb := by
  refine wp_region_sq (by kernel_rfl) 30 hz (by kernel_rfl) (fun (xx : Unit) jx => nth [.int .i64 0] jx) (fun (LL : Nat → Bool) (xx : Unit) ww => Hp [] wa ww [rA (some ⟨b7, 0, none⟩) 0 124 2 (([] : List PairV).map rowOf), rS la lc 2 (l.map rowOf)]) () H.out ?_ (steps_al ?_) ?_ ?_
  · exact fun _ _ _ _ _ h => h
  · refine al_cons ?_ (al_nil)
    · intro LL xx ac wc sg hst hwant QQ hgo
      exact op_val hwant hgo hst _ (exec_assign rfl rfl) rfl
  · exact skips [] (by kernel_rfl) (fun _ h => by cases h)
  · intro xx ac1 wz hfr hsl hst
    exact hfin ac1 wz (hfr.size.trans hz) hfr.defers (fr_keep hfr [6] (by kernel_rfl)) (hsl 0 (by decide)) (Lib.hid hst)
set_option maxRecDepth 20000 in
theorem keepRC_r3 (la : Option Addr) (lc : Nat) (l : List PairV) (m : Int) (hl : l.length ≤ 1000000) (hm0 : 0 < m) (i : Nat) (ad : Option Addr) (cd : Nat) (hi : i ≤ l.length) {wa wb : World} (H : Hid (Hp [] wa wb [rA ad cd 124 2 (((l.take i).filter (keptV m)).map rowOf), rS la lc 2 (l.map rowOf)])) (ac0 : Act) (hz : ac0.tmps.size = 30) (so0 : ac0.eval (.tmp 0) = .slice la l.length lc) (so6 : ac0.eval (.tmp 6) = .int .i64 i) {QR : Exit → Act → World → Prop} (hfin : ∀ (ac1 : Act) (wz : World), ac1.tmps.size = 30 → ac1.defers = ac0.defers → (∀ t, ([8, 9, 10, 11] : List Nat).contains t = false → ac1.eval (.tmp t) = ac0.eval (.tmp t)) → ac1.eval (.tmp 11) = .bool (decide (i < l.length)) →  Hid (Hp [] wa wz [rA ad cd 124 2 (((l.take i).filter (keptV m)).map rowOf), rS la lc 2 (l.map rowOf)]) → QR .normal ac1 wz) : (regAt Try.f40 3).wp Try.prog QR ac0 wb := by
  refine wp_region_sq (by kernel_rfl) 30 hz (by kernel_rfl) (fun (xx : Unit) jx => nth [.int .i64 i, .slice la l.length lc, .int .i64 l.length, .bool (decide (i < l.length))] jx) (fun (LL : Nat → Bool) (xx : Unit) ww => Hp [] wa ww [rA ad cd 124 2 (((l.take i).filter (keptV m)).map rowOf), rS la lc 2 (l.map rowOf)]) () H.out ?_ (steps_al ?_) ?_ ?_
  · exact fun _ _ _ _ _ h => h
  · refine al_cons ?_ (al_cons ?_ (al_cons ?_ (al_cons ?_ (al_nil))))
    · intro LL xx ac wc sg hst hwant QQ hgo
      exact op_val hwant hgo hst _ (exec_move rfl ((sg.free 6 (by kernel_rfl)).trans so6)) rfl
    · intro LL xx ac wc sg hst hwant QQ hgo
      exact op_val hwant hgo hst _ (exec_move rfl ((sg.free 0 (by kernel_rfl)).trans so0)) rfl
    · intro LL xx ac wc sg hst hwant QQ hgo
      have se9 : ac.eval (.tmp 9) = _ := (sg.slot 1 (sg.anc 1 rfl))
      have sg9 := gt_of se9
      (try simp only [nth] at se9 sg9)
      exact op_val hwant hgo hst _ (by simp only [execOp, nth]; go_simp <;> omega) rfl
    · intro LL xx ac wc sg hst hwant QQ hgo
      have se8 : ac.eval (.tmp 8) = _ := (sg.slot 0 (sg.anc 0 rfl))
      have sg8 := gt_of se8
      have se10 : ac.eval (.tmp 10) = _ := (sg.slot 2 (sg.anc 2 rfl))
      have sg10 := gt_of se10
      (try simp only [nth] at se8 sg8 se10 sg10)
      exact op_val hwant hgo hst _ (by simp only [execOp, nth]; go_simp <;> omega) rfl
  · exact skips [] (by kernel_rfl) (fun _ h => by cases h)
  · intro xx ac1 wz hfr hsl hst
    exact hfin ac1 wz (hfr.size.trans hz) hfr.defers (fr_keep hfr [8, 9, 10, 11] (by kernel_rfl)) (hsl 3 (by decide)) (Lib.hid hst)
set_option maxRecDepth 20000 in
theorem keepRC_r5 (lc : Nat) (l : List PairV) (m : Int) (hl : l.length ≤ 1000000) (hm0 : 0 < m) (i : Nat) (ad : Option Addr) (cd : Nat) (hi : i ≤ l.length) (z1d : i < l.length) (y : Addr) (x : PairV) (HRx : Hid ((l.map rowOf)[i]? = some [.string x.1, .int .i64 x.2])) (hcl : ((l.take i).filter (keptV m)).length ≤ i) {wa wb : World} (H : Hid (Hp [] wa wb [rA ad cd 124 2 (((l.take i).filter (keptV m)).map rowOf), rS (some y) lc 2 (l.map rowOf)])) (ac0 : Act) (hz : ac0.tmps.size = 30) (so0 : ac0.eval (.tmp 0) = .slice (some y) l.length lc) (so1 : ac0.eval (.tmp 1) = .int .i64 m) (so6 : ac0.eval (.tmp 6) = .int .i64 i) {QR : Exit → Act → World → Prop} (hfin : ∀ (ac1 : Act) (wz : World), ac1.tmps.size = 30 → ac1.defers = ac0.defers → (∀ t, ([14, 15, 16, 17, 18, 19, 20, 21] : List Nat).contains t = false → ac1.eval (.tmp t) = ac0.eval (.tmp t)) → ac1.eval (.tmp 21) = .bool ((x.2.tmod m) == 0) →  Hid (Hp [] wa wz [rA ad cd 124 2 (((l.take i).filter (keptV m)).map rowOf), rS (some y) lc 2 (l.map rowOf)]) → QR .normal ac1 wz) : (regAt Try.f40 5).wp Try.prog QR ac0 wb := by
  refine wp_region_sq (by kernel_rfl) 30 hz (by kernel_rfl) (fun (xx : Unit) jx => nth [.slice (some y) l.length lc, .int .i64 i, .pointer (some (y.add (i * 2))), .pointer (some ⟨(y.add (i * 2)).block, (y.add (i * 2)).off + 1, none⟩), .int .i64 x.2, .int .i64 m, .int .i64 (x.2.tmod m), .bool ((x.2.tmod m) == 0)] jx) (fun (LL : Nat → Bool) (xx : Unit) ww => Hp [] wa ww [rA ad cd 124 2 (((l.take i).filter (keptV m)).map rowOf), rS (some y) lc 2 (l.map rowOf)]) () H.out ?_ (steps_al ?_) ?_ ?_
  · exact fun _ _ _ _ _ h => h
  · refine al_cons ?_ (al_cons ?_ (al_cons ?_ (al_cons ?_ (al_cons ?_ (al_cons ?_ (al_cons ?_ (al_cons ?_ (al_nil))))))))
    · intro LL xx ac wc sg hst hwant QQ hgo
      exact op_val hwant hgo hst _ (exec_move rfl ((sg.free 0 (by kernel_rfl)).trans so0)) rfl
    · intro LL xx ac wc sg hst hwant QQ hgo
      exact op_val hwant hgo hst _ (exec_move rfl ((sg.free 6 (by kernel_rfl)).trans so6)) rfl
    · intro LL xx ac wc sg hst hwant QQ hgo
      have se14 : ac.eval (.tmp 14) = _ := (sg.slot 0 (sg.anc 0 rfl))
      have sg14 := gt_of se14
      have se15 : ac.eval (.tmp 15) = _ := (sg.slot 1 (sg.anc 1 rfl))
      have sg15 := gt_of se15
      (try simp only [nth] at se14 sg14 se15 sg15)
      exact op_val hwant hgo hst _ (by simp only [execOp, nth]; go_simp <;> omega) rfl
    · intro LL xx ac wc sg hst hwant QQ hgo
      have se16 : ac.eval (.tmp 16) = _ := (sg.slot 2 (sg.anc 2 rfl))
      have sg16 := gt_of se16
      (try simp only [nth] at se16 sg16)
      exact op_val hwant hgo hst _ (by simp only [execOp, nth]; go_simp <;> omega) rfl
    · intro LL xx ac wc sg hst hwant QQ hgo
      have H := Lib.hid hst
      refine hpS_load1 1 tyint H rfl (sg.slot 3 (sg.anc 3 rfl)) hwant (by (repeat (first | exact List.Mem.head _ | apply List.Mem.tail))) HRx.out (by rfl) (by simp [Addr.add]) ?_
      exact hgo _ () _ (fun _ _ => rfl) rfl hst
    · intro LL xx ac wc sg hst hwant QQ hgo
      exact op_val hwant hgo hst _ (exec_move rfl ((sg.free 1 (by kernel_rfl)).trans so1)) rfl
    · intro LL xx ac wc sg hst hwant QQ hgo
      exact op_val hwant hgo hst _ (exec_rem rfl (sg.slot 4 (sg.anc 4 rfl)) (sg.slot 5 (sg.anc 5 rfl)) (by omega)) rfl
    · intro LL xx ac wc sg hst hwant QQ hgo
      have se20 : ac.eval (.tmp 20) = _ := (sg.slot 6 (sg.anc 6 rfl))
      have sg20 := gt_of se20
      (try simp only [nth] at se20 sg20)
      exact op_val hwant hgo hst _ (by simp only [execOp, nth]; go_simp <;> omega) rfl
  · exact skips [] (by kernel_rfl) (fun _ h => by cases h)
  · intro xx ac1 wz hfr hsl hst
    exact hfin ac1 wz (hfr.size.trans hz) hfr.defers (fr_keep hfr [14, 15, 16, 17, 18, 19, 20, 21] (by kernel_rfl)) (hsl 7 (by decide)) (Lib.hid hst)
set_option maxRecDepth 20000 in
theorem keepRC_r6 (lc : Nat) (l : List PairV) (m : Int) (hl : l.length ≤ 1000000) (hm0 : 0 < m) (i : Nat) (ad : Option Addr) (cd : Nat) (hi : i ≤ l.length) (z1d : i < l.length) (y : Addr) (x : PairV) (HRx : Hid ((l.map rowOf)[i]? = some [.string x.1, .int .i64 x.2])) (hcl : ((l.take i).filter (keptV m)).length ≤ i) {wa wb : World} (H : Hid (Hp [] wa wb [rA ad cd 124 2 (((l.take i).filter (keptV m)).map rowOf), rS (some y) lc 2 (l.map rowOf)])) (ac0 : Act) (hz : ac0.tmps.size = 30) (so0 : ac0.eval (.tmp 0) = .slice (some y) l.length lc) (so5 : ac0.eval (.tmp 5) = .slice ad (((l.take i).filter (keptV m)).length) cd) (so6 : ac0.eval (.tmp 6) = .int .i64 i) {QR : Exit → Act → World → Prop} (hfin : ∀ (b27 : Nat) (a28 : Option Addr) (c28 : Nat) (ac1 : Act) (wz : World), ac1.tmps.size = 30 → ac1.defers = ac0.defers → (∀ t, ([5, 22, 23, 24, 25, 26, 27, 28] : List Nat).contains t = false → ac1.eval (.tmp t) = ac0.eval (.tmp t)) → ac1.eval (.tmp 5) = .slice a28 ((((l.take i).filter (keptV m)) ++ [x]).length) c28 →  Hid (Hp [] wa wz [rB b27 124 [.string x.1, .int .i64 x.2], rA a28 c28 124 2 ((((l.take i).filter (keptV m)) ++ [x]).map rowOf), rS (some y) lc 2 (l.map rowOf)]) → QR .normal ac1 wz) : (regAt Try.f40 6).wp Try.prog QR ac0 wb := by
  refine wp_region_sq (by kernel_rfl) 30 hz (by kernel_rfl) (fun (xx : Nat × Option Addr × Nat) jx => match xx with | (b27, a28, c28) => nth [.slice ad (((l.take i).filter (keptV m)).length) cd, .slice (some y) l.length lc, .int .i64 i, .pointer (some (y.add (i * 2))), .agg #[.string x.1, .int .i64 x.2], .slice (some ⟨b27, 0, none⟩) 1 1, .slice a28 ((((l.take i).filter (keptV m)) ++ [x]).length) c28, .slice a28 ((((l.take i).filter (keptV m)) ++ [x]).length) c28] jx) (fun (LL : Nat → Bool) (xx : Nat × Option Addr × Nat) ww => match xx with | (b27, a28, c28) => Hp [] wa ww (bif LL 6 then [rB b27 124 [.string x.1, .int .i64 x.2], rA a28 c28 124 2 ((((l.take i).filter (keptV m)) ++ [x]).map rowOf), rS (some y) lc 2 (l.map rowOf)] else (bif LL 5 then [rB b27 124 [.string x.1, .int .i64 x.2], rA ad cd 124 2 (((l.take i).filter (keptV m)).map rowOf), rS (some y) lc 2 (l.map rowOf)] else [rA ad cd 124 2 (((l.take i).filter (keptV m)).map rowOf), rS (some y) lc 2 (l.map rowOf)]))) (default, default, default) H.out ?_ (steps_al ?_) ?_ ?_
  · intro L1 L2 xx ww hL sg
    have lh5 := hL 5 (by decide)
    have lh6 := hL 6 (by decide)
    simp only [lh5, lh6] at sg
    exact sg
  · refine al_cons ?_ (al_cons ?_ (al_cons ?_ (al_cons ?_ (al_cons ?_ (al_cons ?_ (al_cons ?_ (al_cons ?_ (al_nil))))))))
    · intro LL xx ac wc sg hst hwant QQ hgo
      obtain ⟨b27, a28, c28⟩ := xx
      exact op_val hwant hgo hst _ (exec_move rfl ((sg.yet 5 7 (sg.des 7 rfl) (by kernel_rfl)).trans so5)) rfl
    · intro LL xx ac wc sg hst hwant QQ hgo
      obtain ⟨b27, a28, c28⟩ := xx
      exact op_val hwant hgo hst _ (exec_move rfl ((sg.free 0 (by kernel_rfl)).trans so0)) rfl
    · intro LL xx ac wc sg hst hwant QQ hgo
      obtain ⟨b27, a28, c28⟩ := xx
      exact op_val hwant hgo hst _ (exec_move rfl ((sg.free 6 (by kernel_rfl)).trans so6)) rfl
    · intro LL xx ac wc sg hst hwant QQ hgo
      obtain ⟨b27, a28, c28⟩ := xx
      have se23 : ac.eval (.tmp 23) = _ := (sg.slot 1 (sg.anc 1 rfl))
      have sg23 := gt_of se23
      have se24 : ac.eval (.tmp 24) = _ := (sg.slot 2 (sg.anc 2 rfl))
      have sg24 := gt_of se24
      (try simp only [nth] at se23 sg23 se24 sg24)
      exact op_val hwant hgo hst _ (by simp only [execOp, nth]; go_simp <;> omega) rfl
    · intro LL xx ac wc sg hst hwant QQ hgo
      obtain ⟨b27, a28, c28⟩ := xx
      have H := Lib.hid hst
      simp only [sg.des 5 rfl, sg.des 6 rfl, cond_true, cond_false] at H
      refine hpS_load tyhoistwayref06_Pair H rfl (sg.slot 3 (sg.anc 3 rfl)) hwant (by (repeat (first | exact List.Mem.head _ | apply List.Mem.tail))) HRx.out rfl ?_
      exact hgo _ (b27, a28, c28) _ (fun _ _ => rfl) rfl hst
    · intro LL xx ac wc sg hst hwant QQ hgo
      obtain ⟨_, a28, c28⟩ := xx
      have se26 : ac.eval (.tmp 26) = _ := (sg.slot 4 (sg.anc 4 rfl))
      have sg26 := gt_of se26
      (try simp only [nth] at se26 sg26)
      have H := Lib.hid hst
      simp only [sg.self, sg.des 6 rfl, cond_true, cond_false] at H
      refine hpA_bslice Try.underlying65 tyhoistwayref06_Pair H rfl rfl (by decide) (by decide) (by first | (go_simp; rfl) | rfl | (simp; rfl)) ?_
      intro wd b27 H2
      exact hgo _ (b27, a28, c28) _ (sg.agree (x' := (b27, a28, c28)) (n := 8) rfl (by (iterate 8 (refine ix_cons (by first | exact fun _ => rfl | exact no sg.self | exact no (sg.des _ rfl)) ?_)); exact ix_nil)) rfl (by simp only [(show upd LL 5 5 = true from rfl), (show upd LL 5 6 = LL 6 from rfl), sg.des 6 rfl, cond_true, cond_false]; exact H2.out)
    · intro LL xx ac wc sg hst hwant QQ hgo
      obtain ⟨b27, _, _⟩ := xx
      have H := Lib.hid hst
      simp only [sg.anc 5 rfl, sg.self, cond_true, cond_false] at H
      refine hp_append (news := [rowOf x]) elP H rfl rfl 1 rfl (sg.slot 0 (sg.anc 0 rfl)) (by simp) (sg.slot 5 (sg.anc 5 rfl)) rfl (hp_single (e := 124) H (by (repeat (first | exact List.Mem.head _ | apply List.Mem.tail))) rfl (by simp [rowOf, Value.oneCell'])) (by simp; omega) (by decide) ?_
      intro wd a28 c28 H2
      rw [show ((l.take i).filter (keptV m)).map rowOf ++ [rowOf x] = (((l.take i).filter (keptV m)) ++ [x]).map rowOf by simp] at H2 ⊢
      rw [List.length_map]
      exact hgo _ (b27, a28, c28) _ (sg.agree (x' := (b27, a28, c28)) (n := 8) rfl (by (iterate 8 (refine ix_cons (by first | exact fun _ => rfl | exact no sg.self | exact no (sg.des _ rfl)) ?_)); exact ix_nil)) rfl (by simp only [(show upd LL 6 5 = LL 5 from rfl), sg.anc 5 rfl, (show upd LL 6 6 = true from rfl), cond_true, cond_false]; exact H2.out)
    · intro LL xx ac wc sg hst hwant QQ hgo
      obtain ⟨b27, a28, c28⟩ := xx
      exact op_val hwant hgo hst _ (exec_assign rfl (sg.slot 6 (sg.anc 6 rfl))) rfl
  · exact skips [] (by kernel_rfl) (fun _ h => by cases h)
  · intro xx ac1 wz hfr hsl hst
    obtain ⟨b27, a28, c28⟩ := xx
    exact hfin b27 a28 c28 ac1 wz (hfr.size.trans hz) hfr.defers (fr_keep hfr [5, 22, 23, 24, 25, 26, 27, 28] (by kernel_rfl)) (hsl 7 (by decide)) (Lib.hid hst)
set_option maxRecDepth 20000 in
theorem keepRC_r4 (lc : Nat) (l : List PairV) (m : Int) (hl : l.length ≤ 1000000) (hm0 : 0 < m) (i : Nat) (hi : i ≤ l.length) (z1d : i < l.length) (y : Addr) (x : PairV) (hcl : ((l.take i).filter (keptV m)).length ≤ i) (b27 : Nat) (a28 : Option Addr) (c28 : Nat) {wa wb : World} (H : Hid (Hp [] wa wb [rB b27 124 [.string x.1, .int .i64 x.2], rA a28 c28 124 2 ((((l.take i).filter (keptV m)) ++ [x]).map rowOf), rS (some y) lc 2 (l.map rowOf)])) (ac0 : Act) (hz : ac0.tmps.size = 30) (so6 : ac0.eval (.tmp 6) = .int .i64 i) {QR : Exit → Act → World → Prop} (hfin : ∀ (ac1 : Act) (wz : World), ac1.tmps.size = 30 → ac1.defers = ac0.defers → (∀ t, ([6, 12, 13] : List Nat).contains t = false → ac1.eval (.tmp t) = ac0.eval (.tmp t)) → ac1.eval (.tmp 6) = .int .i64 (i + 1) →  Hid (Hp [] wa wz [rB b27 124 [.string x.1, .int .i64 x.2], rA a28 c28 124 2 ((((l.take i).filter (keptV m)) ++ [x]).map rowOf), rS (some y) lc 2 (l.map rowOf)]) → QR .normal ac1 wz) : (regAt Try.f40 4).wp Try.prog QR ac0 wb := by
  refine wp_region_sq (by kernel_rfl) 30 hz (by kernel_rfl) (fun (xx : Unit) jx => nth [.int .i64 i, .int .i64 (i + 1), .int .i64 (i + 1)] jx) (fun (LL : Nat → Bool) (xx : Unit) ww => Hp [] wa ww [rB b27 124 [.string x.1, .int .i64 x.2], rA a28 c28 124 2 ((((l.take i).filter (keptV m)) ++ [x]).map rowOf), rS (some y) lc 2 (l.map rowOf)]) () H.out ?_ (steps_al ?_) ?_ ?_
  · exact fun _ _ _ _ _ h => h
  · refine al_cons ?_ (al_cons ?_ (al_cons ?_ (al_nil)))
    · intro LL xx ac wc sg hst hwant QQ hgo
      exact op_val hwant hgo hst _ (exec_move rfl ((sg.yet 6 2 (sg.des 2 rfl) (by kernel_rfl)).trans so6)) rfl
    · intro LL xx ac wc sg hst hwant QQ hgo
      have se12 : ac.eval (.tmp 12) = _ := (sg.slot 0 (sg.anc 0 rfl))
      have sg12 := gt_of se12
      (try simp only [nth] at se12 sg12)
      have hnw : IntKind.i64.wrap (i + 1 : Int) = i + 1 := IntWalk.i64_in _ (by omega)
      exact op_val hwant hgo hst _ (by simp only [execOp, nth]; go_simp <;> omega) rfl
    · intro LL xx ac wc sg hst hwant QQ hgo
      exact op_val hwant hgo hst _ (exec_assign rfl (sg.slot 1 (sg.anc 1 rfl))) rfl
  · exact skips [] (by kernel_rfl) (fun _ h => by cases h)
  · intro xx ac1 wz hfr hsl hst
    exact hfin ac1 wz (hfr.size.trans hz) hfr.defers (fr_keep hfr [6, 12, 13] (by kernel_rfl)) (hsl 2 (by decide)) (Lib.hid hst)
set_option maxRecDepth 20000 in
theorem keepRC_r4x1 (lc : Nat) (l : List PairV) (m : Int) (hl : l.length ≤ 1000000) (hm0 : 0 < m) (i : Nat) (ad : Option Addr) (cd : Nat) (hi : i ≤ l.length) (z1d : i < l.length) (y : Addr) (hcl : ((l.take i).filter (keptV m)).length ≤ i) {wa wb : World} (H : Hid (Hp [] wa wb [rA ad cd 124 2 (((l.take i).filter (keptV m)).map rowOf), rS (some y) lc 2 (l.map rowOf)])) (ac0 : Act) (hz : ac0.tmps.size = 30) (so6 : ac0.eval (.tmp 6) = .int .i64 i) {QR : Exit → Act → World → Prop} (hfin : ∀ (ac1 : Act) (wz : World), ac1.tmps.size = 30 → ac1.defers = ac0.defers → (∀ t, ([6, 12, 13] : List Nat).contains t = false → ac1.eval (.tmp t) = ac0.eval (.tmp t)) → ac1.eval (.tmp 6) = .int .i64 (i + 1) →  Hid (Hp [] wa wz [rA ad cd 124 2 (((l.take i).filter (keptV m)).map rowOf), rS (some y) lc 2 (l.map rowOf)]) → QR .normal ac1 wz) : (regAt Try.f40 4).wp Try.prog QR ac0 wb := by
  refine wp_region_sq (by kernel_rfl) 30 hz (by kernel_rfl) (fun (xx : Unit) jx => nth [.int .i64 i, .int .i64 (i + 1), .int .i64 (i + 1)] jx) (fun (LL : Nat → Bool) (xx : Unit) ww => Hp [] wa ww [rA ad cd 124 2 (((l.take i).filter (keptV m)).map rowOf), rS (some y) lc 2 (l.map rowOf)]) () H.out ?_ (steps_al ?_) ?_ ?_
  · exact fun _ _ _ _ _ h => h
  · refine al_cons ?_ (al_cons ?_ (al_cons ?_ (al_nil)))
    · intro LL xx ac wc sg hst hwant QQ hgo
      exact op_val hwant hgo hst _ (exec_move rfl ((sg.yet 6 2 (sg.des 2 rfl) (by kernel_rfl)).trans so6)) rfl
    · intro LL xx ac wc sg hst hwant QQ hgo
      have se12 : ac.eval (.tmp 12) = _ := (sg.slot 0 (sg.anc 0 rfl))
      have sg12 := gt_of se12
      (try simp only [nth] at se12 sg12)
      have hnw : IntKind.i64.wrap (i + 1 : Int) = i + 1 := IntWalk.i64_in _ (by omega)
      exact op_val hwant hgo hst _ (by simp only [execOp, nth]; go_simp <;> omega) rfl
    · intro LL xx ac wc sg hst hwant QQ hgo
      exact op_val hwant hgo hst _ (exec_assign rfl (sg.slot 1 (sg.anc 1 rfl))) rfl
  · exact skips [] (by kernel_rfl) (fun _ h => by cases h)
  · intro xx ac1 wz hfr hsl hst
    exact hfin ac1 wz (hfr.size.trans hz) hfr.defers (fr_keep hfr [6, 12, 13] (by kernel_rfl)) (hsl 2 (by decide)) (Lib.hid hst)
set_option maxRecDepth 20000 in
theorem keepRC_r7 (la : Option Addr) (lc : Nat) (l : List PairV) (m : Int) (hl : l.length ≤ 1000000) (hm0 : 0 < m) (ad : Option Addr) (cd : Nat) (hi : l.length ≤ l.length) {wa wb : World} (H : Hid (Hp [] wa wb [rA ad cd 124 2 ((l.filter (keptV m)).map rowOf), rS la lc 2 (l.map rowOf)])) (ac0 : Act) (hz : ac0.tmps.size = 30) (so5 : ac0.eval (.tmp 5) = .slice ad ((l.filter (keptV m)).length) cd) {QR : Exit → Act → World → Prop} (hfin : ∀ (ac1 : Act) (wz : World), ac1.tmps.size = 30 → ac1.defers = ac0.defers → (∀ t, ([4, 29] : List Nat).contains t = false → ac1.eval (.tmp t) = ac0.eval (.tmp t)) → ac1.eval (.tmp 4) = .slice ad ((l.filter (keptV m)).length) cd →  Hid (Hp [] wa wz [rA ad cd 124 2 ((l.filter (keptV m)).map rowOf), rS la lc 2 (l.map rowOf)]) → QR .normal ac1 wz) : (regAt Try.f40 7).wp Try.prog QR ac0 wb := by
  refine wp_region_sq (by kernel_rfl) 30 hz (by kernel_rfl) (fun (xx : Unit) jx => nth [.slice ad ((l.filter (keptV m)).length) cd, .slice ad ((l.filter (keptV m)).length) cd] jx) (fun (LL : Nat → Bool) (xx : Unit) ww => Hp [] wa ww [rA ad cd 124 2 ((l.filter (keptV m)).map rowOf), rS la lc 2 (l.map rowOf)]) () H.out ?_ (steps_al ?_) ?_ ?_
  · exact fun _ _ _ _ _ h => h
  · refine al_cons ?_ (al_cons ?_ (al_nil))
    · intro LL xx ac wc sg hst hwant QQ hgo
      exact op_val hwant hgo hst _ (exec_move rfl ((sg.free 5 (by kernel_rfl)).trans so5)) rfl
    · intro LL xx ac wc sg hst hwant QQ hgo
      exact op_val hwant hgo hst _ (exec_assign rfl (sg.slot 0 (sg.anc 0 rfl))) rfl
  · exact skips [] (by kernel_rfl) (fun _ h => by cases h)
  · intro xx ac1 wz hfr hsl hst
    exact hfin ac1 wz (hfr.size.trans hz) hfr.defers (fr_keep hfr [4, 29] (by kernel_rfl)) (hsl 1 (by decide)) (Lib.hid hst)
set_option maxRecDepth 20000 in
theorem keepRC (la : Option Addr) (lc : Nat) (l : List PairV) (m : Int) (w : World) (h : (rS la lc 2 (l.map rowOf)).holds w) (hl : l.length ≤ 1000000) (hm0 : 0 < m) : Calls Try.prog 40 #[.slice la l.length lc, .int .i64 m] w fun e w' => ∃ a' c', e = .returned (.slice a' (l.filter (keptV m)).length c') ∧ (rA a' c' 124 2 ((l.filter (keptV m)).map rowOf)).holds w' ∧ (∀ q ∈ footA a', w.heap.size ≤ q) ∧ Off [] w w' := by
  have H := Lib.hid (Hp.start [] w)
  have H := hp_old H h (by decide)
  clear h
  refine calls_start Try.func40 rfl 30 rfl (by simp) (fun aa nn dd sl => ?_)
  have ss0 : aa.eval (.tmp 0) = .slice la l.length lc := sl 0 (by simp)
  have ss1 : aa.eval (.tmp 1) = .int .i64 m := sl 1 (by simp)
  clear sl
  refine wp_seq_k fun KK1 hK1 => ?_
  refine keepRC_r0 la lc l m hl hm0 H aa nn  ?_
  clear H nn
  intro aa ww nn dd1 kp ss4 H
  replace ss0 := (kp 0 rfl).trans ss0
  replace ss1 := (kp 1 rfl).trans ss1
  replace dd := dd1.trans dd
  clear dd1 kp
  refine then_normal ?_
  refine hK1 _ _ ?_
  refine wp_seq_k fun KK2 hK2 => ?_
  refine keepRC_r1 la lc l m hl hm0 H aa nn  ?_
  clear H nn
  intro b7 aa ww nn dd1 kp ss5 H
  replace ss0 := (kp 0 rfl).trans ss0
  replace ss1 := (kp 1 rfl).trans ss1
  replace ss4 := (kp 4 rfl).trans ss4
  replace dd := dd1.trans dd
  clear dd1 kp
  refine then_normal ?_
  refine hK2 _ _ ?_
  refine wp_seq_k fun KK3 hK3 => ?_
  refine wp_seq_k fun KK4 hK4 => ?_
  refine keepRC_r2 la lc l m hl hm0 b7 H aa nn  ?_
  clear H nn
  intro aa ww nn dd1 kp ss6 H
  replace ss0 := (kp 0 rfl).trans ss0
  replace ss1 := (kp 1 rfl).trans ss1
  replace ss4 := (kp 4 rfl).trans ss4
  replace ss5 := (kp 5 rfl).trans ss5
  replace dd := dd1.trans dd
  clear dd1 kp
  refine then_normal ?_
  refine hK4 _ _ ?_
  refine wp_block ?_
  refine wp_loop (fun ab wv => ∃ i : Nat, ∃ ad : Option Addr, ∃ cd : Nat, i ≤ l.length ∧ ab.tmps.size = 30 ∧ ab.defers = [] ∧ ab.eval (.tmp 0) = .slice la l.length lc ∧ ab.eval (.tmp 1) = .int .i64 m ∧ ab.eval (.tmp 4) = .slice none 0 0 ∧ ab.eval (.tmp 5) = .slice ad (((l.take i).filter (keptV m)).length) cd ∧ ab.eval (.tmp 6) = .int .i64 i ∧ Hid (Hp [] w wv [rA ad cd 124 2 (((l.take i).filter (keptV m)).map rowOf), rS la lc 2 (l.map rowOf)])) (fun ab _ => l.length - (intOf (ab.eval (.tmp 6))).toNat) ⟨0, (some ⟨b7, 0, none⟩), 0, (Nat.zero_le _), nn, dd, ss0, ss1, ss4, ss5, ss6, H⟩ (fun aa wv hI => ?_)
  clear H nn dd ss0 ss1 ss4 ss5 ss6
  obtain ⟨i, ad, cd, hi, nn, dd, ss0, ss1, ss4, ss5, ss6, H⟩ := hI
  have mu1_6 := ss6
  refine wp_seq_k fun KK5 hK5 => ?_
  refine wp_seq_k fun KK6 hK6 => ?_
  refine keepRC_r3 la lc l m hl hm0 i ad cd hi H aa nn ss0 ss6 ?_
  clear H nn
  intro aa ww nn dd1 kp ss11 H
  replace ss0 := (kp 0 rfl).trans ss0
  replace ss1 := (kp 1 rfl).trans ss1
  replace ss4 := (kp 4 rfl).trans ss4
  replace ss5 := (kp 5 rfl).trans ss5
  replace ss6 := (kp 6 rfl).trans ss6
  replace dd := dd1.trans dd
  clear dd1 kp
  refine then_normal ?_
  refine hK6 _ _ ?_
  refine wp_cond_split ss11 (fun z1 => ?_) (fun z1 => ?_)
  · skip
    have z1d : i < l.length := of_decide_eq_true z1
    obtain ⟨y, rfl⟩ := some_of_row (hp_held H (show rS la lc 2 (l.map rowOf) ∈ _ by simp)) (i := i) (by simp; omega)
    obtain ⟨x, hx⟩ : ∃ x, l[i]? = some x := ⟨l[i], List.getElem?_eq_getElem (by omega)⟩
    have HRx := Lib.hid (show (l.map rowOf)[i]? = some [.string x.1, .int .i64 x.2] by rw [List.getElem?_map, hx]; rfl)
    have HXx := Lib.hid hx
    clear hx
    have hcl := take_le l (keptV m) i
    refine wp_skip ?_
    refine then_normal ?_
    refine hK5 _ _ ?_
    refine wp_seq_k fun KK7 hK7 => ?_
    refine wp_block ?_
    refine wp_seq_k fun KK8 hK8 => ?_
    refine keepRC_r5 lc l m hl hm0 i ad cd hi z1d y x HRx hcl H aa nn ss0 ss1 ss6 ?_
    clear H nn
    intro aa ww nn dd1 kp ss21 H
    replace ss0 := (kp 0 rfl).trans ss0
    replace ss1 := (kp 1 rfl).trans ss1
    replace ss4 := (kp 4 rfl).trans ss4
    replace ss5 := (kp 5 rfl).trans ss5
    replace ss6 := (kp 6 rfl).trans ss6
    replace ss11 := (kp 11 rfl).trans ss11
    replace dd := dd1.trans dd
    clear dd1 kp
    refine then_normal ?_
    refine hK8 _ _ ?_
    refine wp_cond_split ss21 (fun z2 => ?_) (fun z2 => ?_)
    · skip
      have z2o : ((x.2.tmod m) != 0) = false := eqq_t z2
      refine keepRC_r6 lc l m hl hm0 i ad cd hi z1d y x HRx hcl H aa nn ss0 ss5 ss6 ?_
      clear H nn ss5
      intro b27 a28 c28 aa ww nn dd1 kp ss5 H
      replace ss0 := (kp 0 rfl).trans ss0
      replace ss1 := (kp 1 rfl).trans ss1
      replace ss4 := (kp 4 rfl).trans ss4
      replace ss6 := (kp 6 rfl).trans ss6
      replace ss11 := (kp 11 rfl).trans ss11
      replace ss21 := (kp 21 rfl).trans ss21
      replace dd := dd1.trans dd
      clear dd1 kp
      refine block_normal ?_
      refine then_normal ?_
      refine hK7 _ _ ?_
      refine keepRC_r4 lc l m hl hm0 i hi z1d y x hcl b27 a28 c28 H aa nn ss6 ?_
      clear H nn ss6
      intro aa ww nn dd1 kp ss6 H
      replace ss0 := (kp 0 rfl).trans ss0
      replace ss1 := (kp 1 rfl).trans ss1
      replace ss4 := (kp 4 rfl).trans ss4
      replace ss5 := (kp 5 rfl).trans ss5
      replace ss11 := (kp 11 rfl).trans ss11
      replace ss21 := (kp 21 rfl).trans ss21
      replace dd := dd1.trans dd
      clear dd1 kp
      refine then_normal ?_
      have hT := take_yes (f := keptV m) HXx.out z2
      rw [← hT] at ss5 H
      replace H := hp_front H 2 rfl
      replace H := hp_front H 2 rfl
      refine ⟨⟨i + 1, a28, c28, (by omega), nn, dd, ss0, ss1, ss4, ss5, ss6, (hp_take H 2)⟩, ?_⟩
      simp only [mu1_6, ss6, intOf]
      omega
    · skip
      have z2o : ((x.2.tmod m) != 0) = true := eqq_f z2
      refine wp_skip ?_
      refine block_normal ?_
      refine then_normal ?_
      refine hK7 _ _ ?_
      refine keepRC_r4x1 lc l m hl hm0 i ad cd hi z1d y hcl H aa nn ss6 ?_
      clear H nn ss6
      intro aa ww nn dd1 kp ss6 H
      replace ss0 := (kp 0 rfl).trans ss0
      replace ss1 := (kp 1 rfl).trans ss1
      replace ss4 := (kp 4 rfl).trans ss4
      replace ss5 := (kp 5 rfl).trans ss5
      replace ss11 := (kp 11 rfl).trans ss11
      replace ss21 := (kp 21 rfl).trans ss21
      replace dd := dd1.trans dd
      clear dd1 kp
      refine then_normal ?_
      have hT := take_no (f := keptV m) HXx.out z2
      rw [← hT] at ss5 H
      replace H := hp_front H 1 rfl
      replace H := hp_front H 1 rfl
      refine ⟨⟨i + 1, ad, cd, (by omega), nn, dd, ss0, ss1, ss4, ss5, ss6, (hp_take H 2)⟩, ?_⟩
      simp only [mu1_6, ss6, intOf]
      omega
  · skip
    have z1d : ¬ (i < l.length) := of_decide_eq_false z1
    obtain rfl : i = l.length := by omega
    rw [List.take_length] at ss5 H
    refine wp_exit ?_
    refine then_exit ?_
    refine then_exit ?_
    refine block_exit ?_
    refine then_normal ?_
    refine hK3 _ _ ?_
    refine wp_seq_k fun KK9 hK9 => ?_
    refine keepRC_r7 la lc l m hl hm0 ad cd hi H aa nn ss5 ?_
    clear H nn ss4
    intro aa ww nn dd1 kp ss4 H
    replace ss0 := (kp 0 rfl).trans ss0
    replace ss1 := (kp 1 rfl).trans ss1
    replace ss5 := (kp 5 rfl).trans ss5
    replace ss6 := (kp 6 rfl).trans ss6
    replace ss11 := (kp 11 rfl).trans ss11
    replace dd := dd1.trans dd
    clear dd1 kp
    refine then_normal ?_
    refine hK9 _ _ ?_
    refine wp_ret ?_
    exact ret1 rfl dd ss4 (by obtain ⟨g1, g2, g3⟩ := hp_giveA H (show rA ad cd 124 2 ((l.filter (keptV m)).map rowOf) ∈ _ by (repeat (first | exact List.Mem.head _ | apply List.Mem.tail))); exact ⟨_, _, rfl, g1, g2, g3⟩)
end Go.Proofs.Ytfhhfmkfkoemjaa.Si6
