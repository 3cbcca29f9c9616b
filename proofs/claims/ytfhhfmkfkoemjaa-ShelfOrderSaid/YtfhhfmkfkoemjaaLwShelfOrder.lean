/- The order in which pairs come plays no part: the walk. -/
import Derived.Test.YtfhhfmkfkoemjaaProg
import Derived.Below
import Derived.WalkKit
import Derived.KernelRfl
import Derived.RowKit3
import Derived.Deep.LoopGhost
import Derived.Deep.QuietTactic
import Derived.BigQuiet
import Derived.WideLaws
import Derived.Deep.DeepCutAuto
import Derived.Deep.CutBlock
import Derived.Lib.Hide
import Derived.Laws.BitsLemmas
import Derived.Laws.Bits64
import Derived.Laws.BitsAllLaws
import Derived.IntWalk
import Derived.Outline
import Derived.WalkSpells
import Derived.Test.YtfhhfmkfkoemjaaMem
import Derived.Test.YtfhhfmkfkoemjaaSo6
import Derived.Test.YtfhhfmkfkoemjaaRegS
namespace Go.Proofs.Ytfhhfmkfkoemjaa.Si6
open Go.RowKit Go.Proofs.Ytfhhfmkfkoemjaa.Mem Go.Proofs.Ytfhhfmkfkoemjaa.Reg
set_option linter.unusedVariables false
set_option linter.unusedSimpArgs false

def kRow (k : KeyV) : List Value := [.string k]
def pickRow (k : Int) : List Value := [.int .i64 k]
theorem newF (w : World) : Calls Try.prog 26 #[.int .i64 40] w fun e w' => e = .returned (.agg #[.int .i64 40, .slice none 0 0]) ∧ Off [] w w' := by
  have := newC 40 w
  rwa [if_neg (by omega)] at this
theorem few_add {ks : List KeyV} (h : ks.length ≤ 40) : (addAll ks).length ≤ 1000000 := by
  have := (add_all ks _ rfl h).2.1
  omega
theorem withAdd (a : Option Addr) (c : Nat) (qs : List KeyV) (k : KeyV) (w : World) (h : (rS a c 2 ((addAll qs).map rowOf)).holds w) (hl : qs.length < 40) :
    Calls Try.prog 27 #[.agg #[.int .i64 40, .slice a (addAll qs).length c], .string k, .int .i64 k.size] w fun e w' => ∃ a' c', e = .returned (.tuple #[.agg #[.int .i64 40, .slice a' (addAll (qs ++ [k])).length c'], .bool true]) ∧ Gives w w' [rS a c 2 ((addAll qs).map rowOf)] a' c' (addAll (qs ++ [k])) := by
  have h1 := withC 40 a c (addAll qs) k k.size w h (add_all qs _ rfl (by omega)).1 (few_add (by omega))
  rw [add_is hl k] at h1
  rw [addAll_snoc]
  exact h1
theorem getAdd (a : Option Addr) (c : Nat) (ks : List KeyV) (p : PairV) (w : World) (h : (rS a c 2 ((addAll ks).map rowOf)).holds w) (hl : ks.length ≤ 40) {i : Nat} (hp : (addAll ks)[i]? = some p) :
    Calls Try.prog 29 #[.agg #[.int .i64 40, .slice a (addAll ks).length c], .string p.1] w fun e w' => e = .returned (.tuple #[.int .i64 p.1.size, .bool true]) ∧ Off [] w w' := by
  have h1 := getC 40 a c (addAll ks) p.1 w h (add_all ks _ rfl hl).1 (few_add hl)
  rw [add_get hl hp] at h1
  exact h1
theorem equalAdd (a : Option Addr) (c : Nat) (b : Option Addr) (d : Nat) (ks : List KeyV) (w : World) (h : (rS a c 2 ((addAll ks).map rowOf)).holds w) (h2 : (rS b d 2 ((addAll ks).map rowOf)).holds w) (hl : ks.length ≤ 40) :
    Calls Try.prog 30 #[.agg #[.int .i64 40, .slice a (addAll ks).length c], .agg #[.int .i64 40, .slice b (addAll ks).length d]] w fun e w' => e = .returned (.bool true) ∧ Off [] w w' := by
  have h1 := equalC 40 40 a b c d (addAll ks) (addAll ks) w h h2 (few_add hl) (few_add hl)
  simpa using h1
theorem perm_cut {ks qs rest : List KeyV} {i : Nat} {k : KeyV} (h : ks.Perm (qs ++ rest)) (hk : rest[i]? = some k) : ks.Perm ((qs ++ [k]) ++ (([] ++ rest.take i) ++ rest.drop (i + 1))) := by
  refine h.trans ?_
  obtain ⟨hi, rfl⟩ := List.getElem?_eq_some_iff.1 hk
  rw [List.append_assoc]
  refine List.Perm.append_left qs ?_
  have h1 : rest = rest.take i ++ rest[i] :: rest.drop (i + 1) := by rw [List.getElem_cons_drop, List.take_append_drop]
  exact (List.Perm.of_eq h1).trans List.perm_middle
theorem cut_len {rest : List KeyV} {i : Nat} (h : i < rest.length) : (([] ++ rest.take i) ++ rest.drop (i + 1)).length + 1 = rest.length := by simp; omega
theorem less_key {ks : List KeyV} (h40 : ks.length ≤ 40) {i : Nat} {p r : PairV} (hp : (addAll ks)[i]? = some p) (hr : (addAll ks)[i + 1]? = some r) : Op.bytesLess p.1.toList r.1.toList = true := add_less h40 hp hr
theorem mod_at (x : Int) {n : Nat} (h0 : 0 < n) (h1 : n ≤ 40) : ∃ m : Nat, m < n ∧ IntKind.i64.wrap ((IntKind.u64.wrap x).tmod (n : Int)) = (m : Int) := by
  obtain ⟨h3, h4⟩ := rest_is x n (by omega) (by omega)
  refine ⟨((IntKind.u64.wrap x).tmod n).toNat, by omega, ?_⟩
  rw [IntWalk.i64_in _ (by omega)]
  omega
theorem take_next {ks qs : List KeyV} {i : Nat} {k : KeyV} (h : qs = ks.take i) (hk : ks[i]? = some k) : qs ++ [k] = ks.take (i + 1) := by
  rw [h, List.take_add_one, hk]
  rfl
set_option maxRecDepth 20000 in
theorem order_w_r0 (ka : Option Addr) (kc : Nat) (ks : List KeyV) (pa : Option Addr) (pc : Nat) (ps : List Int) {wa wb : World} (H : Hid (Hp [] wa wb [rS none 0 2 ((addAll []).map rowOf), rS none 0 2 (([] : List PairV).map rowOf), rS pa pc 1 (ps.map pickRow), rS ka kc 1 (ks.map kRow)])) (ac0 : Act) (hz : ac0.tmps.size = 146)  {QR : Exit → Act → World → Prop} (hfin : ∀ (ac1 : Act) (wz : World), ac1.tmps.size = 146 → ac1.defers = ac0.defers → (∀ t, ([4] : List Nat).contains t = false → ac1.eval (.tmp t) = ac0.eval (.tmp t)) → ac1.eval (.tmp 4) = .bool false →  Hid (Hp [] wa wz [rS none 0 2 ((addAll []).map rowOf), rS none 0 2 (([] : List PairV).map rowOf), rS pa pc 1 (ps.map pickRow), rS ka kc 1 (ks.map kRow)]) → QR .normal ac1 wz) : (regAt Try.f5 0).wp Try.prog QR ac0 wb := by
  refine wp_region_sq (by kernel_rfl) 146 hz (by kernel_rfl) (fun (xx : Unit) jx => nth [.bool false] jx) (fun (LL : Nat → Bool) (xx : Unit) ww => Hp [] wa ww [rS none 0 2 ((addAll []).map rowOf), rS none 0 2 (([] : List PairV).map rowOf), rS pa pc 1 (ps.map pickRow), rS ka kc 1 (ks.map kRow)]) () H.out ?_ (steps_al ?_) ?_ ?_
  · exact fun _ _ _ _ _ h => h
  · refine al_cons ?_ (al_nil)
    · intro LL xx ac wc sg hst hwant QQ hgo
      exact op_val hwant hgo hst _ (exec_assign rfl rfl) rfl
  · exact skips [] (by kernel_rfl) (fun _ h => by cases h)
  · intro xx ac1 wz hfr hsl hst
    exact hfin ac1 wz (hfr.size.trans hz) hfr.defers (fr_keep hfr [4] (by kernel_rfl)) (hsl 0 (by decide)) (Lib.hid hst)
set_option maxRecDepth 20000 in
theorem order_w_r1 (ka : Option Addr) (kc : Nat) (ks : List KeyV) (pa : Option Addr) (pc : Nat) (ps : List Int) {wa wb : World} (H : Hid (Hp [] wa wb [rS none 0 2 ((addAll []).map rowOf), rS none 0 2 (([] : List PairV).map rowOf), rS pa pc 1 (ps.map pickRow), rS ka kc 1 (ks.map kRow)])) (ac0 : Act) (hz : ac0.tmps.size = 146)  {QR : Exit → Act → World → Prop} (hfin : ∀ (ac1 : Act) (wz : World), ac1.tmps.size = 146 → ac1.defers = ac0.defers → (∀ t, ([17, 18] : List Nat).contains t = false → ac1.eval (.tmp t) = ac0.eval (.tmp t)) → ac1.eval (.tmp 18) = .bool false →  Hid (Hp [] wa wz [rS none 0 2 ((addAll []).map rowOf), rS none 0 2 (([] : List PairV).map rowOf), rS pa pc 1 (ps.map pickRow), rS ka kc 1 (ks.map kRow)]) → QR .normal ac1 wz) : (regAt Try.f5 1).wp Try.prog QR ac0 wb := by
  refine wp_region_sq (by kernel_rfl) 146 hz (by kernel_rfl) (fun (xx : Unit) jx => nth [.bool true, .bool false] jx) (fun (LL : Nat → Bool) (xx : Unit) ww => Hp [] wa ww [rS none 0 2 ((addAll []).map rowOf), rS none 0 2 (([] : List PairV).map rowOf), rS pa pc 1 (ps.map pickRow), rS ka kc 1 (ks.map kRow)]) () H.out ?_ (steps_al ?_) ?_ ?_
  · exact fun _ _ _ _ _ h => h
  · refine al_cons ?_ (al_cons ?_ (al_nil))
    · intro LL xx ac wc sg hst hwant QQ hgo
      refine op_call hwant hgo 25 _ (by simp only [execOp]; go_simp) (awake6 wc) ?_
      rintro er wd ⟨rfl, hof⟩
      exact ⟨_, (), rfl, fun _ _ => rfl, rfl, Hp.quiet hst hof⟩
    · intro LL xx ac wc sg hst hwant QQ hgo
      have se17 : ac.eval (.tmp 17) = _ := (sg.slot 0 (sg.anc 0 rfl))
      have sg17 := gt_of se17
      (try simp only [nth] at se17 sg17)
      exact op_val hwant hgo hst _ (by simp only [execOp, nth]; go_simp <;> omega) rfl
  · exact skips [] (by kernel_rfl) (fun _ h => by cases h)
  · intro xx ac1 wz hfr hsl hst
    exact hfin ac1 wz (hfr.size.trans hz) hfr.defers (fr_keep hfr [17, 18] (by kernel_rfl)) (hsl 1 (by decide)) (Lib.hid hst)
set_option maxRecDepth 20000 in
theorem order_w_r3 (ka : Option Addr) (kc : Nat) (ks : List KeyV) (pa : Option Addr) (pc : Nat) (ps : List Int) {wa wb : World} (H : Hid (Hp [] wa wb [rS none 0 2 ((addAll []).map rowOf), rS none 0 2 (([] : List PairV).map rowOf), rS pa pc 1 (ps.map pickRow), rS ka kc 1 (ks.map kRow)])) (ac0 : Act) (hz : ac0.tmps.size = 146) (so0 : ac0.eval (.tmp 0) = .slice ka ks.length kc) {QR : Exit → Act → World → Prop} (hfin : ∀ (ac1 : Act) (wz : World), ac1.tmps.size = 146 → ac1.defers = ac0.defers → (∀ t, ([19, 20, 21] : List Nat).contains t = false → ac1.eval (.tmp t) = ac0.eval (.tmp t)) → ac1.eval (.tmp 21) = .bool (decide (40 < (ks.length : Int))) →  Hid (Hp [] wa wz [rS none 0 2 ((addAll []).map rowOf), rS none 0 2 (([] : List PairV).map rowOf), rS pa pc 1 (ps.map pickRow), rS ka kc 1 (ks.map kRow)]) → QR .normal ac1 wz) : (regAt Try.f5 3).wp Try.prog QR ac0 wb := by
  refine wp_region_sq (by kernel_rfl) 146 hz (by kernel_rfl) (fun (xx : Unit) jx => nth [.slice ka ks.length kc, .int .i64 ks.length, .bool (decide (40 < (ks.length : Int)))] jx) (fun (LL : Nat → Bool) (xx : Unit) ww => Hp [] wa ww [rS none 0 2 ((addAll []).map rowOf), rS none 0 2 (([] : List PairV).map rowOf), rS pa pc 1 (ps.map pickRow), rS ka kc 1 (ks.map kRow)]) () H.out ?_ (steps_al ?_) ?_ ?_
  · exact fun _ _ _ _ _ h => h
  · refine al_cons ?_ (al_cons ?_ (al_cons ?_ (al_nil)))
    · intro LL xx ac wc sg hst hwant QQ hgo
      exact op_val hwant hgo hst _ (exec_move rfl ((sg.free 0 (by kernel_rfl)).trans so0)) rfl
    · intro LL xx ac wc sg hst hwant QQ hgo
      have se19 : ac.eval (.tmp 19) = _ := (sg.slot 0 (sg.anc 0 rfl))
      have sg19 := gt_of se19
      (try simp only [nth] at se19 sg19)
      exact op_val hwant hgo hst _ (by simp only [execOp, nth]; go_simp <;> omega) rfl
    · intro LL xx ac wc sg hst hwant QQ hgo
      have se20 : ac.eval (.tmp 20) = _ := (sg.slot 1 (sg.anc 1 rfl))
      have sg20 := gt_of se20
      (try simp only [nth] at se20 sg20)
      exact op_val hwant hgo hst _ (by simp only [execOp, nth]; go_simp <;> omega) rfl
  · exact skips [] (by kernel_rfl) (fun _ h => by cases h)
  · intro xx ac1 wz hfr hsl hst
    exact hfin ac1 wz (hfr.size.trans hz) hfr.defers (fr_keep hfr [19, 20, 21] (by kernel_rfl)) (hsl 2 (by decide)) (Lib.hid hst)
set_option maxRecDepth 20000 in
theorem order_w_r4 (ka : Option Addr) (kc : Nat) (ks : List KeyV) (pa : Option Addr) (pc : Nat) (ps : List Int) (z1d : 40 < (ks.length : Int)) {wa wb : World} (H : Hid (Hp [] wa wb [rS none 0 2 ((addAll []).map rowOf), rS none 0 2 (([] : List PairV).map rowOf), rS pa pc 1 (ps.map pickRow), rS ka kc 1 (ks.map kRow)])) (ac0 : Act) (hz : ac0.tmps.size = 146)  {QR : Exit → Act → World → Prop} (hfin : ∀ (ac1 : Act) (wz : World), ac1.tmps.size = 146 → ac1.defers = ac0.defers → (∀ t, ([4] : List Nat).contains t = false → ac1.eval (.tmp t) = ac0.eval (.tmp t)) → ac1.eval (.tmp 4) = .bool true →  Hid (Hp [] wa wz [rS none 0 2 ((addAll []).map rowOf), rS none 0 2 (([] : List PairV).map rowOf), rS pa pc 1 (ps.map pickRow), rS ka kc 1 (ks.map kRow)]) → QR .normal ac1 wz) : (regAt Try.f5 4).wp Try.prog QR ac0 wb := by
  refine wp_region_sq (by kernel_rfl) 146 hz (by kernel_rfl) (fun (xx : Unit) jx => nth [.bool true] jx) (fun (LL : Nat → Bool) (xx : Unit) ww => Hp [] wa ww [rS none 0 2 ((addAll []).map rowOf), rS none 0 2 (([] : List PairV).map rowOf), rS pa pc 1 (ps.map pickRow), rS ka kc 1 (ks.map kRow)]) () H.out ?_ (steps_al ?_) ?_ ?_
  · exact fun _ _ _ _ _ h => h
  · refine al_cons ?_ (al_nil)
    · intro LL xx ac wc sg hst hwant QQ hgo
      exact op_val hwant hgo hst _ (exec_assign rfl rfl) rfl
  · exact skips [] (by kernel_rfl) (fun _ h => by cases h)
  · intro xx ac1 wz hfr hsl hst
    exact hfin ac1 wz (hfr.size.trans hz) hfr.defers (fr_keep hfr [4] (by kernel_rfl)) (hsl 0 (by decide)) (Lib.hid hst)
set_option maxRecDepth 20000 in
theorem order_w_r5 (ka : Option Addr) (kc : Nat) (ks : List KeyV) (pa : Option Addr) (pc : Nat) (ps : List Int) (z1d : ¬ (40 < (ks.length : Int))) (h40 : ks.length ≤ 40) {wa wb : World} (H : Hid (Hp [] wa wb [rS none 0 2 ((addAll []).map rowOf), rS none 0 2 (([] : List PairV).map rowOf), rS pa pc 1 (ps.map pickRow), rS ka kc 1 (ks.map kRow)])) (ac0 : Act) (hz : ac0.tmps.size = 146)  {QR : Exit → Act → World → Prop} (hfin : ∀ (b5 : Nat) (ac1 : Act) (wz : World), ac1.tmps.size = 146 → ac1.defers = ac0.defers → (∀ t, ([5, 22] : List Nat).contains t = false → ac1.eval (.tmp t) = ac0.eval (.tmp t)) → ac1.eval (.tmp 5) = .pointer (some ⟨b5, 0, none⟩) →  Hid (Hp [] wa wz [rB b5 43 [.int .i64 40, .slice none 0 0], rS none 0 2 ((addAll []).map rowOf), rS none 0 2 (([] : List PairV).map rowOf), rS pa pc 1 (ps.map pickRow), rS ka kc 1 (ks.map kRow)]) → QR .normal ac1 wz) : (regAt Try.f5 5).wp Try.prog QR ac0 wb := by
  refine wp_region_sq (by kernel_rfl) 146 hz (by kernel_rfl) (fun (xx : Nat) jx => match xx with | b5 => nth [.agg #[.int .i64 40, .slice none 0 0], .pointer (some ⟨b5, 0, none⟩), undef] jx) (fun (LL : Nat → Bool) (xx : Nat) ww => match xx with | b5 => Hp [] wa ww (bif LL 2 then [rB b5 43 [.int .i64 40, .slice none 0 0], rS none 0 2 ((addAll []).map rowOf), rS none 0 2 (([] : List PairV).map rowOf), rS pa pc 1 (ps.map pickRow), rS ka kc 1 (ks.map kRow)] else (bif LL 1 then [rB b5 43 [.int .i64 0, .slice none 0 0], rS none 0 2 ((addAll []).map rowOf), rS none 0 2 (([] : List PairV).map rowOf), rS pa pc 1 (ps.map pickRow), rS ka kc 1 (ks.map kRow)] else [rS none 0 2 ((addAll []).map rowOf), rS none 0 2 (([] : List PairV).map rowOf), rS pa pc 1 (ps.map pickRow), rS ka kc 1 (ks.map kRow)]))) default H.out ?_ (steps_al ?_) ?_ ?_
  · intro L1 L2 xx ww hL sg
    have lh1 := hL 1 (by decide)
    have lh2 := hL 2 (by decide)
    simp only [lh1, lh2] at sg
    exact sg
  · refine al_cons ?_ (al_cons ?_ (al_cons ?_ (al_nil)))
    · intro LL xx ac wc sg hst hwant QQ hgo
      revert sg hst hgo; revert xx; intro b5 sg hst hgo
      refine op_call hwant hgo 26 _ (by simp only [execOp]; go_simp) (newF wc) ?_
      rintro er wd ⟨rfl, hof⟩
      exact ⟨_, b5, rfl, fun _ _ => rfl, rfl, Hp.quiet hst hof⟩
    · intro LL xx ac wc sg hst hwant QQ hgo
      revert sg hst hgo; revert xx; intro xold sg hst hgo
      have H := Lib.hid hst
      simp only [sg.self, sg.des 2 rfl, cond_true, cond_false] at H
      refine hpA_alloc tyshelf_Shelf_string__int_ H rfl rfl ?_
      intro wd b5 H2
      exact hgo _ b5 _ (sg.agree (x' := b5) (n := 3) rfl (by (iterate 3 (refine ix_cons (by first | exact fun _ => rfl | exact no sg.self | exact no (sg.des _ rfl)) ?_)); exact ix_nil)) rfl (by simp only [(show upd LL 1 1 = true from rfl), (show upd LL 1 2 = LL 2 from rfl), sg.des 2 rfl, cond_true, cond_false]; exact H2.out)
    · intro LL xx ac wc sg hst hwant QQ hgo
      revert sg hst hgo; revert xx; intro b5 sg hst hgo
      have H := Lib.hid hst
      simp only [sg.anc 1 rfl, sg.self, cond_true, cond_false] at H
      refine hpA_store tyshelf_Shelf_string__int_ H rfl rfl (sg.slot 1 (sg.anc 1 rfl)) (sg.slot 0 (sg.anc 0 rfl)) rfl (by repeat (first | apply Put.head | apply Put.tail)) (by simp [List.length_cons]) (by simp [List.length_cons, Value.oneCell']) (by first | rfl | (simp only [spl]; rfl)) rfl ?_
      intro wd H2
      exact hgo _ b5 _ (sg.agree (x' := b5) (n := 3) rfl (by (iterate 3 (refine ix_cons (by first | exact fun _ => rfl | exact no sg.self | exact no (sg.des _ rfl)) ?_)); exact ix_nil)) rfl (by simp only [(show upd LL 2 1 = LL 1 from rfl), sg.anc 1 rfl, (show upd LL 2 2 = true from rfl), cond_true, cond_false]; exact H2.out)
  · exact skips [] (by kernel_rfl) (fun _ h => by cases h)
  · intro xx ac1 wz hfr hsl hst
    revert hsl hst; revert xx; intro b5 hsl hst
    exact hfin b5 ac1 wz (hfr.size.trans hz) hfr.defers (fr_keep hfr [5, 22] (by kernel_rfl)) (hsl 1 (by decide)) (Lib.hid hst)
set_option maxRecDepth 20000 in
theorem order_w_r6 (ka : Option Addr) (kc : Nat) (ks : List KeyV) (pa : Option Addr) (pc : Nat) (ps : List Int) (z1d : ¬ (40 < (ks.length : Int))) (h40 : ks.length ≤ 40) (b5 : Nat) {wa wb : World} (H : Hid (Hp [] wa wb [rB b5 43 [.int .i64 40, .slice none 0 0], rS none 0 2 ((addAll []).map rowOf), rS none 0 2 (([] : List PairV).map rowOf), rS pa pc 1 (ps.map pickRow), rS ka kc 1 (ks.map kRow)])) (ac0 : Act) (hz : ac0.tmps.size = 146)  {QR : Exit → Act → World → Prop} (hfin : ∀ (ac1 : Act) (wz : World), ac1.tmps.size = 146 → ac1.defers = ac0.defers → (∀ t, ([6] : List Nat).contains t = false → ac1.eval (.tmp t) = ac0.eval (.tmp t)) → ac1.eval (.tmp 6) = .int .i64 0 →  Hid (Hp [] wa wz [rB b5 43 [.int .i64 40, .slice none 0 0], rS none 0 2 ((addAll []).map rowOf), rS none 0 2 (([] : List PairV).map rowOf), rS pa pc 1 (ps.map pickRow), rS ka kc 1 (ks.map kRow)]) → QR .normal ac1 wz) : (regAt Try.f5 6).wp Try.prog QR ac0 wb := by
  refine wp_region_sq (by kernel_rfl) 146 hz (by kernel_rfl) (fun (xx : Unit) jx => nth [.int .i64 0] jx) (fun (LL : Nat → Bool) (xx : Unit) ww => Hp [] wa ww [rB b5 43 [.int .i64 40, .slice none 0 0], rS none 0 2 ((addAll []).map rowOf), rS none 0 2 (([] : List PairV).map rowOf), rS pa pc 1 (ps.map pickRow), rS ka kc 1 (ks.map kRow)]) () H.out ?_ (steps_al ?_) ?_ ?_
  · exact fun _ _ _ _ _ h => h
  · refine al_cons ?_ (al_nil)
    · intro LL xx ac wc sg hst hwant QQ hgo
      exact op_val hwant hgo hst _ (exec_assign rfl rfl) rfl
  · exact skips [] (by kernel_rfl) (fun _ h => by cases h)
  · intro xx ac1 wz hfr hsl hst
    exact hfin ac1 wz (hfr.size.trans hz) hfr.defers (fr_keep hfr [6] (by kernel_rfl)) (hsl 0 (by decide)) (Lib.hid hst)
set_option maxRecDepth 20000 in
theorem order_w_r7 (ka : Option Addr) (kc : Nat) (ks : List KeyV) (pa : Option Addr) (pc : Nat) (ps : List Int) (z1d : ¬ (40 < (ks.length : Int))) (h40 : ks.length ≤ 40) (b5 : Nat) (i0 : Nat) (a : Option Addr) (cc : Nat) (q0 : List KeyV) (hi : i0 ≤ ks.length) (hq0 : q0.length = i0) {wa wb : World} (H : Hid (Hp [] wa wb [rB b5 43 [.int .i64 40, .slice a ((addAll q0).length) cc], rS a cc 2 ((addAll q0).map rowOf), rS none 0 2 (([] : List PairV).map rowOf), rS pa pc 1 (ps.map pickRow), rS ka kc 1 (ks.map kRow)])) (ac0 : Act) (hz : ac0.tmps.size = 146) (so0 : ac0.eval (.tmp 0) = .slice ka ks.length kc) (so6 : ac0.eval (.tmp 6) = .int .i64 i0) {QR : Exit → Act → World → Prop} (hfin : ∀ (ac1 : Act) (wz : World), ac1.tmps.size = 146 → ac1.defers = ac0.defers → (∀ t, ([23, 24, 25, 26] : List Nat).contains t = false → ac1.eval (.tmp t) = ac0.eval (.tmp t)) → ac1.eval (.tmp 26) = .bool (decide (i0 < ks.length)) →  Hid (Hp [] wa wz [rB b5 43 [.int .i64 40, .slice a ((addAll q0).length) cc], rS a cc 2 ((addAll q0).map rowOf), rS none 0 2 (([] : List PairV).map rowOf), rS pa pc 1 (ps.map pickRow), rS ka kc 1 (ks.map kRow)]) → QR .normal ac1 wz) : (regAt Try.f5 7).wp Try.prog QR ac0 wb := by
  refine wp_region_sq (by kernel_rfl) 146 hz (by kernel_rfl) (fun (xx : Unit) jx => nth [.int .i64 i0, .slice ka ks.length kc, .int .i64 ks.length, .bool (decide (i0 < ks.length))] jx) (fun (LL : Nat → Bool) (xx : Unit) ww => Hp [] wa ww [rB b5 43 [.int .i64 40, .slice a ((addAll q0).length) cc], rS a cc 2 ((addAll q0).map rowOf), rS none 0 2 (([] : List PairV).map rowOf), rS pa pc 1 (ps.map pickRow), rS ka kc 1 (ks.map kRow)]) () H.out ?_ (steps_al ?_) ?_ ?_
  · exact fun _ _ _ _ _ h => h
  · refine al_cons ?_ (al_cons ?_ (al_cons ?_ (al_cons ?_ (al_nil))))
    · intro LL xx ac wc sg hst hwant QQ hgo
      exact op_val hwant hgo hst _ (exec_move rfl ((sg.free 6 (by kernel_rfl)).trans so6)) rfl
    · intro LL xx ac wc sg hst hwant QQ hgo
      exact op_val hwant hgo hst _ (exec_move rfl ((sg.free 0 (by kernel_rfl)).trans so0)) rfl
    · intro LL xx ac wc sg hst hwant QQ hgo
      have se24 : ac.eval (.tmp 24) = _ := (sg.slot 1 (sg.anc 1 rfl))
      have sg24 := gt_of se24
      (try simp only [nth] at se24 sg24)
      exact op_val hwant hgo hst _ (by simp only [execOp, nth]; go_simp <;> omega) rfl
    · intro LL xx ac wc sg hst hwant QQ hgo
      have se23 : ac.eval (.tmp 23) = _ := (sg.slot 0 (sg.anc 0 rfl))
      have sg23 := gt_of se23
      have se25 : ac.eval (.tmp 25) = _ := (sg.slot 2 (sg.anc 2 rfl))
      have sg25 := gt_of se25
      (try simp only [nth] at se23 sg23 se25 sg25)
      exact op_val hwant hgo hst _ (by simp only [execOp, nth]; go_simp <;> omega) rfl
  · exact skips [] (by kernel_rfl) (fun _ h => by cases h)
  · intro xx ac1 wz hfr hsl hst
    exact hfin ac1 wz (hfr.size.trans hz) hfr.defers (fr_keep hfr [23, 24, 25, 26] (by kernel_rfl)) (hsl 3 (by decide)) (Lib.hid hst)
set_option maxRecDepth 20000 in
theorem order_w_r9 (kc : Nat) (ks : List KeyV) (pa : Option Addr) (pc : Nat) (ps : List Int) (z1d : ¬ (40 < (ks.length : Int))) (h40 : ks.length ≤ 40) (b5 : Nat) (i0 : Nat) (a : Option Addr) (cc : Nat) (q0 : List KeyV) (hi : i0 ≤ ks.length) (hq0 : q0.length = i0) (z2d : i0 < ks.length) (y : Addr) (k0 : KeyV) (HRk0 : Hid ((ks.map kRow)[i0]? = some [.string k0])) {wa wb : World} (H : Hid (Hp [] wa wb [rB b5 43 [.int .i64 40, .slice a ((addAll q0).length) cc], rS a cc 2 ((addAll q0).map rowOf), rS none 0 2 (([] : List PairV).map rowOf), rS pa pc 1 (ps.map pickRow), rS (some y) kc 1 (ks.map kRow)])) (ac0 : Act) (hz : ac0.tmps.size = 146) (so0 : ac0.eval (.tmp 0) = .slice (some y) ks.length kc) (so6 : ac0.eval (.tmp 6) = .int .i64 i0) {QR : Exit → Act → World → Prop} (hfin : ∀ (ac1 : Act) (wz : World), ac1.tmps.size = 146 → ac1.defers = ac0.defers → (∀ t, ([29, 30, 31, 32, 33, 34] : List Nat).contains t = false → ac1.eval (.tmp t) = ac0.eval (.tmp t)) → ac1.eval (.tmp 34) = .bool (decide (10 < (k0.size : Int))) →  Hid (Hp [] wa wz [rB b5 43 [.int .i64 40, .slice a ((addAll q0).length) cc], rS a cc 2 ((addAll q0).map rowOf), rS none 0 2 (([] : List PairV).map rowOf), rS pa pc 1 (ps.map pickRow), rS (some y) kc 1 (ks.map kRow)]) → QR .normal ac1 wz) : (regAt Try.f5 9).wp Try.prog QR ac0 wb := by
  refine wp_region_sq (by kernel_rfl) 146 hz (by kernel_rfl) (fun (xx : Unit) jx => nth [.slice (some y) ks.length kc, .int .i64 i0, .pointer (some (y.add i0)), .string k0, .int .i64 k0.size, .bool (decide (10 < (k0.size : Int)))] jx) (fun (LL : Nat → Bool) (xx : Unit) ww => Hp [] wa ww [rB b5 43 [.int .i64 40, .slice a ((addAll q0).length) cc], rS a cc 2 ((addAll q0).map rowOf), rS none 0 2 (([] : List PairV).map rowOf), rS pa pc 1 (ps.map pickRow), rS (some y) kc 1 (ks.map kRow)]) () H.out ?_ (steps_al ?_) ?_ ?_
  · exact fun _ _ _ _ _ h => h
  · refine al_cons ?_ (al_cons ?_ (al_cons ?_ (al_cons ?_ (al_cons ?_ (al_cons ?_ (al_nil))))))
    · intro LL xx ac wc sg hst hwant QQ hgo
      exact op_val hwant hgo hst _ (exec_move rfl ((sg.free 0 (by kernel_rfl)).trans so0)) rfl
    · intro LL xx ac wc sg hst hwant QQ hgo
      exact op_val hwant hgo hst _ (exec_move rfl ((sg.free 6 (by kernel_rfl)).trans so6)) rfl
    · intro LL xx ac wc sg hst hwant QQ hgo
      have se29 : ac.eval (.tmp 29) = _ := (sg.slot 0 (sg.anc 0 rfl))
      have sg29 := gt_of se29
      have se30 : ac.eval (.tmp 30) = _ := (sg.slot 1 (sg.anc 1 rfl))
      have sg30 := gt_of se30
      (try simp only [nth] at se29 sg29 se30 sg30)
      exact op_val hwant hgo hst _ (by simp only [execOp, nth]; go_simp <;> omega) rfl
    · intro LL xx ac wc sg hst hwant QQ hgo
      have H := Lib.hid hst
      refine hpS_load1 0 tystring H rfl (sg.slot 2 (sg.anc 2 rfl)) hwant (by (repeat (first | exact List.Mem.head _ | apply List.Mem.tail))) HRk0.out (by rfl) (by simp [Addr.add]) ?_
      exact hgo _ () _ (fun _ _ => rfl) rfl hst
    · intro LL xx ac wc sg hst hwant QQ hgo
      have se32 : ac.eval (.tmp 32) = _ := (sg.slot 3 (sg.anc 3 rfl))
      have sg32 := gt_of se32
      (try simp only [nth] at se32 sg32)
      exact op_val hwant hgo hst _ (by simp only [execOp, nth]; go_simp <;> omega) rfl
    · intro LL xx ac wc sg hst hwant QQ hgo
      have se33 : ac.eval (.tmp 33) = _ := (sg.slot 4 (sg.anc 4 rfl))
      have sg33 := gt_of se33
      (try simp only [nth] at se33 sg33)
      exact op_val hwant hgo hst _ (by simp only [execOp, nth]; go_simp <;> omega) rfl
  · exact skips [] (by kernel_rfl) (fun _ h => by cases h)
  · intro xx ac1 wz hfr hsl hst
    exact hfin ac1 wz (hfr.size.trans hz) hfr.defers (fr_keep hfr [29, 30, 31, 32, 33, 34] (by kernel_rfl)) (hsl 5 (by decide)) (Lib.hid hst)
set_option maxRecDepth 20000 in
theorem order_w_r10 (kc : Nat) (ks : List KeyV) (pa : Option Addr) (pc : Nat) (ps : List Int) (z1d : ¬ (40 < (ks.length : Int))) (h40 : ks.length ≤ 40) (b5 : Nat) (i0 : Nat) (a : Option Addr) (cc : Nat) (q0 : List KeyV) (hi : i0 ≤ ks.length) (hq0 : q0.length = i0) (z2d : i0 < ks.length) (y : Addr) (k0 : KeyV) (z3d : 10 < (k0.size : Int)) {wa wb : World} (H : Hid (Hp [] wa wb [rB b5 43 [.int .i64 40, .slice a ((addAll q0).length) cc], rS a cc 2 ((addAll q0).map rowOf), rS none 0 2 (([] : List PairV).map rowOf), rS pa pc 1 (ps.map pickRow), rS (some y) kc 1 (ks.map kRow)])) (ac0 : Act) (hz : ac0.tmps.size = 146)  {QR : Exit → Act → World → Prop} (hfin : ∀ (ac1 : Act) (wz : World), ac1.tmps.size = 146 → ac1.defers = ac0.defers → (∀ t, ([4] : List Nat).contains t = false → ac1.eval (.tmp t) = ac0.eval (.tmp t)) → ac1.eval (.tmp 4) = .bool true →  Hid (Hp [] wa wz [rB b5 43 [.int .i64 40, .slice a ((addAll q0).length) cc], rS a cc 2 ((addAll q0).map rowOf), rS none 0 2 (([] : List PairV).map rowOf), rS pa pc 1 (ps.map pickRow), rS (some y) kc 1 (ks.map kRow)]) → QR .normal ac1 wz) : (regAt Try.f5 10).wp Try.prog QR ac0 wb := by
  refine wp_region_sq (by kernel_rfl) 146 hz (by kernel_rfl) (fun (xx : Unit) jx => nth [.bool true] jx) (fun (LL : Nat → Bool) (xx : Unit) ww => Hp [] wa ww [rB b5 43 [.int .i64 40, .slice a ((addAll q0).length) cc], rS a cc 2 ((addAll q0).map rowOf), rS none 0 2 (([] : List PairV).map rowOf), rS pa pc 1 (ps.map pickRow), rS (some y) kc 1 (ks.map kRow)]) () H.out ?_ (steps_al ?_) ?_ ?_
  · exact fun _ _ _ _ _ h => h
  · refine al_cons ?_ (al_nil)
    · intro LL xx ac wc sg hst hwant QQ hgo
      exact op_val hwant hgo hst _ (exec_assign rfl rfl) rfl
  · exact skips [] (by kernel_rfl) (fun _ h => by cases h)
  · intro xx ac1 wz hfr hsl hst
    exact hfin ac1 wz (hfr.size.trans hz) hfr.defers (fr_keep hfr [4] (by kernel_rfl)) (hsl 0 (by decide)) (Lib.hid hst)
set_option maxRecDepth 20000 in
theorem order_w_r11 (kc : Nat) (ks : List KeyV) (pa : Option Addr) (pc : Nat) (ps : List Int) (z1d : ¬ (40 < (ks.length : Int))) (h40 : ks.length ≤ 40) (b5 : Nat) (i0 : Nat) (a : Option Addr) (cc : Nat) (q0 : List KeyV) (hi : i0 ≤ ks.length) (hq0 : q0.length = i0) (z2d : i0 < ks.length) (y : Addr) (k0 : KeyV) (HRk0 : Hid ((ks.map kRow)[i0]? = some [.string k0])) (z3d : ¬ (10 < (k0.size : Int))) {wa wb : World} (H : Hid (Hp [] wa wb [rB b5 43 [.int .i64 40, .slice a ((addAll q0).length) cc], rS a cc 2 ((addAll q0).map rowOf), rS none 0 2 (([] : List PairV).map rowOf), rS pa pc 1 (ps.map pickRow), rS (some y) kc 1 (ks.map kRow)])) (ac0 : Act) (hz : ac0.tmps.size = 146) (so0 : ac0.eval (.tmp 0) = .slice (some y) ks.length kc) (so5 : ac0.eval (.tmp 5) = .pointer (some ⟨b5, 0, none⟩)) (so6 : ac0.eval (.tmp 6) = .int .i64 i0) {QR : Exit → Act → World → Prop} (hfin : ∀ (a11_10 : Option Addr) (c11_10 : Nat) (ac1 : Act) (wz : World), ac1.tmps.size = 146 → ac1.defers = ac0.defers → (∀ t, ([35, 36, 37, 38, 39, 40, 41, 42, 43, 44, 45, 46, 47, 48] : List Nat).contains t = false → ac1.eval (.tmp t) = ac0.eval (.tmp t)) →  Hid (Hp [] wa wz [rS a11_10 c11_10 2 ((addAll (q0 ++ [k0])).map rowOf), rB b5 43 [.int .i64 40, .slice a11_10 ((addAll (q0 ++ [k0])).length) c11_10], rS a cc 2 ((addAll q0).map rowOf), rS none 0 2 (([] : List PairV).map rowOf), rS pa pc 1 (ps.map pickRow), rS (some y) kc 1 (ks.map kRow)]) → QR .normal ac1 wz) : (regAt Try.f5 11).wp Try.prog QR ac0 wb := by
  refine wp_region_st mixedP ⟨[0, 0, 0, 1, 2, 0, 0, 1, 2, 3, 4, 5, 6, 6, 7], by kernel_rfl⟩ [[], [], [], [1, 2], [1, 2, 3], [], [], [5, 6], [5, 6, 7], [5, 6, 7, 8], [0, 1, 2, 3, 4, 5, 6, 7, 8, 9], [0, 1, 2, 3, 4, 5, 6, 7, 8, 9, 10], [0, 1, 2, 3, 4, 5, 6, 7, 8, 9, 10, 11], [0, 1, 2, 3, 4, 5, 6, 7, 8, 9, 10, 11], [0, 1, 2, 3, 4, 5, 6, 7, 8, 9, 10, 11, 12]] (by kernel_rfl) (by kernel_rfl) 146 hz (by kernel_rfl) (fun (xx : Option Addr × Nat) jx => match xx with | (a11_10, c11_10) => nth [.agg #[.int .i64 40, .slice a ((addAll q0).length) cc], .slice (some y) ks.length kc, .int .i64 i0, .pointer (some (y.add i0)), .string k0, .slice (some y) ks.length kc, .int .i64 i0, .pointer (some (y.add i0)), .string k0, .int .i64 k0.size, .tuple #[.agg #[.int .i64 40, .slice a11_10 ((addAll (q0 ++ [k0])).length) c11_10], .bool true], .tuple #[.agg #[.int .i64 40, .slice a11_10 ((addAll (q0 ++ [k0])).length) c11_10], .bool true], .agg #[.int .i64 40, .slice a11_10 ((addAll (q0 ++ [k0])).length) c11_10], .bool true, undef] jx) (fun (LL : Nat → Bool) (xx : Option Addr × Nat) ww => match xx with | (a11_10, c11_10) => Hp [] wa ww (bif LL 10 then (bif LL 14 then [rS a11_10 c11_10 2 ((addAll (q0 ++ [k0])).map rowOf), rB b5 43 [.int .i64 40, .slice a11_10 ((addAll (q0 ++ [k0])).length) c11_10], rS a cc 2 ((addAll q0).map rowOf), rS none 0 2 (([] : List PairV).map rowOf), rS pa pc 1 (ps.map pickRow), rS (some y) kc 1 (ks.map kRow)] else [rS a11_10 c11_10 2 ((addAll (q0 ++ [k0])).map rowOf), rB b5 43 [.int .i64 40, .slice a ((addAll q0).length) cc], rS a cc 2 ((addAll q0).map rowOf), rS none 0 2 (([] : List PairV).map rowOf), rS pa pc 1 (ps.map pickRow), rS (some y) kc 1 (ks.map kRow)]) else [rB b5 43 [.int .i64 40, .slice a ((addAll q0).length) cc], rS a cc 2 ((addAll q0).map rowOf), rS none 0 2 (([] : List PairV).map rowOf), rS pa pc 1 (ps.map pickRow), rS (some y) kc 1 (ks.map kRow)])) (default, default) H.out.drew ?_ (steps_al ?_) ?_ ?_
  · intro L1 L2 xx ww hL sg
    have lh10 := hL 10 (by decide)
    have lh14 := hL 14 (by decide)
    simp only [lh10, lh14] at sg
    exact sg
  · refine al_cons ?_ (al_cons ?_ (al_cons ?_ (al_cons ?_ (al_cons ?_ (al_cons ?_ (al_cons ?_ (al_cons ?_ (al_cons ?_ (al_cons ?_ (al_cons ?_ (al_cons ?_ (al_cons ?_ (al_cons ?_ (al_cons ?_ (al_nil)))))))))))))))
    · intro LL xx ac wc sg hst hwant QQ hgo
      obtain ⟨a11_10, c11_10⟩ := xx
      have H := Lib.hid hst
      simp only [sg.des 10 rfl, sg.des 14 rfl, cond_true, cond_false] at H
      refine hpA_load tyshelf_Shelf_string__int_ H rfl ((sg.free 5 (by kernel_rfl)).trans so5) hwant (by (repeat (first | exact List.Mem.head _ | apply List.Mem.tail))) (by rfl) rfl ?_
      exact hgo _ (a11_10, c11_10) _ (fun _ _ => rfl) rfl hst
    · intro LL xx ac wc sg hst hwant QQ hgo
      obtain ⟨a11_10, c11_10⟩ := xx
      exact op_val hwant hgo hst _ (exec_move rfl ((sg.free 0 (by kernel_rfl)).trans so0)) rfl
    · intro LL xx ac wc sg hst hwant QQ hgo
      obtain ⟨a11_10, c11_10⟩ := xx
      exact op_val hwant hgo hst _ (exec_move rfl ((sg.free 6 (by kernel_rfl)).trans so6)) rfl
    · intro LL xx ac wc sg hst hwant QQ hgo
      obtain ⟨a11_10, c11_10⟩ := xx
      have se37 : ac.eval (.tmp 37) = _ := (sg.slot 1 (sg.anc 1 rfl))
      have sg37 := gt_of se37
      have se38 : ac.eval (.tmp 38) = _ := (sg.slot 2 (sg.anc 2 rfl))
      have sg38 := gt_of se38
      (try simp only [nth] at se37 sg37 se38 sg38)
      exact op_val hwant hgo hst _ (by simp only [execOp, nth]; go_simp <;> omega) rfl
    · intro LL xx ac wc sg hst hwant QQ hgo
      obtain ⟨a11_10, c11_10⟩ := xx
      have H := Lib.hid hst
      simp only [sg.des 10 rfl, sg.des 14 rfl, cond_true, cond_false] at H
      refine hpS_load1 0 tystring H rfl (sg.slot 3 (sg.anc 3 rfl)) hwant (by (repeat (first | exact List.Mem.head _ | apply List.Mem.tail))) HRk0.out (by rfl) (by simp [Addr.add]) ?_
      exact hgo _ (a11_10, c11_10) _ (fun _ _ => rfl) rfl hst
    · intro LL xx ac wc sg hst hwant QQ hgo
      obtain ⟨a11_10, c11_10⟩ := xx
      exact op_val hwant hgo hst _ (exec_move rfl ((sg.free 0 (by kernel_rfl)).trans so0)) rfl
    · intro LL xx ac wc sg hst hwant QQ hgo
      obtain ⟨a11_10, c11_10⟩ := xx
      exact op_val hwant hgo hst _ (exec_move rfl ((sg.free 6 (by kernel_rfl)).trans so6)) rfl
    · intro LL xx ac wc sg hst hwant QQ hgo
      obtain ⟨a11_10, c11_10⟩ := xx
      have se41 : ac.eval (.tmp 41) = _ := (sg.slot 5 (sg.anc 5 rfl))
      have sg41 := gt_of se41
      have se42 : ac.eval (.tmp 42) = _ := (sg.slot 6 (sg.anc 6 rfl))
      have sg42 := gt_of se42
      (try simp only [nth] at se41 sg41 se42 sg42)
      exact op_val hwant hgo hst _ (by simp only [execOp, nth]; go_simp <;> omega) rfl
    · intro LL xx ac wc sg hst hwant QQ hgo
      obtain ⟨a11_10, c11_10⟩ := xx
      have H := Lib.hid hst
      simp only [sg.des 10 rfl, sg.des 14 rfl, cond_true, cond_false] at H
      refine hpS_load1 0 tystring H rfl (sg.slot 7 (sg.anc 7 rfl)) hwant (by (repeat (first | exact List.Mem.head _ | apply List.Mem.tail))) HRk0.out (by rfl) (by simp [Addr.add]) ?_
      exact hgo _ (a11_10, c11_10) _ (fun _ _ => rfl) rfl hst
    · intro LL xx ac wc sg hst hwant QQ hgo
      obtain ⟨a11_10, c11_10⟩ := xx
      have se44 : ac.eval (.tmp 44) = _ := (sg.slot 8 (sg.anc 8 rfl))
      have sg44 := gt_of se44
      (try simp only [nth] at se44 sg44)
      exact op_val hwant hgo hst _ (by simp only [execOp, nth]; go_simp <;> omega) rfl
    · intro LL xx ac wc sg hst hwant QQ hgo
      obtain ⟨_, _⟩ := xx
      have se36 : ac.eval (.tmp 36) = _ := (sg.slot 0 (sg.anc 0 rfl))
      have sg36 := gt_of se36
      have se40 : ac.eval (.tmp 40) = _ := (sg.slot 4 (sg.anc 4 rfl))
      have sg40 := gt_of se40
      have se45 : ac.eval (.tmp 45) = _ := (sg.slot 9 (sg.anc 9 rfl))
      have sg45 := gt_of se45
      (try simp only [nth] at se36 sg36 se40 sg40 se45 sg45)
      have H := Lib.hid hst
      simp only [sg.self, sg.des 14 rfl, cond_true, cond_false] at H
      refine op_call hwant hgo 27 _ (by simp only [execOp]; go_simp) (withAdd a cc q0 k0 wc (hp_held H (by (repeat (first | exact List.Mem.head _ | apply List.Mem.tail)))) (by omega)) ?_
      rintro er wd ⟨a11_10, c11_10, rfl, hgv⟩
      have H2 := hp_got H hgv.2.2 hgv.1 (by decide) hgv.2.1 (by simp)
      exact ⟨_, (a11_10, c11_10), rfl, (sg.agree (x' := (a11_10, c11_10)) (n := 15) rfl (by (iterate 15 (refine ix_cons (by first | exact fun _ => rfl | exact no sg.self | exact no (sg.des _ rfl)) ?_)); exact ix_nil)), rfl, (by simp only [(show upd LL 10 10 = true from rfl), (show upd LL 10 14 = LL 14 from rfl), sg.des 14 rfl, cond_true, cond_false]; exact H2.out)⟩
    · intro LL xx ac wc sg hst hwant QQ hgo
      obtain ⟨a11_10, c11_10⟩ := xx
      exact op_val hwant hgo hst _ (exec_move rfl (sg.slot 10 (sg.anc 10 rfl))) rfl
    · intro LL xx ac wc sg hst hwant QQ hgo
      obtain ⟨a11_10, c11_10⟩ := xx
      have se35 : ac.eval (.tmp 35) = _ := (sg.slot 11 (sg.anc 11 rfl))
      have sg35 := gt_of se35
      (try simp only [nth] at se35 sg35)
      exact op_val hwant hgo hst _ (by simp only [execOp, nth]; go_simp <;> omega) rfl
    · intro LL xx ac wc sg hst hwant QQ hgo
      obtain ⟨a11_10, c11_10⟩ := xx
      have se35 : ac.eval (.tmp 35) = _ := (sg.slot 11 (sg.anc 11 rfl))
      have sg35 := gt_of se35
      (try simp only [nth] at se35 sg35)
      exact op_val hwant hgo hst _ (by simp only [execOp, nth]; go_simp <;> omega) rfl
    · intro LL xx ac wc sg hst hwant QQ hgo
      obtain ⟨a11_10, c11_10⟩ := xx
      have H := Lib.hid hst
      simp only [sg.anc 10 rfl, sg.self, cond_true, cond_false] at H
      refine hpA_store tyshelf_Shelf_string__int_ H rfl rfl ((sg.free 5 (by kernel_rfl)).trans so5) (sg.slot 12 (sg.anc 12 rfl)) rfl (by repeat (first | apply Put.head | apply Put.tail)) (by simp [List.length_cons]) (by simp [List.length_cons, Value.oneCell']) (by first | rfl | (simp only [spl]; rfl)) rfl ?_
      intro wd H2
      exact hgo _ (a11_10, c11_10) _ (sg.agree (x' := (a11_10, c11_10)) (n := 15) rfl (by (iterate 15 (refine ix_cons (by first | exact fun _ => rfl | exact no sg.self | exact no (sg.des _ rfl)) ?_)); exact ix_nil)) rfl (by simp only [(show upd LL 14 10 = LL 10 from rfl), sg.anc 10 rfl, (show upd LL 14 14 = true from rfl), cond_true, cond_false]; exact H2.out)
  · exact skips [] (by kernel_rfl) (fun _ h => by cases h)
  · intro xx ac1 wz hfr hsl hst
    obtain ⟨a11_10, c11_10⟩ := xx
    exact hfin a11_10 c11_10 ac1 wz (hfr.size.trans hz) hfr.defers (fr_keep hfr [35, 36, 37, 38, 39, 40, 41, 42, 43, 44, 45, 46, 47, 48] (by kernel_rfl)) (Lib.hid hst)
set_option maxRecDepth 20000 in
theorem order_w_r8 (kc : Nat) (ks : List KeyV) (pa : Option Addr) (pc : Nat) (ps : List Int) (z1d : ¬ (40 < (ks.length : Int))) (h40 : ks.length ≤ 40) (b5 : Nat) (i0 : Nat) (a : Option Addr) (cc : Nat) (q0 : List KeyV) (hi : i0 ≤ ks.length) (hq0 : q0.length = i0) (z2d : i0 < ks.length) (y : Addr) (k0 : KeyV) (z3d : ¬ (10 < (k0.size : Int))) (a11_10 : Option Addr) (c11_10 : Nat) {wa wb : World} (H : Hid (Hp [] wa wb [rS a11_10 c11_10 2 ((addAll (q0 ++ [k0])).map rowOf), rB b5 43 [.int .i64 40, .slice a11_10 ((addAll (q0 ++ [k0])).length) c11_10], rS a cc 2 ((addAll q0).map rowOf), rS none 0 2 (([] : List PairV).map rowOf), rS pa pc 1 (ps.map pickRow), rS (some y) kc 1 (ks.map kRow)])) (ac0 : Act) (hz : ac0.tmps.size = 146) (so6 : ac0.eval (.tmp 6) = .int .i64 i0) {QR : Exit → Act → World → Prop} (hfin : ∀ (ac1 : Act) (wz : World), ac1.tmps.size = 146 → ac1.defers = ac0.defers → (∀ t, ([6, 27, 28] : List Nat).contains t = false → ac1.eval (.tmp t) = ac0.eval (.tmp t)) → ac1.eval (.tmp 6) = .int .i64 (i0 + 1) →  Hid (Hp [] wa wz [rS a11_10 c11_10 2 ((addAll (q0 ++ [k0])).map rowOf), rB b5 43 [.int .i64 40, .slice a11_10 ((addAll (q0 ++ [k0])).length) c11_10], rS a cc 2 ((addAll q0).map rowOf), rS none 0 2 (([] : List PairV).map rowOf), rS pa pc 1 (ps.map pickRow), rS (some y) kc 1 (ks.map kRow)]) → QR .normal ac1 wz) : (regAt Try.f5 8).wp Try.prog QR ac0 wb := by
  refine wp_region_sq (by kernel_rfl) 146 hz (by kernel_rfl) (fun (xx : Unit) jx => nth [.int .i64 i0, .int .i64 (i0 + 1), .int .i64 (i0 + 1)] jx) (fun (LL : Nat → Bool) (xx : Unit) ww => Hp [] wa ww [rS a11_10 c11_10 2 ((addAll (q0 ++ [k0])).map rowOf), rB b5 43 [.int .i64 40, .slice a11_10 ((addAll (q0 ++ [k0])).length) c11_10], rS a cc 2 ((addAll q0).map rowOf), rS none 0 2 (([] : List PairV).map rowOf), rS pa pc 1 (ps.map pickRow), rS (some y) kc 1 (ks.map kRow)]) () H.out ?_ (steps_al ?_) ?_ ?_
  · exact fun _ _ _ _ _ h => h
  · refine al_cons ?_ (al_cons ?_ (al_cons ?_ (al_nil)))
    · intro LL xx ac wc sg hst hwant QQ hgo
      exact op_val hwant hgo hst _ (exec_move rfl ((sg.yet 6 2 (sg.des 2 rfl) (by kernel_rfl)).trans so6)) rfl
    · intro LL xx ac wc sg hst hwant QQ hgo
      have se27 : ac.eval (.tmp 27) = _ := (sg.slot 0 (sg.anc 0 rfl))
      have sg27 := gt_of se27
      (try simp only [nth] at se27 sg27)
      have hnw : IntKind.i64.wrap (i0 + 1 : Int) = i0 + 1 := IntWalk.i64_in _ (by omega)
      exact op_val hwant hgo hst _ (by simp only [execOp, nth]; go_simp <;> omega) rfl
    · intro LL xx ac wc sg hst hwant QQ hgo
      exact op_val hwant hgo hst _ (exec_assign rfl (sg.slot 1 (sg.anc 1 rfl))) rfl
  · exact skips [] (by kernel_rfl) (fun _ h => by cases h)
  · intro xx ac1 wz hfr hsl hst
    exact hfin ac1 wz (hfr.size.trans hz) hfr.defers (fr_keep hfr [6, 27, 28] (by kernel_rfl)) (hsl 2 (by decide)) (Lib.hid hst)
set_option maxRecDepth 20000 in
theorem order_w_r12 (ka : Option Addr) (kc : Nat) (ks : List KeyV) (pa : Option Addr) (pc : Nat) (ps : List Int) (z1d : ¬ (40 < (ks.length : Int))) (h40 : ks.length ≤ 40) (b5 : Nat) (i0 : Nat) (a : Option Addr) (cc : Nat) (q0 : List KeyV) (hi : i0 ≤ ks.length) (hq0 : q0.length = i0) (z2d : ¬ (i0 < ks.length)) {wa wb : World} (H : Hid (Hp [] wa wb [rB b5 43 [.int .i64 40, .slice a ((addAll ks).length) cc], rS a cc 2 ((addAll ks).map rowOf), rS none 0 2 (([] : List PairV).map rowOf), rS pa pc 1 (ps.map pickRow), rS ka kc 1 (ks.map kRow)])) (ac0 : Act) (hz : ac0.tmps.size = 146) (so0 : ac0.eval (.tmp 0) = .slice ka ks.length kc) {QR : Exit → Act → World → Prop} (hfin : ∀ (b49 : Nat) (a51 : Option Addr) (c51 : Nat) (ac1 : Act) (wz : World), ac1.tmps.size = 146 → ac1.defers = ac0.defers → (∀ t, ([7, 49, 50, 51] : List Nat).contains t = false → ac1.eval (.tmp t) = ac0.eval (.tmp t)) → ac1.eval (.tmp 7) = .slice a51 ((([] : List KeyV) ++ ks).length) c51 →  Hid (Hp [] wa wz [rA a51 c51 9 1 ((([] : List KeyV) ++ ks).map kRow), rB b5 43 [.int .i64 40, .slice a ((addAll ks).length) cc], rS a cc 2 ((addAll ks).map rowOf), rS none 0 2 (([] : List PairV).map rowOf), rS pa pc 1 (ps.map pickRow), rS ka kc 1 (ks.map kRow)]) → QR .normal ac1 wz) : (regAt Try.f5 12).wp Try.prog QR ac0 wb := by
  refine wp_region_sq (by kernel_rfl) 146 hz (by kernel_rfl) (fun (xx : Nat × Option Addr × Nat) jx => match xx with | (b49, a51, c51) => nth [.slice (some ⟨b49, 0, none⟩) 0 0, .slice ka ks.length kc, .slice a51 ((([] : List KeyV) ++ ks).length) c51, .slice a51 ((([] : List KeyV) ++ ks).length) c51] jx) (fun (LL : Nat → Bool) (xx : Nat × Option Addr × Nat) ww => match xx with | (b49, a51, c51) => Hp [] wa ww (bif LL 2 then [rA a51 c51 9 1 ((([] : List KeyV) ++ ks).map kRow), rB b5 43 [.int .i64 40, .slice a ((addAll ks).length) cc], rS a cc 2 ((addAll ks).map rowOf), rS none 0 2 (([] : List PairV).map rowOf), rS pa pc 1 (ps.map pickRow), rS ka kc 1 (ks.map kRow)] else (bif LL 0 then [rA (some ⟨b49, 0, none⟩) 0 9 1 (([] : List KeyV).map kRow), rB b5 43 [.int .i64 40, .slice a ((addAll ks).length) cc], rS a cc 2 ((addAll ks).map rowOf), rS none 0 2 (([] : List PairV).map rowOf), rS pa pc 1 (ps.map pickRow), rS ka kc 1 (ks.map kRow)] else [rB b5 43 [.int .i64 40, .slice a ((addAll ks).length) cc], rS a cc 2 ((addAll ks).map rowOf), rS none 0 2 (([] : List PairV).map rowOf), rS pa pc 1 (ps.map pickRow), rS ka kc 1 (ks.map kRow)]))) (default, default, default) H.out ?_ (steps_al ?_) ?_ ?_
  · intro L1 L2 xx ww hL sg
    have lh0 := hL 0 (by decide)
    have lh2 := hL 2 (by decide)
    simp only [lh0, lh2] at sg
    exact sg
  · refine al_cons ?_ (al_cons ?_ (al_cons ?_ (al_cons ?_ (al_nil))))
    · intro LL xx ac wc sg hst hwant QQ hgo
      obtain ⟨_, a51, c51⟩ := xx
      have H := Lib.hid hst
      simp only [sg.self, sg.des 2 rfl, cond_true, cond_false] at H
      refine hp_bslice0 elK H rfl hwant ?_
      intro wd b49 H2
      exact hgo _ (b49, a51, c51) _ (sg.agree (x' := (b49, a51, c51)) (n := 4) rfl (by (iterate 4 (refine ix_cons (by first | exact fun _ => rfl | exact no sg.self | exact no (sg.des _ rfl)) ?_)); exact ix_nil)) rfl (by simp only [(show upd LL 0 0 = true from rfl), (show upd LL 0 2 = LL 2 from rfl), sg.des 2 rfl, cond_true, cond_false]; exact H2.out)
    · intro LL xx ac wc sg hst hwant QQ hgo
      obtain ⟨b49, a51, c51⟩ := xx
      exact op_val hwant hgo hst _ (exec_move rfl ((sg.free 0 (by kernel_rfl)).trans so0)) rfl
    · intro LL xx ac wc sg hst hwant QQ hgo
      obtain ⟨b49, _, _⟩ := xx
      have H := Lib.hid hst
      simp only [sg.anc 0 rfl, sg.self, cond_true, cond_false] at H
      refine hp_append (news := ks.map kRow) elK H rfl rfl 0 rfl (sg.slot 0 (sg.anc 0 rfl)) (by simp) (sg.slot 1 (sg.anc 1 rfl)) (by simp <;> omega) (hp_held H (by (repeat (first | exact List.Mem.head _ | apply List.Mem.tail)))) (by simp <;> omega) (by decide) ?_
      intro wd a51 c51 H2
      rw [show ([] : List KeyV).map kRow ++ ks.map kRow = (([] : List KeyV) ++ ks).map kRow from List.map_append.symm] at H2 ⊢
      rw [List.length_map]
      exact hgo _ (b49, a51, c51) _ (sg.agree (x' := (b49, a51, c51)) (n := 4) rfl (by (iterate 4 (refine ix_cons (by first | exact fun _ => rfl | exact no sg.self | exact no (sg.des _ rfl)) ?_)); exact ix_nil)) rfl (by simp only [(show upd LL 2 0 = LL 0 from rfl), sg.anc 0 rfl, (show upd LL 2 2 = true from rfl), cond_true, cond_false]; exact H2.out)
    · intro LL xx ac wc sg hst hwant QQ hgo
      obtain ⟨b49, a51, c51⟩ := xx
      exact op_val hwant hgo hst _ (exec_assign rfl (sg.slot 2 (sg.anc 2 rfl))) rfl
  · exact skips [] (by kernel_rfl) (fun _ h => by cases h)
  · intro xx ac1 wz hfr hsl hst
    obtain ⟨b49, a51, c51⟩ := xx
    exact hfin b49 a51 c51 ac1 wz (hfr.size.trans hz) hfr.defers (fr_keep hfr [7, 49, 50, 51] (by kernel_rfl)) (hsl 3 (by decide)) (Lib.hid hst)
set_option maxRecDepth 20000 in
theorem order_w_r13 (ka : Option Addr) (kc : Nat) (ks : List KeyV) (pa : Option Addr) (pc : Nat) (ps : List Int) (z1d : ¬ (40 < (ks.length : Int))) (h40 : ks.length ≤ 40) (b5 : Nat) (i0 : Nat) (a : Option Addr) (cc : Nat) (q0 : List KeyV) (hi : i0 ≤ ks.length) (hq0 : q0.length = i0) (z2d : ¬ (i0 < ks.length)) (a51 : Option Addr) (c51 : Nat) {wa wb : World} (H : Hid (Hp [] wa wb [rA a51 c51 9 1 ((([] : List KeyV) ++ ks).map kRow), rB b5 43 [.int .i64 40, .slice a ((addAll ks).length) cc], rS a cc 2 ((addAll ks).map rowOf), rS none 0 2 (([] : List PairV).map rowOf), rS pa pc 1 (ps.map pickRow), rS ka kc 1 (ks.map kRow)])) (ac0 : Act) (hz : ac0.tmps.size = 146)  {QR : Exit → Act → World → Prop} (hfin : ∀ (b8 : Nat) (ac1 : Act) (wz : World), ac1.tmps.size = 146 → ac1.defers = ac0.defers → (∀ t, ([8, 52] : List Nat).contains t = false → ac1.eval (.tmp t) = ac0.eval (.tmp t)) → ac1.eval (.tmp 8) = .pointer (some ⟨b8, 0, none⟩) →  Hid (Hp [] wa wz [rB b8 43 [.int .i64 40, .slice none 0 0], rA a51 c51 9 1 ((([] : List KeyV) ++ ks).map kRow), rB b5 43 [.int .i64 40, .slice a ((addAll ks).length) cc], rS a cc 2 ((addAll ks).map rowOf), rS none 0 2 (([] : List PairV).map rowOf), rS pa pc 1 (ps.map pickRow), rS ka kc 1 (ks.map kRow)]) → QR .normal ac1 wz) : (regAt Try.f5 13).wp Try.prog QR ac0 wb := by
  refine wp_region_sq (by kernel_rfl) 146 hz (by kernel_rfl) (fun (xx : Nat) jx => match xx with | b8 => nth [.agg #[.int .i64 40, .slice none 0 0], .pointer (some ⟨b8, 0, none⟩), undef] jx) (fun (LL : Nat → Bool) (xx : Nat) ww => match xx with | b8 => Hp [] wa ww (bif LL 2 then [rB b8 43 [.int .i64 40, .slice none 0 0], rA a51 c51 9 1 ((([] : List KeyV) ++ ks).map kRow), rB b5 43 [.int .i64 40, .slice a ((addAll ks).length) cc], rS a cc 2 ((addAll ks).map rowOf), rS none 0 2 (([] : List PairV).map rowOf), rS pa pc 1 (ps.map pickRow), rS ka kc 1 (ks.map kRow)] else (bif LL 1 then [rB b8 43 [.int .i64 0, .slice none 0 0], rA a51 c51 9 1 ((([] : List KeyV) ++ ks).map kRow), rB b5 43 [.int .i64 40, .slice a ((addAll ks).length) cc], rS a cc 2 ((addAll ks).map rowOf), rS none 0 2 (([] : List PairV).map rowOf), rS pa pc 1 (ps.map pickRow), rS ka kc 1 (ks.map kRow)] else [rA a51 c51 9 1 ((([] : List KeyV) ++ ks).map kRow), rB b5 43 [.int .i64 40, .slice a ((addAll ks).length) cc], rS a cc 2 ((addAll ks).map rowOf), rS none 0 2 (([] : List PairV).map rowOf), rS pa pc 1 (ps.map pickRow), rS ka kc 1 (ks.map kRow)]))) default H.out ?_ (steps_al ?_) ?_ ?_
  · intro L1 L2 xx ww hL sg
    have lh1 := hL 1 (by decide)
    have lh2 := hL 2 (by decide)
    simp only [lh1, lh2] at sg
    exact sg
  · refine al_cons ?_ (al_cons ?_ (al_cons ?_ (al_nil)))
    · intro LL xx ac wc sg hst hwant QQ hgo
      revert sg hst hgo; revert xx; intro b8 sg hst hgo
      refine op_call hwant hgo 26 _ (by simp only [execOp]; go_simp) (newF wc) ?_
      rintro er wd ⟨rfl, hof⟩
      exact ⟨_, b8, rfl, fun _ _ => rfl, rfl, Hp.quiet hst hof⟩
    · intro LL xx ac wc sg hst hwant QQ hgo
      revert sg hst hgo; revert xx; intro xold sg hst hgo
      have H := Lib.hid hst
      simp only [sg.self, sg.des 2 rfl, cond_true, cond_false] at H
      refine hpA_alloc tyshelf_Shelf_string__int_ H rfl rfl ?_
      intro wd b8 H2
      exact hgo _ b8 _ (sg.agree (x' := b8) (n := 3) rfl (by (iterate 3 (refine ix_cons (by first | exact fun _ => rfl | exact no sg.self | exact no (sg.des _ rfl)) ?_)); exact ix_nil)) rfl (by simp only [(show upd LL 1 1 = true from rfl), (show upd LL 1 2 = LL 2 from rfl), sg.des 2 rfl, cond_true, cond_false]; exact H2.out)
    · intro LL xx ac wc sg hst hwant QQ hgo
      revert sg hst hgo; revert xx; intro b8 sg hst hgo
      have H := Lib.hid hst
      simp only [sg.anc 1 rfl, sg.self, cond_true, cond_false] at H
      refine hpA_store tyshelf_Shelf_string__int_ H rfl rfl (sg.slot 1 (sg.anc 1 rfl)) (sg.slot 0 (sg.anc 0 rfl)) rfl (by repeat (first | apply Put.head | apply Put.tail)) (by simp [List.length_cons]) (by simp [List.length_cons, Value.oneCell']) (by first | rfl | (simp only [spl]; rfl)) rfl ?_
      intro wd H2
      exact hgo _ b8 _ (sg.agree (x' := b8) (n := 3) rfl (by (iterate 3 (refine ix_cons (by first | exact fun _ => rfl | exact no sg.self | exact no (sg.des _ rfl)) ?_)); exact ix_nil)) rfl (by simp only [(show upd LL 2 1 = LL 1 from rfl), sg.anc 1 rfl, (show upd LL 2 2 = true from rfl), cond_true, cond_false]; exact H2.out)
  · exact skips [] (by kernel_rfl) (fun _ h => by cases h)
  · intro xx ac1 wz hfr hsl hst
    revert hsl hst; revert xx; intro b8 hsl hst
    exact hfin b8 ac1 wz (hfr.size.trans hz) hfr.defers (fr_keep hfr [8, 52] (by kernel_rfl)) (hsl 1 (by decide)) (Lib.hid hst)
set_option maxRecDepth 20000 in
theorem order_w_r14 (ka : Option Addr) (kc : Nat) (ks : List KeyV) (pa : Option Addr) (pc : Nat) (ps : List Int) (z1d : ¬ (40 < (ks.length : Int))) (h40 : ks.length ≤ 40) (b5 : Nat) (i0 : Nat) (a : Option Addr) (cc : Nat) (q0 : List KeyV) (hi : i0 ≤ ks.length) (hq0 : q0.length = i0) (z2d : ¬ (i0 < ks.length)) (a51 : Option Addr) (c51 : Nat) (b8 : Nat) {wa wb : World} (H : Hid (Hp [] wa wb [rB b8 43 [.int .i64 40, .slice none 0 0], rA a51 c51 9 1 ((([] : List KeyV) ++ ks).map kRow), rB b5 43 [.int .i64 40, .slice a ((addAll ks).length) cc], rS a cc 2 ((addAll ks).map rowOf), rS none 0 2 (([] : List PairV).map rowOf), rS pa pc 1 (ps.map pickRow), rS ka kc 1 (ks.map kRow)])) (ac0 : Act) (hz : ac0.tmps.size = 146)  {QR : Exit → Act → World → Prop} (hfin : ∀ (ac1 : Act) (wz : World), ac1.tmps.size = 146 → ac1.defers = ac0.defers → (∀ t, ([9] : List Nat).contains t = false → ac1.eval (.tmp t) = ac0.eval (.tmp t)) → ac1.eval (.tmp 9) = .int .i64 0 →  Hid (Hp [] wa wz [rB b8 43 [.int .i64 40, .slice none 0 0], rA a51 c51 9 1 ((([] : List KeyV) ++ ks).map kRow), rB b5 43 [.int .i64 40, .slice a ((addAll ks).length) cc], rS a cc 2 ((addAll ks).map rowOf), rS none 0 2 (([] : List PairV).map rowOf), rS pa pc 1 (ps.map pickRow), rS ka kc 1 (ks.map kRow)]) → QR .normal ac1 wz) : (regAt Try.f5 14).wp Try.prog QR ac0 wb := by
  refine wp_region_sq (by kernel_rfl) 146 hz (by kernel_rfl) (fun (xx : Unit) jx => nth [.int .i64 0] jx) (fun (LL : Nat → Bool) (xx : Unit) ww => Hp [] wa ww [rB b8 43 [.int .i64 40, .slice none 0 0], rA a51 c51 9 1 ((([] : List KeyV) ++ ks).map kRow), rB b5 43 [.int .i64 40, .slice a ((addAll ks).length) cc], rS a cc 2 ((addAll ks).map rowOf), rS none 0 2 (([] : List PairV).map rowOf), rS pa pc 1 (ps.map pickRow), rS ka kc 1 (ks.map kRow)]) () H.out ?_ (steps_al ?_) ?_ ?_
  · exact fun _ _ _ _ _ h => h
  · refine al_cons ?_ (al_nil)
    · intro LL xx ac wc sg hst hwant QQ hgo
      exact op_val hwant hgo hst _ (exec_assign rfl rfl) rfl
  · exact skips [] (by kernel_rfl) (fun _ h => by cases h)
  · intro xx ac1 wz hfr hsl hst
    exact hfin ac1 wz (hfr.size.trans hz) hfr.defers (fr_keep hfr [9] (by kernel_rfl)) (hsl 0 (by decide)) (Lib.hid hst)
set_option maxRecDepth 20000 in
theorem order_w_r15 (ka : Option Addr) (kc : Nat) (ks : List KeyV) (pa : Option Addr) (pc : Nat) (ps : List Int) (z1d : ¬ (40 < (ks.length : Int))) (h40 : ks.length ≤ 40) (b5 : Nat) (i0 : Nat) (a : Option Addr) (cc : Nat) (q0 : List KeyV) (hi : i0 ≤ ks.length) (hq0 : q0.length = i0) (z2d : ¬ (i0 < ks.length)) (b8 : Nat) (i : Nat) (b : Option Addr) (bc : Nat) (qs : List KeyV) (ra : Option Addr) (rc : Nat) (rest : List KeyV) (hq1 : qs.length = i) (hrl : i + rest.length = ks.length) {wa wb : World} (H : Hid (Hp [] wa wb [rB b8 43 [.int .i64 40, .slice b ((addAll qs).length) bc], rA ra rc 9 1 (rest.map kRow), rB b5 43 [.int .i64 40, .slice a ((addAll ks).length) cc], rS a cc 2 ((addAll ks).map rowOf), rS b bc 2 ((addAll qs).map rowOf), rS pa pc 1 (ps.map pickRow), rS ka kc 1 (ks.map kRow)])) (ac0 : Act) (hz : ac0.tmps.size = 146) (so7 : ac0.eval (.tmp 7) = .slice ra rest.length rc) {QR : Exit → Act → World → Prop} (hfin : ∀ (ac1 : Act) (wz : World), ac1.tmps.size = 146 → ac1.defers = ac0.defers → (∀ t, ([53, 54, 55] : List Nat).contains t = false → ac1.eval (.tmp t) = ac0.eval (.tmp t)) → ac1.eval (.tmp 55) = .bool (decide (0 < (rest.length : Int))) →  Hid (Hp [] wa wz [rB b8 43 [.int .i64 40, .slice b ((addAll qs).length) bc], rA ra rc 9 1 (rest.map kRow), rB b5 43 [.int .i64 40, .slice a ((addAll ks).length) cc], rS a cc 2 ((addAll ks).map rowOf), rS b bc 2 ((addAll qs).map rowOf), rS pa pc 1 (ps.map pickRow), rS ka kc 1 (ks.map kRow)]) → QR .normal ac1 wz) : (regAt Try.f5 15).wp Try.prog QR ac0 wb := by
  refine wp_region_sq (by kernel_rfl) 146 hz (by kernel_rfl) (fun (xx : Unit) jx => nth [.slice ra rest.length rc, .int .i64 rest.length, .bool (decide (0 < (rest.length : Int)))] jx) (fun (LL : Nat → Bool) (xx : Unit) ww => Hp [] wa ww [rB b8 43 [.int .i64 40, .slice b ((addAll qs).length) bc], rA ra rc 9 1 (rest.map kRow), rB b5 43 [.int .i64 40, .slice a ((addAll ks).length) cc], rS a cc 2 ((addAll ks).map rowOf), rS b bc 2 ((addAll qs).map rowOf), rS pa pc 1 (ps.map pickRow), rS ka kc 1 (ks.map kRow)]) () H.out ?_ (steps_al ?_) ?_ ?_
  · exact fun _ _ _ _ _ h => h
  · refine al_cons ?_ (al_cons ?_ (al_cons ?_ (al_nil)))
    · intro LL xx ac wc sg hst hwant QQ hgo
      exact op_val hwant hgo hst _ (exec_move rfl ((sg.free 7 (by kernel_rfl)).trans so7)) rfl
    · intro LL xx ac wc sg hst hwant QQ hgo
      have se53 : ac.eval (.tmp 53) = _ := (sg.slot 0 (sg.anc 0 rfl))
      have sg53 := gt_of se53
      (try simp only [nth] at se53 sg53)
      exact op_val hwant hgo hst _ (by simp only [execOp, nth]; go_simp <;> omega) rfl
    · intro LL xx ac wc sg hst hwant QQ hgo
      have se54 : ac.eval (.tmp 54) = _ := (sg.slot 1 (sg.anc 1 rfl))
      have sg54 := gt_of se54
      (try simp only [nth] at se54 sg54)
      exact op_val hwant hgo hst _ (by simp only [execOp, nth]; go_simp <;> omega) rfl
  · exact skips [] (by kernel_rfl) (fun _ h => by cases h)
  · intro xx ac1 wz hfr hsl hst
    exact hfin ac1 wz (hfr.size.trans hz) hfr.defers (fr_keep hfr [53, 54, 55] (by kernel_rfl)) (hsl 2 (by decide)) (Lib.hid hst)
set_option maxRecDepth 20000 in
theorem order_w_r17 (ka : Option Addr) (kc : Nat) (ks : List KeyV) (pa : Option Addr) (pc : Nat) (ps : List Int) (z1d : ¬ (40 < (ks.length : Int))) (h40 : ks.length ≤ 40) (b5 : Nat) (i0 : Nat) (a : Option Addr) (cc : Nat) (q0 : List KeyV) (hi : i0 ≤ ks.length) (hq0 : q0.length = i0) (z2d : ¬ (i0 < ks.length)) (b8 : Nat) (i : Nat) (b : Option Addr) (bc : Nat) (qs : List KeyV) (ra : Option Addr) (rc : Nat) (rest : List KeyV) (hq1 : qs.length = i) (hrl : i + rest.length = ks.length) (z4d : 0 < (rest.length : Int)) {wa wb : World} (H : Hid (Hp [] wa wb [rB b8 43 [.int .i64 40, .slice b ((addAll qs).length) bc], rA ra rc 9 1 (rest.map kRow), rB b5 43 [.int .i64 40, .slice a ((addAll ks).length) cc], rS a cc 2 ((addAll ks).map rowOf), rS b bc 2 ((addAll qs).map rowOf), rS pa pc 1 (ps.map pickRow), rS ka kc 1 (ks.map kRow)])) (ac0 : Act) (hz : ac0.tmps.size = 146)  {QR : Exit → Act → World → Prop} (hfin : ∀ (ac1 : Act) (wz : World), ac1.tmps.size = 146 → ac1.defers = ac0.defers → (∀ t, ([10] : List Nat).contains t = false → ac1.eval (.tmp t) = ac0.eval (.tmp t)) → ac1.eval (.tmp 10) = .int .i64 0 →  Hid (Hp [] wa wz [rB b8 43 [.int .i64 40, .slice b ((addAll qs).length) bc], rA ra rc 9 1 (rest.map kRow), rB b5 43 [.int .i64 40, .slice a ((addAll ks).length) cc], rS a cc 2 ((addAll ks).map rowOf), rS b bc 2 ((addAll qs).map rowOf), rS pa pc 1 (ps.map pickRow), rS ka kc 1 (ks.map kRow)]) → QR .normal ac1 wz) : (regAt Try.f5 17).wp Try.prog QR ac0 wb := by
  refine wp_region_sq (by kernel_rfl) 146 hz (by kernel_rfl) (fun (xx : Unit) jx => nth [.int .i64 0] jx) (fun (LL : Nat → Bool) (xx : Unit) ww => Hp [] wa ww [rB b8 43 [.int .i64 40, .slice b ((addAll qs).length) bc], rA ra rc 9 1 (rest.map kRow), rB b5 43 [.int .i64 40, .slice a ((addAll ks).length) cc], rS a cc 2 ((addAll ks).map rowOf), rS b bc 2 ((addAll qs).map rowOf), rS pa pc 1 (ps.map pickRow), rS ka kc 1 (ks.map kRow)]) () H.out ?_ (steps_al ?_) ?_ ?_
  · exact fun _ _ _ _ _ h => h
  · refine al_cons ?_ (al_nil)
    · intro LL xx ac wc sg hst hwant QQ hgo
      exact op_val hwant hgo hst _ (exec_assign rfl rfl) rfl
  · exact skips [] (by kernel_rfl) (fun _ h => by cases h)
  · intro xx ac1 wz hfr hsl hst
    exact hfin ac1 wz (hfr.size.trans hz) hfr.defers (fr_keep hfr [10] (by kernel_rfl)) (hsl 0 (by decide)) (Lib.hid hst)
set_option maxRecDepth 20000 in
theorem order_w_r18 (ka : Option Addr) (kc : Nat) (ks : List KeyV) (pa : Option Addr) (pc : Nat) (ps : List Int) (z1d : ¬ (40 < (ks.length : Int))) (h40 : ks.length ≤ 40) (b5 : Nat) (i0 : Nat) (a : Option Addr) (cc : Nat) (q0 : List KeyV) (hi : i0 ≤ ks.length) (hq0 : q0.length = i0) (z2d : ¬ (i0 < ks.length)) (b8 : Nat) (i : Nat) (b : Option Addr) (bc : Nat) (qs : List KeyV) (ra : Option Addr) (rc : Nat) (rest : List KeyV) (hq1 : qs.length = i) (hrl : i + rest.length = ks.length) (z4d : 0 < (rest.length : Int)) {wa wb : World} (H : Hid (Hp [] wa wb [rB b8 43 [.int .i64 40, .slice b ((addAll qs).length) bc], rA ra rc 9 1 (rest.map kRow), rB b5 43 [.int .i64 40, .slice a ((addAll ks).length) cc], rS a cc 2 ((addAll ks).map rowOf), rS b bc 2 ((addAll qs).map rowOf), rS pa pc 1 (ps.map pickRow), rS ka kc 1 (ks.map kRow)])) (ac0 : Act) (hz : ac0.tmps.size = 146) (so1 : ac0.eval (.tmp 1) = .slice pa ps.length pc) (so9 : ac0.eval (.tmp 9) = .int .i64 i) {QR : Exit → Act → World → Prop} (hfin : ∀ (ac1 : Act) (wz : World), ac1.tmps.size = 146 → ac1.defers = ac0.defers → (∀ t, ([58, 59, 60, 61] : List Nat).contains t = false → ac1.eval (.tmp t) = ac0.eval (.tmp t)) → ac1.eval (.tmp 61) = .bool (decide (i < ps.length)) →  Hid (Hp [] wa wz [rB b8 43 [.int .i64 40, .slice b ((addAll qs).length) bc], rA ra rc 9 1 (rest.map kRow), rB b5 43 [.int .i64 40, .slice a ((addAll ks).length) cc], rS a cc 2 ((addAll ks).map rowOf), rS b bc 2 ((addAll qs).map rowOf), rS pa pc 1 (ps.map pickRow), rS ka kc 1 (ks.map kRow)]) → QR .normal ac1 wz) : (regAt Try.f5 18).wp Try.prog QR ac0 wb := by
  refine wp_region_sq (by kernel_rfl) 146 hz (by kernel_rfl) (fun (xx : Unit) jx => nth [.int .i64 i, .slice pa ps.length pc, .int .i64 ps.length, .bool (decide (i < ps.length))] jx) (fun (LL : Nat → Bool) (xx : Unit) ww => Hp [] wa ww [rB b8 43 [.int .i64 40, .slice b ((addAll qs).length) bc], rA ra rc 9 1 (rest.map kRow), rB b5 43 [.int .i64 40, .slice a ((addAll ks).length) cc], rS a cc 2 ((addAll ks).map rowOf), rS b bc 2 ((addAll qs).map rowOf), rS pa pc 1 (ps.map pickRow), rS ka kc 1 (ks.map kRow)]) () H.out ?_ (steps_al ?_) ?_ ?_
  · exact fun _ _ _ _ _ h => h
  · refine al_cons ?_ (al_cons ?_ (al_cons ?_ (al_cons ?_ (al_nil))))
    · intro LL xx ac wc sg hst hwant QQ hgo
      exact op_val hwant hgo hst _ (exec_move rfl ((sg.free 9 (by kernel_rfl)).trans so9)) rfl
    · intro LL xx ac wc sg hst hwant QQ hgo
      exact op_val hwant hgo hst _ (exec_move rfl ((sg.free 1 (by kernel_rfl)).trans so1)) rfl
    · intro LL xx ac wc sg hst hwant QQ hgo
      have se59 : ac.eval (.tmp 59) = _ := (sg.slot 1 (sg.anc 1 rfl))
      have sg59 := gt_of se59
      (try simp only [nth] at se59 sg59)
      exact op_val hwant hgo hst _ (by simp only [execOp, nth]; go_simp <;> omega) rfl
    · intro LL xx ac wc sg hst hwant QQ hgo
      have se58 : ac.eval (.tmp 58) = _ := (sg.slot 0 (sg.anc 0 rfl))
      have sg58 := gt_of se58
      have se60 : ac.eval (.tmp 60) = _ := (sg.slot 2 (sg.anc 2 rfl))
      have sg60 := gt_of se60
      (try simp only [nth] at se58 sg58 se60 sg60)
      exact op_val hwant hgo hst _ (by simp only [execOp, nth]; go_simp <;> omega) rfl
  · exact skips [] (by kernel_rfl) (fun _ h => by cases h)
  · intro xx ac1 wz hfr hsl hst
    exact hfin ac1 wz (hfr.size.trans hz) hfr.defers (fr_keep hfr [58, 59, 60, 61] (by kernel_rfl)) (hsl 3 (by decide)) (Lib.hid hst)
set_option maxRecDepth 20000 in
theorem order_w_r20 (ka : Option Addr) (kc : Nat) (ks : List KeyV) (pa : Option Addr) (pc : Nat) (ps : List Int) (z1d : ¬ (40 < (ks.length : Int))) (h40 : ks.length ≤ 40) (b5 : Nat) (i0 : Nat) (a : Option Addr) (cc : Nat) (q0 : List KeyV) (hi : i0 ≤ ks.length) (hq0 : q0.length = i0) (z2d : ¬ (i0 < ks.length)) (b8 : Nat) (i : Nat) (b : Option Addr) (bc : Nat) (qs : List KeyV) (rc : Nat) (rest : List KeyV) (hq1 : qs.length = i) (hrl : i + rest.length = ks.length) (z4d : 0 < (rest.length : Int)) (ix : Nat) (hat : ix < rest.length) (y2 : Addr) (k : KeyV) (HRk : Hid ((rest.map kRow)[ix]? = some [.string k])) {wa wb : World} (H : Hid (Hp [] wa wb [rB b8 43 [.int .i64 40, .slice b ((addAll qs).length) bc], rA (some y2) rc 9 1 (rest.map kRow), rB b5 43 [.int .i64 40, .slice a ((addAll ks).length) cc], rS a cc 2 ((addAll ks).map rowOf), rS b bc 2 ((addAll qs).map rowOf), rS pa pc 1 (ps.map pickRow), rS ka kc 1 (ks.map kRow)])) (ac0 : Act) (hz : ac0.tmps.size = 146) (so7 : ac0.eval (.tmp 7) = .slice (some y2) rest.length rc) (so8 : ac0.eval (.tmp 8) = .pointer (some ⟨b8, 0, none⟩)) (so10 : ac0.eval (.tmp 10) = .int .i64 ix) {QR : Exit → Act → World → Prop} (hfin : ∀ (b11 : Nat) (a20_10 : Option Addr) (c20_10 : Nat) (ac1 : Act) (wz : World), ac1.tmps.size = 146 → ac1.defers = ac0.defers → (∀ t, ([11, 12, 72, 73, 74, 75, 76, 77, 78, 79, 80, 81, 82, 83, 84, 85] : List Nat).contains t = false → ac1.eval (.tmp t) = ac0.eval (.tmp t)) → ac1.eval (.tmp 11) = .pointer (some ⟨b11, 0, none⟩) → ac1.eval (.tmp 12) = .bool true →  Hid (Hp [] wa wz [rS a20_10 c20_10 2 ((addAll (qs ++ [k])).map rowOf), rB b11 43 [.int .i64 40, .slice a20_10 ((addAll (qs ++ [k])).length) c20_10], rB b8 43 [.int .i64 40, .slice b ((addAll qs).length) bc], rA (some y2) rc 9 1 (rest.map kRow), rB b5 43 [.int .i64 40, .slice a ((addAll ks).length) cc], rS a cc 2 ((addAll ks).map rowOf), rS b bc 2 ((addAll qs).map rowOf), rS pa pc 1 (ps.map pickRow), rS ka kc 1 (ks.map kRow)]) → QR .normal ac1 wz) : (regAt Try.f5 20).wp Try.prog QR ac0 wb := by
  refine wp_region_st mixedP ⟨[0, 0, 0, 1, 2, 0, 0, 1, 2, 3, 4, 5, 6, 6, 0, 7, 8], by kernel_rfl⟩ [[], [], [], [1, 2], [1, 2, 3], [], [], [5, 6], [5, 6, 7], [5, 6, 7, 8], [0, 1, 2, 3, 4, 5, 6, 7, 8, 9], [0, 1, 2, 3, 4, 5, 6, 7, 8, 9, 10], [0, 1, 2, 3, 4, 5, 6, 7, 8, 9, 10, 11], [0, 1, 2, 3, 4, 5, 6, 7, 8, 9, 10, 11], [], [0, 1, 2, 3, 4, 5, 6, 7, 8, 9, 10, 11, 12, 14], [0, 1, 2, 3, 4, 5, 6, 7, 8, 9, 10, 11, 12, 13, 14, 15]] (by kernel_rfl) (by kernel_rfl) 146 hz (by kernel_rfl) (fun (xx : Nat × Option Addr × Nat) jx => match xx with | (b11, a20_10, c20_10) => nth [.agg #[.int .i64 40, .slice b ((addAll qs).length) bc], .slice (some y2) rest.length rc, .int .i64 ix, .pointer (some (y2.add ix)), .string k, .slice (some y2) rest.length rc, .int .i64 ix, .pointer (some (y2.add ix)), .string k, .int .i64 k.size, .tuple #[.agg #[.int .i64 40, .slice a20_10 ((addAll (qs ++ [k])).length) c20_10], .bool true], .tuple #[.agg #[.int .i64 40, .slice a20_10 ((addAll (qs ++ [k])).length) c20_10], .bool true], .agg #[.int .i64 40, .slice a20_10 ((addAll (qs ++ [k])).length) c20_10], .bool true, .pointer (some ⟨b11, 0, none⟩), undef, .bool true] jx) (fun (LL : Nat → Bool) (xx : Nat × Option Addr × Nat) ww => match xx with | (b11, a20_10, c20_10) => Hp [] wa ww (bif LL 14 then (bif LL 10 then (bif LL 15 then [rS a20_10 c20_10 2 ((addAll (qs ++ [k])).map rowOf), rB b11 43 [.int .i64 40, .slice a20_10 ((addAll (qs ++ [k])).length) c20_10], rB b8 43 [.int .i64 40, .slice b ((addAll qs).length) bc], rA (some y2) rc 9 1 (rest.map kRow), rB b5 43 [.int .i64 40, .slice a ((addAll ks).length) cc], rS a cc 2 ((addAll ks).map rowOf), rS b bc 2 ((addAll qs).map rowOf), rS pa pc 1 (ps.map pickRow), rS ka kc 1 (ks.map kRow)] else [rS a20_10 c20_10 2 ((addAll (qs ++ [k])).map rowOf), rB b11 43 [.int .i64 0, .slice none 0 0], rB b8 43 [.int .i64 40, .slice b ((addAll qs).length) bc], rA (some y2) rc 9 1 (rest.map kRow), rB b5 43 [.int .i64 40, .slice a ((addAll ks).length) cc], rS a cc 2 ((addAll ks).map rowOf), rS b bc 2 ((addAll qs).map rowOf), rS pa pc 1 (ps.map pickRow), rS ka kc 1 (ks.map kRow)]) else [rB b11 43 [.int .i64 0, .slice none 0 0], rB b8 43 [.int .i64 40, .slice b ((addAll qs).length) bc], rA (some y2) rc 9 1 (rest.map kRow), rB b5 43 [.int .i64 40, .slice a ((addAll ks).length) cc], rS a cc 2 ((addAll ks).map rowOf), rS b bc 2 ((addAll qs).map rowOf), rS pa pc 1 (ps.map pickRow), rS ka kc 1 (ks.map kRow)]) else (bif LL 10 then [rS a20_10 c20_10 2 ((addAll (qs ++ [k])).map rowOf), rB b8 43 [.int .i64 40, .slice b ((addAll qs).length) bc], rA (some y2) rc 9 1 (rest.map kRow), rB b5 43 [.int .i64 40, .slice a ((addAll ks).length) cc], rS a cc 2 ((addAll ks).map rowOf), rS b bc 2 ((addAll qs).map rowOf), rS pa pc 1 (ps.map pickRow), rS ka kc 1 (ks.map kRow)] else [rB b8 43 [.int .i64 40, .slice b ((addAll qs).length) bc], rA (some y2) rc 9 1 (rest.map kRow), rB b5 43 [.int .i64 40, .slice a ((addAll ks).length) cc], rS a cc 2 ((addAll ks).map rowOf), rS b bc 2 ((addAll qs).map rowOf), rS pa pc 1 (ps.map pickRow), rS ka kc 1 (ks.map kRow)]))) (default, default, default) H.out.drew ?_ (steps_al ?_) ?_ ?_
  · intro L1 L2 xx ww hL sg
    have lh14 := hL 14 (by decide)
    have lh10 := hL 10 (by decide)
    have lh15 := hL 15 (by decide)
    simp only [lh14, lh10, lh15] at sg
    exact sg
  · refine al_cons ?_ (al_cons ?_ (al_cons ?_ (al_cons ?_ (al_cons ?_ (al_cons ?_ (al_cons ?_ (al_cons ?_ (al_cons ?_ (al_cons ?_ (al_cons ?_ (al_cons ?_ (al_cons ?_ (al_cons ?_ (al_cons ?_ (al_cons ?_ (al_cons ?_ (al_nil)))))))))))))))))
    · intro LL xx ac wc sg hst hwant QQ hgo
      obtain ⟨b11, a20_10, c20_10⟩ := xx
      rcases Bool.eq_false_or_eq_true (LL 14) with lh14 | lh14
      · skip
        have H := Lib.hid hst
        simp only [lh14, sg.des 10 rfl, sg.des 15 rfl, cond_true, cond_false] at H
        refine hpA_load tyshelf_Shelf_string__int_ H rfl ((sg.free 8 (by kernel_rfl)).trans so8) hwant (by (repeat (first | exact List.Mem.head _ | apply List.Mem.tail))) (by rfl) rfl ?_
        exact hgo _ (b11, a20_10, c20_10) _ (fun _ _ => rfl) rfl hst
      · skip
        have H := Lib.hid hst
        simp only [lh14, sg.des 10 rfl, sg.des 15 rfl, cond_true, cond_false] at H
        refine hpA_load tyshelf_Shelf_string__int_ H rfl ((sg.free 8 (by kernel_rfl)).trans so8) hwant (by (repeat (first | exact List.Mem.head _ | apply List.Mem.tail))) (by rfl) rfl ?_
        exact hgo _ (b11, a20_10, c20_10) _ (fun _ _ => rfl) rfl hst
    · intro LL xx ac wc sg hst hwant QQ hgo
      obtain ⟨b11, a20_10, c20_10⟩ := xx
      exact op_val hwant hgo hst _ (exec_move rfl ((sg.free 7 (by kernel_rfl)).trans so7)) rfl
    · intro LL xx ac wc sg hst hwant QQ hgo
      obtain ⟨b11, a20_10, c20_10⟩ := xx
      exact op_val hwant hgo hst _ (exec_move rfl ((sg.free 10 (by kernel_rfl)).trans so10)) rfl
    · intro LL xx ac wc sg hst hwant QQ hgo
      obtain ⟨b11, a20_10, c20_10⟩ := xx
      have se74 : ac.eval (.tmp 74) = _ := (sg.slot 1 (sg.anc 1 rfl))
      have sg74 := gt_of se74
      have se75 : ac.eval (.tmp 75) = _ := (sg.slot 2 (sg.anc 2 rfl))
      have sg75 := gt_of se75
      (try simp only [nth] at se74 sg74 se75 sg75)
      exact op_val hwant hgo hst _ (by simp only [execOp, nth]; go_simp <;> omega) rfl
    · intro LL xx ac wc sg hst hwant QQ hgo
      obtain ⟨b11, a20_10, c20_10⟩ := xx
      rcases Bool.eq_false_or_eq_true (LL 14) with lh14 | lh14
      · skip
        have H := Lib.hid hst
        simp only [lh14, sg.des 10 rfl, sg.des 15 rfl, cond_true, cond_false] at H
        replace H := hp_read H 2 rfl
        refine hpS_load1 0 tystring H rfl (sg.slot 3 (sg.anc 3 rfl)) hwant (by (repeat (first | exact List.Mem.head _ | apply List.Mem.tail))) HRk.out (by rfl) (by simp [Addr.add]) ?_
        exact hgo _ (b11, a20_10, c20_10) _ (fun _ _ => rfl) rfl hst
      · skip
        have H := Lib.hid hst
        simp only [lh14, sg.des 10 rfl, sg.des 15 rfl, cond_true, cond_false] at H
        replace H := hp_read H 1 rfl
        refine hpS_load1 0 tystring H rfl (sg.slot 3 (sg.anc 3 rfl)) hwant (by (repeat (first | exact List.Mem.head _ | apply List.Mem.tail))) HRk.out (by rfl) (by simp [Addr.add]) ?_
        exact hgo _ (b11, a20_10, c20_10) _ (fun _ _ => rfl) rfl hst
    · intro LL xx ac wc sg hst hwant QQ hgo
      obtain ⟨b11, a20_10, c20_10⟩ := xx
      exact op_val hwant hgo hst _ (exec_move rfl ((sg.free 7 (by kernel_rfl)).trans so7)) rfl
    · intro LL xx ac wc sg hst hwant QQ hgo
      obtain ⟨b11, a20_10, c20_10⟩ := xx
      exact op_val hwant hgo hst _ (exec_move rfl ((sg.free 10 (by kernel_rfl)).trans so10)) rfl
    · intro LL xx ac wc sg hst hwant QQ hgo
      obtain ⟨b11, a20_10, c20_10⟩ := xx
      have se78 : ac.eval (.tmp 78) = _ := (sg.slot 5 (sg.anc 5 rfl))
      have sg78 := gt_of se78
      have se79 : ac.eval (.tmp 79) = _ := (sg.slot 6 (sg.anc 6 rfl))
      have sg79 := gt_of se79
      (try simp only [nth] at se78 sg78 se79 sg79)
      exact op_val hwant hgo hst _ (by simp only [execOp, nth]; go_simp <;> omega) rfl
    · intro LL xx ac wc sg hst hwant QQ hgo
      obtain ⟨b11, a20_10, c20_10⟩ := xx
      rcases Bool.eq_false_or_eq_true (LL 14) with lh14 | lh14
      · skip
        have H := Lib.hid hst
        simp only [lh14, sg.des 10 rfl, sg.des 15 rfl, cond_true, cond_false] at H
        replace H := hp_read H 2 rfl
        refine hpS_load1 0 tystring H rfl (sg.slot 7 (sg.anc 7 rfl)) hwant (by (repeat (first | exact List.Mem.head _ | apply List.Mem.tail))) HRk.out (by rfl) (by simp [Addr.add]) ?_
        exact hgo _ (b11, a20_10, c20_10) _ (fun _ _ => rfl) rfl hst
      · skip
        have H := Lib.hid hst
        simp only [lh14, sg.des 10 rfl, sg.des 15 rfl, cond_true, cond_false] at H
        replace H := hp_read H 1 rfl
        refine hpS_load1 0 tystring H rfl (sg.slot 7 (sg.anc 7 rfl)) hwant (by (repeat (first | exact List.Mem.head _ | apply List.Mem.tail))) HRk.out (by rfl) (by simp [Addr.add]) ?_
        exact hgo _ (b11, a20_10, c20_10) _ (fun _ _ => rfl) rfl hst
    · intro LL xx ac wc sg hst hwant QQ hgo
      obtain ⟨b11, a20_10, c20_10⟩ := xx
      have se81 : ac.eval (.tmp 81) = _ := (sg.slot 8 (sg.anc 8 rfl))
      have sg81 := gt_of se81
      (try simp only [nth] at se81 sg81)
      exact op_val hwant hgo hst _ (by simp only [execOp, nth]; go_simp <;> omega) rfl
    · intro LL xx ac wc sg hst hwant QQ hgo
      obtain ⟨b11, _, _⟩ := xx
      have se73 : ac.eval (.tmp 73) = _ := (sg.slot 0 (sg.anc 0 rfl))
      have sg73 := gt_of se73
      have se77 : ac.eval (.tmp 77) = _ := (sg.slot 4 (sg.anc 4 rfl))
      have sg77 := gt_of se77
      have se82 : ac.eval (.tmp 82) = _ := (sg.slot 9 (sg.anc 9 rfl))
      have sg82 := gt_of se82
      (try simp only [nth] at se73 sg73 se77 sg77 se82 sg82)
      rcases Bool.eq_false_or_eq_true (LL 14) with lh14 | lh14
      · skip
        have H := Lib.hid hst
        simp only [lh14, sg.self, sg.des 15 rfl, cond_true, cond_false] at H
        refine op_call hwant hgo 27 _ (by simp only [execOp]; go_simp) (withAdd b bc qs k wc (hp_held H (by (repeat (first | exact List.Mem.head _ | apply List.Mem.tail)))) (by omega)) ?_
        rintro er wd ⟨a20_10, c20_10, rfl, hgv⟩
        have H2 := hp_got H hgv.2.2 hgv.1 (by decide) hgv.2.1 (by simp)
        exact ⟨_, (b11, a20_10, c20_10), rfl, (sg.agree (x' := (b11, a20_10, c20_10)) (n := 17) rfl (by (iterate 17 (refine ix_cons (by first | exact fun _ => rfl | exact no sg.self | exact no (sg.des _ rfl)) ?_)); exact ix_nil)), rfl, (by simp only [(show upd LL 10 14 = LL 14 from rfl), lh14, (show upd LL 10 10 = true from rfl), (show upd LL 10 15 = LL 15 from rfl), sg.des 15 rfl, cond_true, cond_false]; exact H2.out)⟩
      · skip
        have H := Lib.hid hst
        simp only [lh14, sg.self, sg.des 15 rfl, cond_true, cond_false] at H
        refine op_call hwant hgo 27 _ (by simp only [execOp]; go_simp) (withAdd b bc qs k wc (hp_held H (by (repeat (first | exact List.Mem.head _ | apply List.Mem.tail)))) (by omega)) ?_
        rintro er wd ⟨a20_10, c20_10, rfl, hgv⟩
        have H2 := hp_got H hgv.2.2 hgv.1 (by decide) hgv.2.1 (by simp)
        exact ⟨_, (b11, a20_10, c20_10), rfl, (sg.agree (x' := (b11, a20_10, c20_10)) (n := 17) rfl (by (iterate 17 (refine ix_cons (by first | exact fun _ => rfl | exact no sg.self | exact no (sg.des _ rfl)) ?_)); exact ix_nil)), rfl, (by simp only [(show upd LL 10 14 = LL 14 from rfl), lh14, (show upd LL 10 10 = true from rfl), (show upd LL 10 15 = LL 15 from rfl), sg.des 15 rfl, cond_true, cond_false]; exact H2.out)⟩
    · intro LL xx ac wc sg hst hwant QQ hgo
      obtain ⟨b11, a20_10, c20_10⟩ := xx
      exact op_val hwant hgo hst _ (exec_move rfl (sg.slot 10 (sg.anc 10 rfl))) rfl
    · intro LL xx ac wc sg hst hwant QQ hgo
      obtain ⟨b11, a20_10, c20_10⟩ := xx
      have se72 : ac.eval (.tmp 72) = _ := (sg.slot 11 (sg.anc 11 rfl))
      have sg72 := gt_of se72
      (try simp only [nth] at se72 sg72)
      exact op_val hwant hgo hst _ (by simp only [execOp, nth]; go_simp <;> omega) rfl
    · intro LL xx ac wc sg hst hwant QQ hgo
      obtain ⟨b11, a20_10, c20_10⟩ := xx
      have se72 : ac.eval (.tmp 72) = _ := (sg.slot 11 (sg.anc 11 rfl))
      have sg72 := gt_of se72
      (try simp only [nth] at se72 sg72)
      exact op_val hwant hgo hst _ (by simp only [execOp, nth]; go_simp <;> omega) rfl
    · intro LL xx ac wc sg hst hwant QQ hgo
      obtain ⟨_, a20_10, c20_10⟩ := xx
      rcases Bool.eq_false_or_eq_true (LL 10) with lh10 | lh10
      · skip
        have H := Lib.hid hst
        simp only [sg.self, lh10, sg.des 15 rfl, cond_true, cond_false] at H
        refine hpA_alloc tyshelf_Shelf_string__int_ H rfl rfl ?_
        intro wd b11 H2
        replace H2 := hp_front H2 8 rfl
        replace H2 := hp_front H2 8 rfl
        replace H2 := hp_front H2 8 rfl
        replace H2 := hp_front H2 8 rfl
        replace H2 := hp_front H2 8 rfl
        replace H2 := hp_front H2 8 rfl
        replace H2 := hp_front H2 8 rfl
        replace H2 := hp_front H2 7 rfl
        replace H2 := hp_front H2 8 rfl
        exact hgo _ (b11, a20_10, c20_10) _ (sg.agree (x' := (b11, a20_10, c20_10)) (n := 17) rfl (by (iterate 17 (refine ix_cons (by first | exact fun _ => rfl | exact no sg.self | exact no (sg.des _ rfl)) ?_)); exact ix_nil)) rfl (by simp only [(show upd LL 14 14 = true from rfl), (show upd LL 14 10 = LL 10 from rfl), lh10, (show upd LL 14 15 = LL 15 from rfl), sg.des 15 rfl, cond_true, cond_false]; exact H2.out)
      · skip
        have H := Lib.hid hst
        simp only [sg.self, lh10, sg.des 15 rfl, cond_true, cond_false] at H
        refine hpA_alloc tyshelf_Shelf_string__int_ H rfl rfl ?_
        intro wd b11 H2
        exact hgo _ (b11, a20_10, c20_10) _ (sg.agree (x' := (b11, a20_10, c20_10)) (n := 17) rfl (by (iterate 17 (refine ix_cons (by first | exact fun _ => rfl | exact no sg.self | exact no (sg.des _ rfl)) ?_)); exact ix_nil)) rfl (by simp only [(show upd LL 14 14 = true from rfl), (show upd LL 14 10 = LL 10 from rfl), lh10, (show upd LL 14 15 = LL 15 from rfl), sg.des 15 rfl, cond_true, cond_false]; exact H2.out)
    · intro LL xx ac wc sg hst hwant QQ hgo
      obtain ⟨b11, a20_10, c20_10⟩ := xx
      have H := Lib.hid hst
      simp only [sg.anc 14 rfl, sg.anc 10 rfl, sg.self, cond_true, cond_false] at H
      refine hpA_store tyshelf_Shelf_string__int_ H rfl rfl (sg.slot 14 (sg.anc 14 rfl)) (sg.slot 12 (sg.anc 12 rfl)) rfl (by repeat (first | apply Put.head | apply Put.tail)) (by simp [List.length_cons]) (by simp [List.length_cons, Value.oneCell']) (by first | rfl | (simp only [spl]; rfl)) rfl ?_
      intro wd H2
      exact hgo _ (b11, a20_10, c20_10) _ (sg.agree (x' := (b11, a20_10, c20_10)) (n := 17) rfl (by (iterate 17 (refine ix_cons (by first | exact fun _ => rfl | exact no sg.self | exact no (sg.des _ rfl)) ?_)); exact ix_nil)) rfl (by simp only [(show upd LL 15 14 = LL 14 from rfl), sg.anc 14 rfl, (show upd LL 15 10 = LL 10 from rfl), sg.anc 10 rfl, (show upd LL 15 15 = true from rfl), cond_true, cond_false]; exact H2.out)
    · intro LL xx ac wc sg hst hwant QQ hgo
      obtain ⟨b11, a20_10, c20_10⟩ := xx
      exact op_val hwant hgo hst _ (exec_assign rfl (sg.slot 13 (sg.anc 13 rfl))) rfl
  · exact skips [] (by kernel_rfl) (fun _ h => by cases h)
  · intro xx ac1 wz hfr hsl hst
    obtain ⟨b11, a20_10, c20_10⟩ := xx
    exact hfin b11 a20_10 c20_10 ac1 wz (hfr.size.trans hz) hfr.defers (fr_keep hfr [11, 12, 72, 73, 74, 75, 76, 77, 78, 79, 80, 81, 82, 83, 84, 85] (by kernel_rfl)) (hsl 14 (by decide)) (hsl 16 (by decide)) (Lib.hid hst)
set_option maxRecDepth 20000 in
theorem order_w_r21 (ka : Option Addr) (kc : Nat) (ks : List KeyV) (pa : Option Addr) (pc : Nat) (ps : List Int) (z1d : ¬ (40 < (ks.length : Int))) (h40 : ks.length ≤ 40) (b5 : Nat) (i0 : Nat) (a : Option Addr) (cc : Nat) (q0 : List KeyV) (hi : i0 ≤ ks.length) (hq0 : q0.length = i0) (z2d : ¬ (i0 < ks.length)) (b8 : Nat) (i : Nat) (b : Option Addr) (bc : Nat) (qs : List KeyV) (rc : Nat) (rest : List KeyV) (hq1 : qs.length = i) (hrl : i + rest.length = ks.length) (z4d : 0 < (rest.length : Int)) (ix : Nat) (hat : ix < rest.length) (y2 : Addr) (k : KeyV) (b11 : Nat) (a20_10 : Option Addr) (c20_10 : Nat) {wa wb : World} (H : Hid (Hp [] wa wb [rS a20_10 c20_10 2 ((addAll (qs ++ [k])).map rowOf), rB b11 43 [.int .i64 40, .slice a20_10 ((addAll (qs ++ [k])).length) c20_10], rB b8 43 [.int .i64 40, .slice b ((addAll qs).length) bc], rA (some y2) rc 9 1 (rest.map kRow), rB b5 43 [.int .i64 40, .slice a ((addAll ks).length) cc], rS a cc 2 ((addAll ks).map rowOf), rS b bc 2 ((addAll qs).map rowOf), rS pa pc 1 (ps.map pickRow), rS ka kc 1 (ks.map kRow)])) (ac0 : Act) (hz : ac0.tmps.size = 146) (so12 : ac0.eval (.tmp 12) = .bool true) {QR : Exit → Act → World → Prop} (hfin : ∀ (ac1 : Act) (wz : World), ac1.tmps.size = 146 → ac1.defers = ac0.defers → (∀ t, ([86, 87] : List Nat).contains t = false → ac1.eval (.tmp t) = ac0.eval (.tmp t)) → ac1.eval (.tmp 87) = .bool false →  Hid (Hp [] wa wz [rS a20_10 c20_10 2 ((addAll (qs ++ [k])).map rowOf), rB b11 43 [.int .i64 40, .slice a20_10 ((addAll (qs ++ [k])).length) c20_10], rB b8 43 [.int .i64 40, .slice b ((addAll qs).length) bc], rA (some y2) rc 9 1 (rest.map kRow), rB b5 43 [.int .i64 40, .slice a ((addAll ks).length) cc], rS a cc 2 ((addAll ks).map rowOf), rS b bc 2 ((addAll qs).map rowOf), rS pa pc 1 (ps.map pickRow), rS ka kc 1 (ks.map kRow)]) → QR .normal ac1 wz) : (regAt Try.f5 21).wp Try.prog QR ac0 wb := by
  refine wp_region_sq (by kernel_rfl) 146 hz (by kernel_rfl) (fun (xx : Unit) jx => nth [.bool true, .bool false] jx) (fun (LL : Nat → Bool) (xx : Unit) ww => Hp [] wa ww [rS a20_10 c20_10 2 ((addAll (qs ++ [k])).map rowOf), rB b11 43 [.int .i64 40, .slice a20_10 ((addAll (qs ++ [k])).length) c20_10], rB b8 43 [.int .i64 40, .slice b ((addAll qs).length) bc], rA (some y2) rc 9 1 (rest.map kRow), rB b5 43 [.int .i64 40, .slice a ((addAll ks).length) cc], rS a cc 2 ((addAll ks).map rowOf), rS b bc 2 ((addAll qs).map rowOf), rS pa pc 1 (ps.map pickRow), rS ka kc 1 (ks.map kRow)]) () H.out ?_ (steps_al ?_) ?_ ?_
  · exact fun _ _ _ _ _ h => h
  · refine al_cons ?_ (al_cons ?_ (al_nil))
    · intro LL xx ac wc sg hst hwant QQ hgo
      exact op_val hwant hgo hst _ (exec_move rfl ((sg.free 12 (by kernel_rfl)).trans so12)) rfl
    · intro LL xx ac wc sg hst hwant QQ hgo
      have se86 : ac.eval (.tmp 86) = _ := (sg.slot 0 (sg.anc 0 rfl))
      have sg86 := gt_of se86
      (try simp only [nth] at se86 sg86)
      exact op_val hwant hgo hst _ (by simp only [execOp, nth]; go_simp <;> omega) rfl
  · exact skips [] (by kernel_rfl) (fun _ h => by cases h)
  · intro xx ac1 wz hfr hsl hst
    exact hfin ac1 wz (hfr.size.trans hz) hfr.defers (fr_keep hfr [86, 87] (by kernel_rfl)) (hsl 1 (by decide)) (Lib.hid hst)
set_option maxRecDepth 20000 in
theorem order_w_r23 (ka : Option Addr) (kc : Nat) (ks : List KeyV) (pa : Option Addr) (pc : Nat) (ps : List Int) (z1d : ¬ (40 < (ks.length : Int))) (h40 : ks.length ≤ 40) (b5 : Nat) (i0 : Nat) (a : Option Addr) (cc : Nat) (q0 : List KeyV) (hi : i0 ≤ ks.length) (hq0 : q0.length = i0) (z2d : ¬ (i0 < ks.length)) (b8 : Nat) (i : Nat) (b : Option Addr) (bc : Nat) (qs : List KeyV) (rc : Nat) (rest : List KeyV) (hq1 : qs.length = i) (hrl : i + rest.length = ks.length) (z4d : 0 < (rest.length : Int)) (ix : Nat) (hat : ix < rest.length) (y2 : Addr) (k : KeyV) (b11 : Nat) (a20_10 : Option Addr) (c20_10 : Nat) {wa wb : World} (H : Hid (Hp [] wa wb [rS a20_10 c20_10 2 ((addAll (qs ++ [k])).map rowOf), rB b11 43 [.int .i64 40, .slice a20_10 ((addAll (qs ++ [k])).length) c20_10], rB b8 43 [.int .i64 40, .slice b ((addAll qs).length) bc], rA (some y2) rc 9 1 (rest.map kRow), rB b5 43 [.int .i64 40, .slice a ((addAll ks).length) cc], rS a cc 2 ((addAll ks).map rowOf), rS b bc 2 ((addAll qs).map rowOf), rS pa pc 1 (ps.map pickRow), rS ka kc 1 (ks.map kRow)])) (ac0 : Act) (hz : ac0.tmps.size = 146) (so8 : ac0.eval (.tmp 8) = .pointer (some ⟨b8, 0, none⟩)) (so11 : ac0.eval (.tmp 11) = .pointer (some ⟨b11, 0, none⟩)) {QR : Exit → Act → World → Prop} (hfin : ∀ (ac1 : Act) (wz : World), ac1.tmps.size = 146 → ac1.defers = ac0.defers → (∀ t, ([88] : List Nat).contains t = false → ac1.eval (.tmp t) = ac0.eval (.tmp t)) →  Hid (Hp [] wa wz [rS a20_10 c20_10 2 ((addAll (qs ++ [k])).map rowOf), rB b11 43 [.int .i64 40, .slice a20_10 ((addAll (qs ++ [k])).length) c20_10], rB b8 43 [.int .i64 40, .slice a20_10 ((addAll (qs ++ [k])).length) c20_10], rA (some y2) rc 9 1 (rest.map kRow), rB b5 43 [.int .i64 40, .slice a ((addAll ks).length) cc], rS a cc 2 ((addAll ks).map rowOf), rS b bc 2 ((addAll qs).map rowOf), rS pa pc 1 (ps.map pickRow), rS ka kc 1 (ks.map kRow)]) → QR .normal ac1 wz) : (regAt Try.f5 23).wp Try.prog QR ac0 wb := by
  refine wp_region_sq (by kernel_rfl) 146 hz (by kernel_rfl) (fun (xx : Unit) jx => nth [.agg #[.int .i64 40, .slice a20_10 ((addAll (qs ++ [k])).length) c20_10], undef] jx) (fun (LL : Nat → Bool) (xx : Unit) ww => Hp [] wa ww (bif LL 1 then [rS a20_10 c20_10 2 ((addAll (qs ++ [k])).map rowOf), rB b11 43 [.int .i64 40, .slice a20_10 ((addAll (qs ++ [k])).length) c20_10], rB b8 43 [.int .i64 40, .slice a20_10 ((addAll (qs ++ [k])).length) c20_10], rA (some y2) rc 9 1 (rest.map kRow), rB b5 43 [.int .i64 40, .slice a ((addAll ks).length) cc], rS a cc 2 ((addAll ks).map rowOf), rS b bc 2 ((addAll qs).map rowOf), rS pa pc 1 (ps.map pickRow), rS ka kc 1 (ks.map kRow)] else [rS a20_10 c20_10 2 ((addAll (qs ++ [k])).map rowOf), rB b11 43 [.int .i64 40, .slice a20_10 ((addAll (qs ++ [k])).length) c20_10], rB b8 43 [.int .i64 40, .slice b ((addAll qs).length) bc], rA (some y2) rc 9 1 (rest.map kRow), rB b5 43 [.int .i64 40, .slice a ((addAll ks).length) cc], rS a cc 2 ((addAll ks).map rowOf), rS b bc 2 ((addAll qs).map rowOf), rS pa pc 1 (ps.map pickRow), rS ka kc 1 (ks.map kRow)])) () H.out ?_ (steps_al ?_) ?_ ?_
  · intro L1 L2 xx ww hL sg
    have lh1 := hL 1 (by decide)
    simp only [lh1] at sg
    exact sg
  · refine al_cons ?_ (al_cons ?_ (al_nil))
    · intro LL xx ac wc sg hst hwant QQ hgo
      have H := Lib.hid hst
      simp only [sg.des 1 rfl, cond_true, cond_false] at H
      refine hpA_load tyshelf_Shelf_string__int_ H rfl ((sg.free 11 (by kernel_rfl)).trans so11) hwant (by (repeat (first | exact List.Mem.head _ | apply List.Mem.tail))) (by rfl) rfl ?_
      exact hgo _ () _ (fun _ _ => rfl) rfl hst
    · intro LL xx ac wc sg hst hwant QQ hgo
      have H := Lib.hid hst
      simp only [sg.self, cond_true, cond_false] at H
      refine hpA_store tyshelf_Shelf_string__int_ H rfl rfl ((sg.free 8 (by kernel_rfl)).trans so8) (sg.slot 0 (sg.anc 0 rfl)) rfl (by repeat (first | apply Put.head | apply Put.tail)) (by simp [List.length_cons]) (by simp [List.length_cons, Value.oneCell']) (by first | rfl | (simp only [spl]; rfl)) rfl ?_
      intro wd H2
      exact hgo _ () _ (fun _ _ => rfl) rfl (by simp only [(show upd LL 1 1 = true from rfl), cond_true, cond_false]; exact H2.out)
  · exact skips [] (by kernel_rfl) (fun _ h => by cases h)
  · intro xx ac1 wz hfr hsl hst
    exact hfin ac1 wz (hfr.size.trans hz) hfr.defers (fr_keep hfr [88] (by kernel_rfl)) (Lib.hid hst)
set_option maxRecDepth 20000 in
theorem order_w_r24 (ka : Option Addr) (kc : Nat) (ks : List KeyV) (pa : Option Addr) (pc : Nat) (ps : List Int) (z1d : ¬ (40 < (ks.length : Int))) (h40 : ks.length ≤ 40) (b5 : Nat) (i0 : Nat) (a : Option Addr) (cc : Nat) (q0 : List KeyV) (hi : i0 ≤ ks.length) (hq0 : q0.length = i0) (z2d : ¬ (i0 < ks.length)) (b8 : Nat) (i : Nat) (b : Option Addr) (bc : Nat) (qs : List KeyV) (rc : Nat) (rest : List KeyV) (hq1 : qs.length = i) (hrl : i + rest.length = ks.length) (z4d : 0 < (rest.length : Int)) (ix : Nat) (hat : ix < rest.length) (y2 : Addr) (k : KeyV) (b11 : Nat) (a20_10 : Option Addr) (c20_10 : Nat) (hrc : rest.length ≤ rc) {wa wb : World} (H : Hid (Hp [] wa wb [rS a20_10 c20_10 2 ((addAll (qs ++ [k])).map rowOf), rB b11 43 [.int .i64 40, .slice a20_10 ((addAll (qs ++ [k])).length) c20_10], rB b8 43 [.int .i64 40, .slice a20_10 ((addAll (qs ++ [k])).length) c20_10], rA (some y2) rc 9 1 (rest.map kRow), rB b5 43 [.int .i64 40, .slice a ((addAll ks).length) cc], rS a cc 2 ((addAll ks).map rowOf), rS b bc 2 ((addAll qs).map rowOf), rS pa pc 1 (ps.map pickRow), rS ka kc 1 (ks.map kRow)])) (ac0 : Act) (hz : ac0.tmps.size = 146) (so7 : ac0.eval (.tmp 7) = .slice (some y2) rest.length rc) (so10 : ac0.eval (.tmp 10) = .int .i64 ix) {QR : Exit → Act → World → Prop} (hfin : ∀ (b89 : Nat) (a93 : Option Addr) (c93 : Nat) (a98 : Option Addr) (c98 : Nat) (ac1 : Act) (wz : World), ac1.tmps.size = 146 → ac1.defers = ac0.defers → (∀ t, ([7, 89, 90, 91, 92, 93, 94, 95, 96, 97, 98] : List Nat).contains t = false → ac1.eval (.tmp t) = ac0.eval (.tmp t)) → ac1.eval (.tmp 7) = .slice a98 (((([] : List KeyV) ++ (rest.take ix)) ++ (rest.drop (ix + 1))).length) c98 →  Hid (Hp [] wa wz [rA a98 c98 9 1 (((([] : List KeyV) ++ (rest.take ix)) ++ (rest.drop (ix + 1))).map kRow), rS a20_10 c20_10 2 ((addAll (qs ++ [k])).map rowOf), rB b11 43 [.int .i64 40, .slice a20_10 ((addAll (qs ++ [k])).length) c20_10], rB b8 43 [.int .i64 40, .slice a20_10 ((addAll (qs ++ [k])).length) c20_10], rA (some y2) rc 9 1 (rest.map kRow), rB b5 43 [.int .i64 40, .slice a ((addAll ks).length) cc], rS a cc 2 ((addAll ks).map rowOf), rS b bc 2 ((addAll qs).map rowOf), rS pa pc 1 (ps.map pickRow), rS ka kc 1 (ks.map kRow)]) → QR .normal ac1 wz) : (regAt Try.f5 24).wp Try.prog QR ac0 wb := by
  refine wp_region_st mixedP ⟨[0, 0, 0, 1, 2, 0, 0, 1, 2, 3, 4], by kernel_rfl⟩ [[], [], [], [1, 2], [0, 1, 2, 3], [], [], [6], [5, 6, 7], [0, 1, 2, 3, 4, 5, 6, 7, 8], [0, 1, 2, 3, 4, 5, 6, 7, 8, 9]] (by kernel_rfl) (by kernel_rfl) 146 hz (by kernel_rfl) (fun (xx : Nat × Option Addr × Nat × Option Addr × Nat) jx => match xx with | (b89, a93, c93, a98, c98) => nth [.slice (some ⟨b89, 0, none⟩) 0 0, .slice (some y2) rest.length rc, .int .i64 ix, .slice (some y2) ix rc, .slice a93 ((([] : List KeyV) ++ (rest.take ix)).length) c93, .slice (some y2) rest.length rc, .int .i64 ix, .int .i64 (ix + 1), .slice (cutA (some y2) rc (ix + 1) 1) (rest.length - (ix + 1)) (rc - (ix + 1)), .slice a98 (((([] : List KeyV) ++ (rest.take ix)) ++ (rest.drop (ix + 1))).length) c98, .slice a98 (((([] : List KeyV) ++ (rest.take ix)) ++ (rest.drop (ix + 1))).length) c98] jx) (fun (LL : Nat → Bool) (xx : Nat × Option Addr × Nat × Option Addr × Nat) ww => match xx with | (b89, a93, c93, a98, c98) => Hp [] wa ww (bif LL 0 then (bif LL 4 then (bif LL 9 then [rA a98 c98 9 1 (((([] : List KeyV) ++ (rest.take ix)) ++ (rest.drop (ix + 1))).map kRow), rS a20_10 c20_10 2 ((addAll (qs ++ [k])).map rowOf), rB b11 43 [.int .i64 40, .slice a20_10 ((addAll (qs ++ [k])).length) c20_10], rB b8 43 [.int .i64 40, .slice a20_10 ((addAll (qs ++ [k])).length) c20_10], rA (some y2) rc 9 1 (rest.map kRow), rB b5 43 [.int .i64 40, .slice a ((addAll ks).length) cc], rS a cc 2 ((addAll ks).map rowOf), rS b bc 2 ((addAll qs).map rowOf), rS pa pc 1 (ps.map pickRow), rS ka kc 1 (ks.map kRow)] else [rA a93 c93 9 1 ((([] : List KeyV) ++ (rest.take ix)).map kRow), rS a20_10 c20_10 2 ((addAll (qs ++ [k])).map rowOf), rB b11 43 [.int .i64 40, .slice a20_10 ((addAll (qs ++ [k])).length) c20_10], rB b8 43 [.int .i64 40, .slice a20_10 ((addAll (qs ++ [k])).length) c20_10], rA (some y2) rc 9 1 (rest.map kRow), rB b5 43 [.int .i64 40, .slice a ((addAll ks).length) cc], rS a cc 2 ((addAll ks).map rowOf), rS b bc 2 ((addAll qs).map rowOf), rS pa pc 1 (ps.map pickRow), rS ka kc 1 (ks.map kRow)]) else [rA (some ⟨b89, 0, none⟩) 0 9 1 (([] : List KeyV).map kRow), rS a20_10 c20_10 2 ((addAll (qs ++ [k])).map rowOf), rB b11 43 [.int .i64 40, .slice a20_10 ((addAll (qs ++ [k])).length) c20_10], rB b8 43 [.int .i64 40, .slice a20_10 ((addAll (qs ++ [k])).length) c20_10], rA (some y2) rc 9 1 (rest.map kRow), rB b5 43 [.int .i64 40, .slice a ((addAll ks).length) cc], rS a cc 2 ((addAll ks).map rowOf), rS b bc 2 ((addAll qs).map rowOf), rS pa pc 1 (ps.map pickRow), rS ka kc 1 (ks.map kRow)]) else [rS a20_10 c20_10 2 ((addAll (qs ++ [k])).map rowOf), rB b11 43 [.int .i64 40, .slice a20_10 ((addAll (qs ++ [k])).length) c20_10], rB b8 43 [.int .i64 40, .slice a20_10 ((addAll (qs ++ [k])).length) c20_10], rA (some y2) rc 9 1 (rest.map kRow), rB b5 43 [.int .i64 40, .slice a ((addAll ks).length) cc], rS a cc 2 ((addAll ks).map rowOf), rS b bc 2 ((addAll qs).map rowOf), rS pa pc 1 (ps.map pickRow), rS ka kc 1 (ks.map kRow)])) (default, default, default, default, default) H.out.drew ?_ (steps_al ?_) ?_ ?_
  · intro L1 L2 xx ww hL sg
    have lh0 := hL 0 (by decide)
    have lh4 := hL 4 (by decide)
    have lh9 := hL 9 (by decide)
    simp only [lh0, lh4, lh9] at sg
    exact sg
  · refine al_cons ?_ (al_cons ?_ (al_cons ?_ (al_cons ?_ (al_cons ?_ (al_cons ?_ (al_cons ?_ (al_cons ?_ (al_cons ?_ (al_cons ?_ (al_cons ?_ (al_nil)))))))))))
    · intro LL xx ac wc sg hst hwant QQ hgo
      obtain ⟨_, a93, c93, a98, c98⟩ := xx
      have H := Lib.hid hst
      simp only [sg.self, sg.des 4 rfl, sg.des 9 rfl, cond_true, cond_false] at H
      refine hp_bslice0 elK H rfl hwant ?_
      intro wd b89 H2
      exact hgo _ (b89, a93, c93, a98, c98) _ (sg.agree (x' := (b89, a93, c93, a98, c98)) (n := 11) rfl (by (iterate 11 (refine ix_cons (by first | exact fun _ => rfl | exact no sg.self | exact no (sg.des _ rfl)) ?_)); exact ix_nil)) rfl (by simp only [(show upd LL 0 0 = true from rfl), (show upd LL 0 4 = LL 4 from rfl), sg.des 4 rfl, (show upd LL 0 9 = LL 9 from rfl), sg.des 9 rfl, cond_true, cond_false]; exact H2.out)
    · intro LL xx ac wc sg hst hwant QQ hgo
      obtain ⟨b89, a93, c93, a98, c98⟩ := xx
      exact op_val hwant hgo hst _ (exec_move rfl ((sg.yet 7 10 (sg.des 10 rfl) (by kernel_rfl)).trans so7)) rfl
    · intro LL xx ac wc sg hst hwant QQ hgo
      obtain ⟨b89, a93, c93, a98, c98⟩ := xx
      exact op_val hwant hgo hst _ (exec_move rfl ((sg.free 10 (by kernel_rfl)).trans so10)) rfl
    · intro LL xx ac wc sg hst hwant QQ hgo
      obtain ⟨b89, a93, c93, a98, c98⟩ := xx
      have hcy : ac.eval (.tmp 91) = .int .i64 (((ix : Nat)) : Int) := ((sg.slot 2 (sg.anc 2 rfl))).trans (by first | rfl | simp)
      exact op_val hwant hgo hst _ (exec_cut_h elK rfl (sg.slot 1 (sg.anc 1 rfl)) hcy (by omega)) rfl
    · intro LL xx ac wc sg hst hwant QQ hgo
      obtain ⟨b89, _, _, a98, c98⟩ := xx
      have H := Lib.hid hst
      simp only [sg.anc 0 rfl, sg.self, sg.des 9 rfl, cond_true, cond_false] at H
      refine hp_append (news := (rest.take ix).map kRow) elK H rfl rfl 0 rfl (sg.slot 0 (sg.anc 0 rfl)) (by simp) (sg.slot 3 (sg.anc 3 rfl)) (by simp <;> omega) (rS_take (hp_held (hp_read H 4 rfl) (show rS (some y2) rc 1 (rest.map kRow) ∈ _ by simp)) ix (by omega)) (by simp <;> omega) (by decide) ?_
      intro wd a93 c93 H2
      rw [show ([] : List KeyV).map kRow ++ (rest.take ix).map kRow = (([] : List KeyV) ++ (rest.take ix)).map kRow from List.map_append.symm] at H2 ⊢
      rw [List.length_map]
      exact hgo _ (b89, a93, c93, a98, c98) _ (sg.agree (x' := (b89, a93, c93, a98, c98)) (n := 11) rfl (by (iterate 11 (refine ix_cons (by first | exact fun _ => rfl | exact no sg.self | exact no (sg.des _ rfl)) ?_)); exact ix_nil)) rfl (by simp only [(show upd LL 4 0 = LL 0 from rfl), sg.anc 0 rfl, (show upd LL 4 4 = true from rfl), (show upd LL 4 9 = LL 9 from rfl), sg.des 9 rfl, cond_true, cond_false]; exact H2.out)
    · intro LL xx ac wc sg hst hwant QQ hgo
      obtain ⟨b89, a93, c93, a98, c98⟩ := xx
      exact op_val hwant hgo hst _ (exec_move rfl ((sg.yet 7 10 (sg.des 10 rfl) (by kernel_rfl)).trans so7)) rfl
    · intro LL xx ac wc sg hst hwant QQ hgo
      obtain ⟨b89, a93, c93, a98, c98⟩ := xx
      exact op_val hwant hgo hst _ (exec_move rfl ((sg.free 10 (by kernel_rfl)).trans so10)) rfl
    · intro LL xx ac wc sg hst hwant QQ hgo
      obtain ⟨b89, a93, c93, a98, c98⟩ := xx
      have se95 : ac.eval (.tmp 95) = _ := (sg.slot 6 (sg.anc 6 rfl))
      have sg95 := gt_of se95
      (try simp only [nth] at se95 sg95)
      have hnw : IntKind.i64.wrap (ix + 1 : Int) = ix + 1 := IntWalk.i64_in _ (by omega)
      exact op_val hwant hgo hst _ (by simp only [execOp, nth]; go_simp <;> omega) rfl
    · intro LL xx ac wc sg hst hwant QQ hgo
      obtain ⟨b89, a93, c93, a98, c98⟩ := xx
      have hcy : ac.eval (.tmp 96) = .int .i64 (((ix + 1 : Nat)) : Int) := ((sg.slot 7 (sg.anc 7 rfl))).trans (by first | rfl | simp)
      exact op_val hwant hgo hst _ (exec_cut_l elK rfl (sg.slot 5 (sg.anc 5 rfl)) hcy (by omega)) rfl
    · intro LL xx ac wc sg hst hwant QQ hgo
      obtain ⟨b89, a93, c93, _, _⟩ := xx
      have H := Lib.hid hst
      simp only [sg.anc 0 rfl, sg.anc 4 rfl, sg.self, cond_true, cond_false] at H
      refine hp_append (news := (rest.drop (ix + 1)).map kRow) elK H rfl rfl 0 rfl (sg.slot 4 (sg.anc 4 rfl)) (by simp) (sg.slot 8 (sg.anc 8 rfl)) (by simp <;> omega) (rS_drop (hp_held (hp_read H 4 rfl) (show rS (some y2) rc 1 (rest.map kRow) ∈ _ by simp)) (ix + 1) (by omega) (by have h := rA_cap (H.out.at 4 rfl); simpa using h)) (by simp <;> omega) (by decide) ?_
      intro wd a98 c98 H2
      rw [show (([] : List KeyV) ++ (rest.take ix)).map kRow ++ (rest.drop (ix + 1)).map kRow = ((([] : List KeyV) ++ (rest.take ix)) ++ (rest.drop (ix + 1))).map kRow from List.map_append.symm] at H2 ⊢
      rw [List.length_map]
      exact hgo _ (b89, a93, c93, a98, c98) _ (sg.agree (x' := (b89, a93, c93, a98, c98)) (n := 11) rfl (by (iterate 11 (refine ix_cons (by first | exact fun _ => rfl | exact no sg.self | exact no (sg.des _ rfl)) ?_)); exact ix_nil)) rfl (by simp only [(show upd LL 9 0 = LL 0 from rfl), sg.anc 0 rfl, (show upd LL 9 4 = LL 4 from rfl), sg.anc 4 rfl, (show upd LL 9 9 = true from rfl), cond_true, cond_false]; exact H2.out)
    · intro LL xx ac wc sg hst hwant QQ hgo
      obtain ⟨b89, a93, c93, a98, c98⟩ := xx
      exact op_val hwant hgo hst _ (exec_assign rfl (sg.slot 9 (sg.anc 9 rfl))) rfl
  · exact skips [] (by kernel_rfl) (fun _ h => by cases h)
  · intro xx ac1 wz hfr hsl hst
    obtain ⟨b89, a93, c93, a98, c98⟩ := xx
    exact hfin b89 a93 c93 a98 c98 ac1 wz (hfr.size.trans hz) hfr.defers (fr_keep hfr [7, 89, 90, 91, 92, 93, 94, 95, 96, 97, 98] (by kernel_rfl)) (hsl 10 (by decide)) (Lib.hid hst)
set_option maxRecDepth 20000 in
theorem order_w_r16 (ka : Option Addr) (kc : Nat) (ks : List KeyV) (pa : Option Addr) (pc : Nat) (ps : List Int) (z1d : ¬ (40 < (ks.length : Int))) (h40 : ks.length ≤ 40) (b5 : Nat) (i0 : Nat) (a : Option Addr) (cc : Nat) (q0 : List KeyV) (hi : i0 ≤ ks.length) (hq0 : q0.length = i0) (z2d : ¬ (i0 < ks.length)) (b8 : Nat) (i : Nat) (b : Option Addr) (bc : Nat) (qs : List KeyV) (rc : Nat) (rest : List KeyV) (hq1 : qs.length = i) (hrl : i + rest.length = ks.length) (z4d : 0 < (rest.length : Int)) (ix : Nat) (hat : ix < rest.length) (y2 : Addr) (k : KeyV) (b11 : Nat) (a20_10 : Option Addr) (c20_10 : Nat) (hrc : rest.length ≤ rc) (a98 : Option Addr) (c98 : Nat) {wa wb : World} (H : Hid (Hp [] wa wb [rA a98 c98 9 1 (((([] : List KeyV) ++ (rest.take ix)) ++ (rest.drop (ix + 1))).map kRow), rS a20_10 c20_10 2 ((addAll (qs ++ [k])).map rowOf), rB b11 43 [.int .i64 40, .slice a20_10 ((addAll (qs ++ [k])).length) c20_10], rB b8 43 [.int .i64 40, .slice a20_10 ((addAll (qs ++ [k])).length) c20_10], rA (some y2) rc 9 1 (rest.map kRow), rB b5 43 [.int .i64 40, .slice a ((addAll ks).length) cc], rS a cc 2 ((addAll ks).map rowOf), rS b bc 2 ((addAll qs).map rowOf), rS pa pc 1 (ps.map pickRow), rS ka kc 1 (ks.map kRow)])) (ac0 : Act) (hz : ac0.tmps.size = 146) (so9 : ac0.eval (.tmp 9) = .int .i64 i) {QR : Exit → Act → World → Prop} (hfin : ∀ (ac1 : Act) (wz : World), ac1.tmps.size = 146 → ac1.defers = ac0.defers → (∀ t, ([9, 56, 57] : List Nat).contains t = false → ac1.eval (.tmp t) = ac0.eval (.tmp t)) → ac1.eval (.tmp 9) = .int .i64 (i + 1) →  Hid (Hp [] wa wz [rA a98 c98 9 1 (((([] : List KeyV) ++ (rest.take ix)) ++ (rest.drop (ix + 1))).map kRow), rS a20_10 c20_10 2 ((addAll (qs ++ [k])).map rowOf), rB b11 43 [.int .i64 40, .slice a20_10 ((addAll (qs ++ [k])).length) c20_10], rB b8 43 [.int .i64 40, .slice a20_10 ((addAll (qs ++ [k])).length) c20_10], rA (some y2) rc 9 1 (rest.map kRow), rB b5 43 [.int .i64 40, .slice a ((addAll ks).length) cc], rS a cc 2 ((addAll ks).map rowOf), rS b bc 2 ((addAll qs).map rowOf), rS pa pc 1 (ps.map pickRow), rS ka kc 1 (ks.map kRow)]) → QR .normal ac1 wz) : (regAt Try.f5 16).wp Try.prog QR ac0 wb := by
  refine wp_region_sq (by kernel_rfl) 146 hz (by kernel_rfl) (fun (xx : Unit) jx => nth [.int .i64 i, .int .i64 (i + 1), .int .i64 (i + 1)] jx) (fun (LL : Nat → Bool) (xx : Unit) ww => Hp [] wa ww [rA a98 c98 9 1 (((([] : List KeyV) ++ (rest.take ix)) ++ (rest.drop (ix + 1))).map kRow), rS a20_10 c20_10 2 ((addAll (qs ++ [k])).map rowOf), rB b11 43 [.int .i64 40, .slice a20_10 ((addAll (qs ++ [k])).length) c20_10], rB b8 43 [.int .i64 40, .slice a20_10 ((addAll (qs ++ [k])).length) c20_10], rA (some y2) rc 9 1 (rest.map kRow), rB b5 43 [.int .i64 40, .slice a ((addAll ks).length) cc], rS a cc 2 ((addAll ks).map rowOf), rS b bc 2 ((addAll qs).map rowOf), rS pa pc 1 (ps.map pickRow), rS ka kc 1 (ks.map kRow)]) () H.out ?_ (steps_al ?_) ?_ ?_
  · exact fun _ _ _ _ _ h => h
  · refine al_cons ?_ (al_cons ?_ (al_cons ?_ (al_nil)))
    · intro LL xx ac wc sg hst hwant QQ hgo
      exact op_val hwant hgo hst _ (exec_move rfl ((sg.yet 9 2 (sg.des 2 rfl) (by kernel_rfl)).trans so9)) rfl
    · intro LL xx ac wc sg hst hwant QQ hgo
      have se56 : ac.eval (.tmp 56) = _ := (sg.slot 0 (sg.anc 0 rfl))
      have sg56 := gt_of se56
      (try simp only [nth] at se56 sg56)
      have hnw : IntKind.i64.wrap (i + 1 : Int) = i + 1 := IntWalk.i64_in _ (by omega)
      exact op_val hwant hgo hst _ (by simp only [execOp, nth]; go_simp <;> omega) rfl
    · intro LL xx ac wc sg hst hwant QQ hgo
      exact op_val hwant hgo hst _ (exec_assign rfl (sg.slot 1 (sg.anc 1 rfl))) rfl
  · exact skips [] (by kernel_rfl) (fun _ h => by cases h)
  · intro xx ac1 wz hfr hsl hst
    exact hfin ac1 wz (hfr.size.trans hz) hfr.defers (fr_keep hfr [9, 56, 57] (by kernel_rfl)) (hsl 2 (by decide)) (Lib.hid hst)
set_option maxRecDepth 20000 in
theorem order_w_r19 (ka : Option Addr) (kc : Nat) (ks : List KeyV) (pc : Nat) (ps : List Int) (z1d : ¬ (40 < (ks.length : Int))) (h40 : ks.length ≤ 40) (b5 : Nat) (i0 : Nat) (a : Option Addr) (cc : Nat) (q0 : List KeyV) (hi : i0 ≤ ks.length) (hq0 : q0.length = i0) (z2d : ¬ (i0 < ks.length)) (b8 : Nat) (i : Nat) (b : Option Addr) (bc : Nat) (qs : List KeyV) (ra : Option Addr) (rc : Nat) (rest : List KeyV) (hq1 : qs.length = i) (hrl : i + rest.length = ks.length) (z4d : 0 < (rest.length : Int)) (z5d : i < ps.length) (yp : Addr) (x : Int) (HRx : Hid ((ps.map pickRow)[i]? = some [.int .i64 x])) (hw : IntKind.u64.wrap (rest.length : Int) = (rest.length : Int)) (m : Nat) (hm1 : m < rest.length) (hm : IntKind.i64.wrap ((IntKind.u64.wrap x).tmod rest.length) = (m : Int)) {wa wb : World} (H : Hid (Hp [] wa wb [rB b8 43 [.int .i64 40, .slice b ((addAll qs).length) bc], rA ra rc 9 1 (rest.map kRow), rB b5 43 [.int .i64 40, .slice a ((addAll ks).length) cc], rS a cc 2 ((addAll ks).map rowOf), rS b bc 2 ((addAll qs).map rowOf), rS (some yp) pc 1 (ps.map pickRow), rS ka kc 1 (ks.map kRow)])) (ac0 : Act) (hz : ac0.tmps.size = 146) (so1 : ac0.eval (.tmp 1) = .slice (some yp) ps.length pc) (so7 : ac0.eval (.tmp 7) = .slice ra rest.length rc) (so9 : ac0.eval (.tmp 9) = .int .i64 i) {QR : Exit → Act → World → Prop} (hfin : ∀ (ac1 : Act) (wz : World), ac1.tmps.size = 146 → ac1.defers = ac0.defers → (∀ t, ([10, 62, 63, 64, 65, 66, 67, 68, 69, 70, 71] : List Nat).contains t = false → ac1.eval (.tmp t) = ac0.eval (.tmp t)) → ac1.eval (.tmp 10) = .int .i64 m →  Hid (Hp [] wa wz [rB b8 43 [.int .i64 40, .slice b ((addAll qs).length) bc], rA ra rc 9 1 (rest.map kRow), rB b5 43 [.int .i64 40, .slice a ((addAll ks).length) cc], rS a cc 2 ((addAll ks).map rowOf), rS b bc 2 ((addAll qs).map rowOf), rS (some yp) pc 1 (ps.map pickRow), rS ka kc 1 (ks.map kRow)]) → QR .normal ac1 wz) : (regAt Try.f5 19).wp Try.prog QR ac0 wb := by
  refine wp_region_sq (by kernel_rfl) 146 hz (by kernel_rfl) (fun (xx : Unit) jx => nth [.slice (some yp) ps.length pc, .int .i64 i, .pointer (some (yp.add i)), .int .i64 x, .int .u64 (IntKind.u64.wrap x), .slice ra rest.length rc, .int .i64 rest.length, .int .u64 rest.length, .int .u64 ((IntKind.u64.wrap x).tmod rest.length), .int .i64 m, .int .i64 m] jx) (fun (LL : Nat → Bool) (xx : Unit) ww => Hp [] wa ww [rB b8 43 [.int .i64 40, .slice b ((addAll qs).length) bc], rA ra rc 9 1 (rest.map kRow), rB b5 43 [.int .i64 40, .slice a ((addAll ks).length) cc], rS a cc 2 ((addAll ks).map rowOf), rS b bc 2 ((addAll qs).map rowOf), rS (some yp) pc 1 (ps.map pickRow), rS ka kc 1 (ks.map kRow)]) () H.out ?_ (steps_al ?_) ?_ ?_
  · exact fun _ _ _ _ _ h => h
  · refine al_cons ?_ (al_cons ?_ (al_cons ?_ (al_cons ?_ (al_cons ?_ (al_cons ?_ (al_cons ?_ (al_cons ?_ (al_cons ?_ (al_cons ?_ (al_cons ?_ (al_nil)))))))))))
    · intro LL xx ac wc sg hst hwant QQ hgo
      exact op_val hwant hgo hst _ (exec_move rfl ((sg.free 1 (by kernel_rfl)).trans so1)) rfl
    · intro LL xx ac wc sg hst hwant QQ hgo
      exact op_val hwant hgo hst _ (exec_move rfl ((sg.free 9 (by kernel_rfl)).trans so9)) rfl
    · intro LL xx ac wc sg hst hwant QQ hgo
      have se62 : ac.eval (.tmp 62) = _ := (sg.slot 0 (sg.anc 0 rfl))
      have sg62 := gt_of se62
      have se63 : ac.eval (.tmp 63) = _ := (sg.slot 1 (sg.anc 1 rfl))
      have sg63 := gt_of se63
      (try simp only [nth] at se62 sg62 se63 sg63)
      exact op_val hwant hgo hst _ (by simp only [execOp, nth]; go_simp <;> omega) rfl
    · intro LL xx ac wc sg hst hwant QQ hgo
      have H := Lib.hid hst
      refine hpS_load1 0 tyint H rfl (sg.slot 2 (sg.anc 2 rfl)) hwant (by (repeat (first | exact List.Mem.head _ | apply List.Mem.tail))) HRx.out (by rfl) (by simp [Addr.add]) ?_
      exact hgo _ () _ (fun _ _ => rfl) rfl hst
    · intro LL xx ac wc sg hst hwant QQ hgo
      have se65 : ac.eval (.tmp 65) = _ := (sg.slot 3 (sg.anc 3 rfl))
      have sg65 := gt_of se65
      (try simp only [nth] at se65 sg65)
      exact op_val hwant hgo hst _ (by simp only [execOp, nth]; go_simp <;> omega) rfl
    · intro LL xx ac wc sg hst hwant QQ hgo
      exact op_val hwant hgo hst _ (exec_move rfl ((sg.free 7 (by kernel_rfl)).trans so7)) rfl
    · intro LL xx ac wc sg hst hwant QQ hgo
      have se67 : ac.eval (.tmp 67) = _ := (sg.slot 5 (sg.anc 5 rfl))
      have sg67 := gt_of se67
      (try simp only [nth] at se67 sg67)
      exact op_val hwant hgo hst _ (by simp only [execOp, nth]; go_simp <;> omega) rfl
    · intro LL xx ac wc sg hst hwant QQ hgo
      have se68 : ac.eval (.tmp 68) = _ := (sg.slot 6 (sg.anc 6 rfl))
      have sg68 := gt_of se68
      (try simp only [nth] at se68 sg68)
      exact op_val hwant hgo hst _ (by simp only [execOp, nth]; go_simp <;> omega) rfl
    · intro LL xx ac wc sg hst hwant QQ hgo
      exact op_val hwant hgo hst _ (exec_rem rfl (sg.slot 4 (sg.anc 4 rfl)) (sg.slot 7 (sg.anc 7 rfl)) (by omega)) rfl
    · intro LL xx ac wc sg hst hwant QQ hgo
      have se70 : ac.eval (.tmp 70) = _ := (sg.slot 8 (sg.anc 8 rfl))
      have sg70 := gt_of se70
      (try simp only [nth] at se70 sg70)
      exact op_val hwant hgo hst _ (by simp only [execOp, nth]; go_simp <;> omega) rfl
    · intro LL xx ac wc sg hst hwant QQ hgo
      exact op_val hwant hgo hst _ (exec_assign rfl (sg.slot 9 (sg.anc 9 rfl))) rfl
  · exact skips [] (by kernel_rfl) (fun _ h => by cases h)
  · intro xx ac1 wz hfr hsl hst
    exact hfin ac1 wz (hfr.size.trans hz) hfr.defers (fr_keep hfr [10, 62, 63, 64, 65, 66, 67, 68, 69, 70, 71] (by kernel_rfl)) (hsl 10 (by decide)) (Lib.hid hst)
set_option maxRecDepth 20000 in
theorem order_w_r25 (ka : Option Addr) (kc : Nat) (ks : List KeyV) (pa : Option Addr) (pc : Nat) (ps : List Int) (z1d : ¬ (40 < (ks.length : Int))) (h40 : ks.length ≤ 40) (b5 : Nat) (i0 : Nat) (a : Option Addr) (cc : Nat) (q0 : List KeyV) (hi : i0 ≤ ks.length) (hq0 : q0.length = i0) (z2d : ¬ (i0 < ks.length)) (b8 : Nat) (i : Nat) (b : Option Addr) (bc : Nat) (qs : List KeyV) (ra : Option Addr) (rc : Nat) (rest : List KeyV) (hq1 : qs.length = i) (hrl : i + rest.length = ks.length) (z4d : ¬ (0 < (rest.length : Int))) (hfw : (addAll ks).length ≤ 40) {wa wb : World} (H : Hid (Hp [] wa wb [rB b8 43 [.int .i64 40, .slice b ((addAll ks).length) bc], rA ra rc 9 1 (rest.map kRow), rB b5 43 [.int .i64 40, .slice a ((addAll ks).length) cc], rS a cc 2 ((addAll ks).map rowOf), rS b bc 2 ((addAll ks).map rowOf), rS pa pc 1 (ps.map pickRow), rS ka kc 1 (ks.map kRow)])) (ac0 : Act) (hz : ac0.tmps.size = 146) (so5 : ac0.eval (.tmp 5) = .pointer (some ⟨b5, 0, none⟩)) {QR : Exit → Act → World → Prop} (hfin : ∀ (a25_1 : Option Addr) (c25_1 : Nat) (ac1 : Act) (wz : World), ac1.tmps.size = 146 → ac1.defers = ac0.defers → (∀ t, ([13, 99, 100] : List Nat).contains t = false → ac1.eval (.tmp t) = ac0.eval (.tmp t)) → ac1.eval (.tmp 13) = .slice a25_1 ((addAll ks).length) c25_1 →  Hid (Hp [] wa wz [rS a25_1 c25_1 1 ((addAll ks).map keyRow), rB b8 43 [.int .i64 40, .slice b ((addAll ks).length) bc], rA ra rc 9 1 (rest.map kRow), rB b5 43 [.int .i64 40, .slice a ((addAll ks).length) cc], rS a cc 2 ((addAll ks).map rowOf), rS b bc 2 ((addAll ks).map rowOf), rS pa pc 1 (ps.map pickRow), rS ka kc 1 (ks.map kRow)]) → QR .normal ac1 wz) : (regAt Try.f5 25).wp Try.prog QR ac0 wb := by
  refine wp_region_sq (by kernel_rfl) 146 hz (by kernel_rfl) (fun (xx : Option Addr × Nat) jx => match xx with | (a25_1, c25_1) => nth [.agg #[.int .i64 40, .slice a ((addAll ks).length) cc], .slice a25_1 ((addAll ks).length) c25_1, .slice a25_1 ((addAll ks).length) c25_1] jx) (fun (LL : Nat → Bool) (xx : Option Addr × Nat) ww => match xx with | (a25_1, c25_1) => Hp [] wa ww (bif LL 1 then [rS a25_1 c25_1 1 ((addAll ks).map keyRow), rB b8 43 [.int .i64 40, .slice b ((addAll ks).length) bc], rA ra rc 9 1 (rest.map kRow), rB b5 43 [.int .i64 40, .slice a ((addAll ks).length) cc], rS a cc 2 ((addAll ks).map rowOf), rS b bc 2 ((addAll ks).map rowOf), rS pa pc 1 (ps.map pickRow), rS ka kc 1 (ks.map kRow)] else [rB b8 43 [.int .i64 40, .slice b ((addAll ks).length) bc], rA ra rc 9 1 (rest.map kRow), rB b5 43 [.int .i64 40, .slice a ((addAll ks).length) cc], rS a cc 2 ((addAll ks).map rowOf), rS b bc 2 ((addAll ks).map rowOf), rS pa pc 1 (ps.map pickRow), rS ka kc 1 (ks.map kRow)])) (default, default) H.out ?_ (steps_al ?_) ?_ ?_
  · intro L1 L2 xx ww hL sg
    have lh1 := hL 1 (by decide)
    simp only [lh1] at sg
    exact sg
  · refine al_cons ?_ (al_cons ?_ (al_cons ?_ (al_nil)))
    · intro LL xx ac wc sg hst hwant QQ hgo
      obtain ⟨a25_1, c25_1⟩ := xx
      have H := Lib.hid hst
      simp only [sg.des 1 rfl, cond_true, cond_false] at H
      refine hpA_load tyshelf_Shelf_string__int_ H rfl ((sg.free 5 (by kernel_rfl)).trans so5) hwant (by (repeat (first | exact List.Mem.head _ | apply List.Mem.tail))) (by rfl) rfl ?_
      exact hgo _ (a25_1, c25_1) _ (fun _ _ => rfl) rfl hst
    · intro LL xx ac wc sg hst hwant QQ hgo
      obtain ⟨_, _⟩ := xx
      have se99 : ac.eval (.tmp 99) = _ := (sg.slot 0 (sg.anc 0 rfl))
      have sg99 := gt_of se99
      (try simp only [nth] at se99 sg99)
      have H := Lib.hid hst
      simp only [sg.self, cond_true, cond_false] at H
      refine op_call hwant hgo 28 _ (by simp only [execOp]; go_simp) (keysC 40 a cc (addAll ks) wc (hp_held H (by (repeat (first | exact List.Mem.head _ | apply List.Mem.tail)))) (few_add h40)) ?_
      rintro er wd ⟨a25_1, c25_1, rfl, hgv⟩
      have H2 := hp_got H hgv.2.2 hgv.1 (by decide) hgv.2.1 (by simp)
      exact ⟨_, (a25_1, c25_1), rfl, (sg.agree (x' := (a25_1, c25_1)) (n := 3) rfl (by (iterate 3 (refine ix_cons (by first | exact fun _ => rfl | exact no sg.self | exact no (sg.des _ rfl)) ?_)); exact ix_nil)), rfl, (by simp only [(show upd LL 1 1 = true from rfl), cond_true, cond_false]; exact H2.out)⟩
    · intro LL xx ac wc sg hst hwant QQ hgo
      obtain ⟨a25_1, c25_1⟩ := xx
      exact op_val hwant hgo hst _ (exec_assign rfl (sg.slot 1 (sg.anc 1 rfl))) rfl
  · exact skips [] (by kernel_rfl) (fun _ h => by cases h)
  · intro xx ac1 wz hfr hsl hst
    obtain ⟨a25_1, c25_1⟩ := xx
    exact hfin a25_1 c25_1 ac1 wz (hfr.size.trans hz) hfr.defers (fr_keep hfr [13, 99, 100] (by kernel_rfl)) (hsl 2 (by decide)) (Lib.hid hst)
set_option maxRecDepth 20000 in
theorem order_w_r26 (ka : Option Addr) (kc : Nat) (ks : List KeyV) (pa : Option Addr) (pc : Nat) (ps : List Int) (z1d : ¬ (40 < (ks.length : Int))) (h40 : ks.length ≤ 40) (b5 : Nat) (i0 : Nat) (a : Option Addr) (cc : Nat) (q0 : List KeyV) (hi : i0 ≤ ks.length) (hq0 : q0.length = i0) (z2d : ¬ (i0 < ks.length)) (b8 : Nat) (i : Nat) (b : Option Addr) (bc : Nat) (qs : List KeyV) (ra : Option Addr) (rc : Nat) (rest : List KeyV) (hq1 : qs.length = i) (hrl : i + rest.length = ks.length) (z4d : ¬ (0 < (rest.length : Int))) (hfw : (addAll ks).length ≤ 40) (a25_1 : Option Addr) (c25_1 : Nat) {wa wb : World} (H : Hid (Hp [] wa wb [rS a25_1 c25_1 1 ((addAll ks).map keyRow), rB b8 43 [.int .i64 40, .slice b ((addAll ks).length) bc], rA ra rc 9 1 (rest.map kRow), rB b5 43 [.int .i64 40, .slice a ((addAll ks).length) cc], rS a cc 2 ((addAll ks).map rowOf), rS b bc 2 ((addAll ks).map rowOf), rS pa pc 1 (ps.map pickRow), rS ka kc 1 (ks.map kRow)])) (ac0 : Act) (hz : ac0.tmps.size = 146)  {QR : Exit → Act → World → Prop} (hfin : ∀ (ac1 : Act) (wz : World), ac1.tmps.size = 146 → ac1.defers = ac0.defers → (∀ t, ([14] : List Nat).contains t = false → ac1.eval (.tmp t) = ac0.eval (.tmp t)) → ac1.eval (.tmp 14) = .int .i64 0 →  Hid (Hp [] wa wz [rS a25_1 c25_1 1 ((addAll ks).map keyRow), rB b8 43 [.int .i64 40, .slice b ((addAll ks).length) bc], rA ra rc 9 1 (rest.map kRow), rB b5 43 [.int .i64 40, .slice a ((addAll ks).length) cc], rS a cc 2 ((addAll ks).map rowOf), rS b bc 2 ((addAll ks).map rowOf), rS pa pc 1 (ps.map pickRow), rS ka kc 1 (ks.map kRow)]) → QR .normal ac1 wz) : (regAt Try.f5 26).wp Try.prog QR ac0 wb := by
  refine wp_region_sq (by kernel_rfl) 146 hz (by kernel_rfl) (fun (xx : Unit) jx => nth [.int .i64 0] jx) (fun (LL : Nat → Bool) (xx : Unit) ww => Hp [] wa ww [rS a25_1 c25_1 1 ((addAll ks).map keyRow), rB b8 43 [.int .i64 40, .slice b ((addAll ks).length) bc], rA ra rc 9 1 (rest.map kRow), rB b5 43 [.int .i64 40, .slice a ((addAll ks).length) cc], rS a cc 2 ((addAll ks).map rowOf), rS b bc 2 ((addAll ks).map rowOf), rS pa pc 1 (ps.map pickRow), rS ka kc 1 (ks.map kRow)]) () H.out ?_ (steps_al ?_) ?_ ?_
  · exact fun _ _ _ _ _ h => h
  · refine al_cons ?_ (al_nil)
    · intro LL xx ac wc sg hst hwant QQ hgo
      exact op_val hwant hgo hst _ (exec_assign rfl rfl) rfl
  · exact skips [] (by kernel_rfl) (fun _ h => by cases h)
  · intro xx ac1 wz hfr hsl hst
    exact hfin ac1 wz (hfr.size.trans hz) hfr.defers (fr_keep hfr [14] (by kernel_rfl)) (hsl 0 (by decide)) (Lib.hid hst)
set_option maxRecDepth 20000 in
theorem order_w_r27 (ka : Option Addr) (kc : Nat) (ks : List KeyV) (pa : Option Addr) (pc : Nat) (ps : List Int) (z1d : ¬ (40 < (ks.length : Int))) (h40 : ks.length ≤ 40) (b5 : Nat) (i0 : Nat) (a : Option Addr) (cc : Nat) (q0 : List KeyV) (hi : i0 ≤ ks.length) (hq0 : q0.length = i0) (z2d : ¬ (i0 < ks.length)) (b8 : Nat) (i : Nat) (b : Option Addr) (bc : Nat) (qs : List KeyV) (ra : Option Addr) (rc : Nat) (rest : List KeyV) (hq1 : qs.length = i) (hrl : i + rest.length = ks.length) (z4d : ¬ (0 < (rest.length : Int))) (hfw : (addAll ks).length ≤ 40) (a25_1 : Option Addr) (c25_1 : Nat) (j : Nat) (hj : j ≤ (addAll ks).length) {wa wb : World} (H : Hid (Hp [] wa wb [rS a25_1 c25_1 1 ((addAll ks).map keyRow), rB b8 43 [.int .i64 40, .slice b ((addAll ks).length) bc], rA ra rc 9 1 (rest.map kRow), rB b5 43 [.int .i64 40, .slice a ((addAll ks).length) cc], rS a cc 2 ((addAll ks).map rowOf), rS b bc 2 ((addAll ks).map rowOf), rS pa pc 1 (ps.map pickRow), rS ka kc 1 (ks.map kRow)])) (ac0 : Act) (hz : ac0.tmps.size = 146) (so13 : ac0.eval (.tmp 13) = .slice a25_1 ((addAll ks).length) c25_1) (so14 : ac0.eval (.tmp 14) = .int .i64 j) {QR : Exit → Act → World → Prop} (hfin : ∀ (ac1 : Act) (wz : World), ac1.tmps.size = 146 → ac1.defers = ac0.defers → (∀ t, ([101, 102, 103, 104] : List Nat).contains t = false → ac1.eval (.tmp t) = ac0.eval (.tmp t)) → ac1.eval (.tmp 104) = .bool (decide (j < ((addAll ks).length))) →  Hid (Hp [] wa wz [rS a25_1 c25_1 1 ((addAll ks).map keyRow), rB b8 43 [.int .i64 40, .slice b ((addAll ks).length) bc], rA ra rc 9 1 (rest.map kRow), rB b5 43 [.int .i64 40, .slice a ((addAll ks).length) cc], rS a cc 2 ((addAll ks).map rowOf), rS b bc 2 ((addAll ks).map rowOf), rS pa pc 1 (ps.map pickRow), rS ka kc 1 (ks.map kRow)]) → QR .normal ac1 wz) : (regAt Try.f5 27).wp Try.prog QR ac0 wb := by
  refine wp_region_sq (by kernel_rfl) 146 hz (by kernel_rfl) (fun (xx : Unit) jx => nth [.int .i64 j, .slice a25_1 ((addAll ks).length) c25_1, .int .i64 ((addAll ks).length), .bool (decide (j < ((addAll ks).length)))] jx) (fun (LL : Nat → Bool) (xx : Unit) ww => Hp [] wa ww [rS a25_1 c25_1 1 ((addAll ks).map keyRow), rB b8 43 [.int .i64 40, .slice b ((addAll ks).length) bc], rA ra rc 9 1 (rest.map kRow), rB b5 43 [.int .i64 40, .slice a ((addAll ks).length) cc], rS a cc 2 ((addAll ks).map rowOf), rS b bc 2 ((addAll ks).map rowOf), rS pa pc 1 (ps.map pickRow), rS ka kc 1 (ks.map kRow)]) () H.out ?_ (steps_al ?_) ?_ ?_
  · exact fun _ _ _ _ _ h => h
  · refine al_cons ?_ (al_cons ?_ (al_cons ?_ (al_cons ?_ (al_nil))))
    · intro LL xx ac wc sg hst hwant QQ hgo
      exact op_val hwant hgo hst _ (exec_move rfl ((sg.free 14 (by kernel_rfl)).trans so14)) rfl
    · intro LL xx ac wc sg hst hwant QQ hgo
      exact op_val hwant hgo hst _ (exec_move rfl ((sg.free 13 (by kernel_rfl)).trans so13)) rfl
    · intro LL xx ac wc sg hst hwant QQ hgo
      have se102 : ac.eval (.tmp 102) = _ := (sg.slot 1 (sg.anc 1 rfl))
      have sg102 := gt_of se102
      (try simp only [nth] at se102 sg102)
      exact op_val hwant hgo hst _ (by simp only [execOp, nth]; go_simp <;> omega) rfl
    · intro LL xx ac wc sg hst hwant QQ hgo
      have se101 : ac.eval (.tmp 101) = _ := (sg.slot 0 (sg.anc 0 rfl))
      have sg101 := gt_of se101
      have se103 : ac.eval (.tmp 103) = _ := (sg.slot 2 (sg.anc 2 rfl))
      have sg103 := gt_of se103
      (try simp only [nth] at se101 sg101 se103 sg103)
      exact op_val hwant hgo hst _ (by simp only [execOp, nth]; go_simp <;> omega) rfl
  · exact skips [] (by kernel_rfl) (fun _ h => by cases h)
  · intro xx ac1 wz hfr hsl hst
    exact hfin ac1 wz (hfr.size.trans hz) hfr.defers (fr_keep hfr [101, 102, 103, 104] (by kernel_rfl)) (hsl 3 (by decide)) (Lib.hid hst)
set_option maxRecDepth 20000 in
theorem order_w_r29 (ka : Option Addr) (kc : Nat) (ks : List KeyV) (pa : Option Addr) (pc : Nat) (ps : List Int) (z1d : ¬ (40 < (ks.length : Int))) (h40 : ks.length ≤ 40) (b5 : Nat) (i0 : Nat) (a : Option Addr) (cc : Nat) (q0 : List KeyV) (hi : i0 ≤ ks.length) (hq0 : q0.length = i0) (z2d : ¬ (i0 < ks.length)) (b8 : Nat) (i : Nat) (b : Option Addr) (bc : Nat) (qs : List KeyV) (ra : Option Addr) (rc : Nat) (rest : List KeyV) (hq1 : qs.length = i) (hrl : i + rest.length = ks.length) (z4d : ¬ (0 < (rest.length : Int))) (hfw : (addAll ks).length ≤ 40) (c25_1 : Nat) (j : Nat) (hj : j ≤ (addAll ks).length) (z6d : j < ((addAll ks).length)) (yl : Addr) (p : PairV) (HRp : Hid (((addAll ks).map keyRow)[j]? = some [.string p.1])) (HXp : Hid ((addAll ks)[j]? = some p)) {wa wb : World} (H : Hid (Hp [] wa wb [rS (some yl) c25_1 1 ((addAll ks).map keyRow), rB b8 43 [.int .i64 40, .slice b ((addAll ks).length) bc], rA ra rc 9 1 (rest.map kRow), rB b5 43 [.int .i64 40, .slice a ((addAll ks).length) cc], rS a cc 2 ((addAll ks).map rowOf), rS b bc 2 ((addAll ks).map rowOf), rS pa pc 1 (ps.map pickRow), rS ka kc 1 (ks.map kRow)])) (ac0 : Act) (hz : ac0.tmps.size = 146) (so8 : ac0.eval (.tmp 8) = .pointer (some ⟨b8, 0, none⟩)) (so13 : ac0.eval (.tmp 13) = .slice (some yl) ((addAll ks).length) c25_1) (so14 : ac0.eval (.tmp 14) = .int .i64 j) {QR : Exit → Act → World → Prop} (hfin : ∀ (ac1 : Act) (wz : World), ac1.tmps.size = 146 → ac1.defers = ac0.defers → (∀ t, ([15, 16, 107, 108, 109, 110, 111, 112, 113, 114, 115] : List Nat).contains t = false → ac1.eval (.tmp t) = ac0.eval (.tmp t)) → ac1.eval (.tmp 15) = .int .i64 p.1.size → ac1.eval (.tmp 16) = .bool true →  Hid (Hp [] wa wz [rS (some yl) c25_1 1 ((addAll ks).map keyRow), rB b8 43 [.int .i64 40, .slice b ((addAll ks).length) bc], rA ra rc 9 1 (rest.map kRow), rB b5 43 [.int .i64 40, .slice a ((addAll ks).length) cc], rS a cc 2 ((addAll ks).map rowOf), rS b bc 2 ((addAll ks).map rowOf), rS pa pc 1 (ps.map pickRow), rS ka kc 1 (ks.map kRow)]) → QR .normal ac1 wz) : (regAt Try.f5 29).wp Try.prog QR ac0 wb := by
  refine wp_region_st mixedP ⟨[0, 0, 0, 1, 2, 3, 4, 5, 5, 6, 7], by kernel_rfl⟩ [[], [], [], [1, 2], [1, 2, 3], [0, 1, 2, 3, 4], [0, 1, 2, 3, 4, 5], [0, 1, 2, 3, 4, 5, 6], [0, 1, 2, 3, 4, 5, 6], [0, 1, 2, 3, 4, 5, 6, 7], [0, 1, 2, 3, 4, 5, 6, 7, 8, 9]] (by kernel_rfl) (by kernel_rfl) 146 hz (by kernel_rfl) (fun (xx : Unit) jx => nth [.agg #[.int .i64 40, .slice b ((addAll ks).length) bc], .slice (some yl) ((addAll ks).length) c25_1, .int .i64 j, .pointer (some (yl.add j)), .string p.1, .tuple #[.int .i64 p.1.size, .bool true], .tuple #[.int .i64 p.1.size, .bool true], .int .i64 p.1.size, .bool true, .int .i64 p.1.size, .bool true] jx) (fun (LL : Nat → Bool) (xx : Unit) ww => Hp [] wa ww [rS (some yl) c25_1 1 ((addAll ks).map keyRow), rB b8 43 [.int .i64 40, .slice b ((addAll ks).length) bc], rA ra rc 9 1 (rest.map kRow), rB b5 43 [.int .i64 40, .slice a ((addAll ks).length) cc], rS a cc 2 ((addAll ks).map rowOf), rS b bc 2 ((addAll ks).map rowOf), rS pa pc 1 (ps.map pickRow), rS ka kc 1 (ks.map kRow)]) () H.out.drew ?_ (steps_al ?_) ?_ ?_
  · exact fun _ _ _ _ _ h => h
  · refine al_cons ?_ (al_cons ?_ (al_cons ?_ (al_cons ?_ (al_cons ?_ (al_cons ?_ (al_cons ?_ (al_cons ?_ (al_cons ?_ (al_cons ?_ (al_cons ?_ (al_nil)))))))))))
    · intro LL xx ac wc sg hst hwant QQ hgo
      have H := Lib.hid hst
      refine hpA_load tyshelf_Shelf_string__int_ H rfl ((sg.free 8 (by kernel_rfl)).trans so8) hwant (by (repeat (first | exact List.Mem.head _ | apply List.Mem.tail))) (by rfl) rfl ?_
      exact hgo _ () _ (fun _ _ => rfl) rfl hst
    · intro LL xx ac wc sg hst hwant QQ hgo
      exact op_val hwant hgo hst _ (exec_move rfl ((sg.free 13 (by kernel_rfl)).trans so13)) rfl
    · intro LL xx ac wc sg hst hwant QQ hgo
      exact op_val hwant hgo hst _ (exec_move rfl ((sg.free 14 (by kernel_rfl)).trans so14)) rfl
    · intro LL xx ac wc sg hst hwant QQ hgo
      have se109 : ac.eval (.tmp 109) = _ := (sg.slot 1 (sg.anc 1 rfl))
      have sg109 := gt_of se109
      have se110 : ac.eval (.tmp 110) = _ := (sg.slot 2 (sg.anc 2 rfl))
      have sg110 := gt_of se110
      (try simp only [nth] at se109 sg109 se110 sg110)
      exact op_val hwant hgo hst _ (by simp only [execOp, nth]; go_simp <;> omega) rfl
    · intro LL xx ac wc sg hst hwant QQ hgo
      have H := Lib.hid hst
      refine hpS_load1 0 tystring H rfl (sg.slot 3 (sg.anc 3 rfl)) hwant (by (repeat (first | exact List.Mem.head _ | apply List.Mem.tail))) HRp.out (by rfl) (by simp [Addr.add]) ?_
      exact hgo _ () _ (fun _ _ => rfl) rfl hst
    · intro LL xx ac wc sg hst hwant QQ hgo
      have se108 : ac.eval (.tmp 108) = _ := (sg.slot 0 (sg.anc 0 rfl))
      have sg108 := gt_of se108
      have se112 : ac.eval (.tmp 112) = _ := (sg.slot 4 (sg.anc 4 rfl))
      have sg112 := gt_of se112
      (try simp only [nth] at se108 sg108 se112 sg112)
      have H := Lib.hid hst
      refine op_call hwant hgo 29 _ (by simp only [execOp]; go_simp) (getAdd b bc ks p wc (hp_held H (by (repeat (first | exact List.Mem.head _ | apply List.Mem.tail)))) h40 HXp.out) ?_
      rintro er wd ⟨rfl, hof⟩
      exact ⟨_, (), rfl, fun _ _ => rfl, rfl, Hp.quiet hst hof⟩
    · intro LL xx ac wc sg hst hwant QQ hgo
      exact op_val hwant hgo hst _ (exec_move rfl (sg.slot 5 (sg.anc 5 rfl))) rfl
    · intro LL xx ac wc sg hst hwant QQ hgo
      have se107 : ac.eval (.tmp 107) = _ := (sg.slot 6 (sg.anc 6 rfl))
      have sg107 := gt_of se107
      (try simp only [nth] at se107 sg107)
      exact op_val hwant hgo hst _ (by simp only [execOp, nth]; go_simp <;> omega) rfl
    · intro LL xx ac wc sg hst hwant QQ hgo
      have se107 : ac.eval (.tmp 107) = _ := (sg.slot 6 (sg.anc 6 rfl))
      have sg107 := gt_of se107
      (try simp only [nth] at se107 sg107)
      exact op_val hwant hgo hst _ (by simp only [execOp, nth]; go_simp <;> omega) rfl
    · intro LL xx ac wc sg hst hwant QQ hgo
      exact op_val hwant hgo hst _ (exec_assign rfl (sg.slot 7 (sg.anc 7 rfl))) rfl
    · intro LL xx ac wc sg hst hwant QQ hgo
      exact op_val hwant hgo hst _ (exec_assign rfl (sg.slot 8 (sg.anc 8 rfl))) rfl
  · exact skips [] (by kernel_rfl) (fun _ h => by cases h)
  · intro xx ac1 wz hfr hsl hst
    exact hfin ac1 wz (hfr.size.trans hz) hfr.defers (fr_keep hfr [15, 16, 107, 108, 109, 110, 111, 112, 113, 114, 115] (by kernel_rfl)) (hsl 9 (by decide)) (hsl 10 (by decide)) (Lib.hid hst)
set_option maxRecDepth 20000 in
theorem order_w_r30 (ka : Option Addr) (kc : Nat) (ks : List KeyV) (pa : Option Addr) (pc : Nat) (ps : List Int) (z1d : ¬ (40 < (ks.length : Int))) (h40 : ks.length ≤ 40) (b5 : Nat) (i0 : Nat) (a : Option Addr) (cc : Nat) (q0 : List KeyV) (hi : i0 ≤ ks.length) (hq0 : q0.length = i0) (z2d : ¬ (i0 < ks.length)) (b8 : Nat) (i : Nat) (b : Option Addr) (bc : Nat) (qs : List KeyV) (ra : Option Addr) (rc : Nat) (rest : List KeyV) (hq1 : qs.length = i) (hrl : i + rest.length = ks.length) (z4d : ¬ (0 < (rest.length : Int))) (hfw : (addAll ks).length ≤ 40) (c25_1 : Nat) (j : Nat) (hj : j ≤ (addAll ks).length) (z6d : j < ((addAll ks).length)) (yl : Addr) (p : PairV) (HRp : Hid (((addAll ks).map keyRow)[j]? = some [.string p.1])) (y7 : (decide (0 < (j : Int))) = true) (y7d : 0 < (j : Int)) (j0 : Nat) (hj1 : j ≤ j0 + 1) (hj2 : j0 + 1 ≤ j) (r : PairV) (HRr : Hid (((addAll ks).map keyRow)[j0]? = some [.string r.1])) (hlt : Op.bytesLess r.1.toList p.1.toList = true) (hjm : IntKind.i64.wrap ((j : Int) - 1) = (j0 : Int)) {wa wb : World} (H : Hid (Hp [] wa wb [rS (some yl) c25_1 1 ((addAll ks).map keyRow), rB b8 43 [.int .i64 40, .slice b ((addAll ks).length) bc], rA ra rc 9 1 (rest.map kRow), rB b5 43 [.int .i64 40, .slice a ((addAll ks).length) cc], rS a cc 2 ((addAll ks).map rowOf), rS b bc 2 ((addAll ks).map rowOf), rS pa pc 1 (ps.map pickRow), rS ka kc 1 (ks.map kRow)])) (ac0 : Act) (hz : ac0.tmps.size = 146) (so13 : ac0.eval (.tmp 13) = .slice (some yl) ((addAll ks).length) c25_1) (so14 : ac0.eval (.tmp 14) = .int .i64 j) (so15 : ac0.eval (.tmp 15) = .int .i64 p.1.size) (so16 : ac0.eval (.tmp 16) = .bool true) {QR : Exit → Act → World → Prop} (hfin : ∀ (ac1 : Act) (wz : World), ac1.tmps.size = 146 → ac1.defers = ac0.defers → (∀ t, ([116, 117, 118, 119, 120, 121, 122, 123, 124, 125, 126, 127, 128, 129, 130, 131, 132, 133, 134, 135, 136, 137, 138, 139, 140, 141, 142] : List Nat).contains t = false → ac1.eval (.tmp t) = ac0.eval (.tmp t)) → ac1.eval (.tmp 142) = .bool false →  Hid (Hp [] wa wz [rS (some yl) c25_1 1 ((addAll ks).map keyRow), rB b8 43 [.int .i64 40, .slice b ((addAll ks).length) bc], rA ra rc 9 1 (rest.map kRow), rB b5 43 [.int .i64 40, .slice a ((addAll ks).length) cc], rS a cc 2 ((addAll ks).map rowOf), rS b bc 2 ((addAll ks).map rowOf), rS pa pc 1 (ps.map pickRow), rS ka kc 1 (ks.map kRow)]) → QR .normal ac1 wz) : (regAt Try.f5 30).wp Try.prog QR ac0 wb := by
  refine wp_region_st mixedP ⟨[0, 1, 2, 3, 3, 4, 5, 6, 3, 3, 4, 5, 7, 8, 9, 10, 11, 12, 13, 14, 14, 14, 15, 16, 17, 18, 19], by kernel_rfl⟩ [[], [0], [0, 1], [0, 1, 2], [0, 1, 2], [0, 1, 2, 4], [0, 1, 2, 3, 4, 5], [0, 1, 2, 3, 4, 5, 6], [0, 1, 2], [0, 1, 2], [0, 1, 2, 8, 9], [0, 1, 2, 8, 9, 10], [0, 1, 2, 3, 4, 5, 6, 7, 8, 9, 10, 11], [0, 1, 2, 3, 4, 5, 6, 7, 8, 9, 10, 11, 12], [0, 1, 2, 3, 4, 5, 6, 7, 8, 9, 10, 11, 12, 13], [0, 1, 2, 3, 4, 5, 6, 7, 8, 9, 10, 11, 12, 13, 14], [0, 1, 2, 3, 4, 5, 6, 7, 8, 9, 10, 11, 12, 13, 14, 15], [0, 1, 2, 3, 4, 5, 6, 7, 8, 9, 10, 11, 12, 13, 14, 15, 16], [0, 1, 2, 3, 4, 5, 6, 7, 8, 9, 10, 11, 12, 13, 14, 15, 16, 17], [0, 1, 2, 3, 4, 5, 6, 7, 8, 9, 10, 11, 12, 13, 14, 15, 16, 17, 18], [0, 1, 2, 3, 4, 5, 6, 7, 8, 9, 10, 11, 12, 13, 14, 15, 16, 17, 18], [0, 1, 2, 3, 4, 5, 6, 7, 8, 9, 10, 11, 12, 13, 14, 15, 16, 17, 18], [0, 1, 2, 3, 4, 5, 6, 7, 8, 9, 10, 11, 12, 13, 14, 15, 16, 17, 18, 20, 21], [0, 1, 2, 3, 4, 5, 6, 7, 8, 9, 10, 11, 12, 13, 14, 15, 16, 17, 18, 20, 21, 22], [0, 1, 2, 3, 4, 5, 6, 7, 8, 9, 10, 11, 12, 13, 14, 15, 16, 17, 18, 20, 21, 22, 23], [0, 1, 2, 3, 4, 5, 6, 7, 8, 9, 10, 11, 12, 13, 14, 15, 16, 17, 18, 19, 20, 21, 22, 23, 24], [0, 1, 2, 3, 4, 5, 6, 7, 8, 9, 10, 11, 12, 13, 14, 15, 16, 17, 18, 19, 20, 21, 22, 23, 24, 25]] (by kernel_rfl) (by kernel_rfl) 146 hz (by kernel_rfl) (fun (xx : Unit) jx => nth [.int .i64 j, .bool true, .bool true, .slice (some yl) ((addAll ks).length) c25_1, .int .i64 j, .int .i64 j0, .pointer (some (yl.add j0)), .string r.1, .slice (some yl) ((addAll ks).length) c25_1, .int .i64 j, .pointer (some (yl.add j)), .string p.1, .bool false, .bool false, .bool false, .bool true, .bool false, .bool false, .bool false, .int .i64 p.1.size, .slice (some yl) ((addAll ks).length) c25_1, .int .i64 j, .pointer (some (yl.add j)), .string p.1, .int .i64 p.1.size, .bool false, .bool false] jx) (fun (LL : Nat → Bool) (xx : Unit) ww => Hp [] wa ww [rS (some yl) c25_1 1 ((addAll ks).map keyRow), rB b8 43 [.int .i64 40, .slice b ((addAll ks).length) bc], rA ra rc 9 1 (rest.map kRow), rB b5 43 [.int .i64 40, .slice a ((addAll ks).length) cc], rS a cc 2 ((addAll ks).map rowOf), rS b bc 2 ((addAll ks).map rowOf), rS pa pc 1 (ps.map pickRow), rS ka kc 1 (ks.map kRow)]) () H.out.drew ?_ (steps_al ?_) ?_ ?_
  · exact fun _ _ _ _ _ h => h
  · refine al_cons ?_ (al_cons ?_ (al_cons ?_ (al_cons ?_ (al_cons ?_ (al_cons ?_ (al_cons ?_ (al_cons ?_ (al_cons ?_ (al_cons ?_ (al_cons ?_ (al_cons ?_ (al_cons ?_ (al_cons ?_ (al_cons ?_ (al_cons ?_ (al_cons ?_ (al_cons ?_ (al_cons ?_ (al_cons ?_ (al_cons ?_ (al_cons ?_ (al_cons ?_ (al_cons ?_ (al_cons ?_ (al_cons ?_ (al_cons ?_ (al_nil)))))))))))))))))))))))))))
    · intro LL xx ac wc sg hst hwant QQ hgo
      exact op_val hwant hgo hst _ (exec_move rfl ((sg.free 14 (by kernel_rfl)).trans so14)) rfl
    · intro LL xx ac wc sg hst hwant QQ hgo
      have se116 : ac.eval (.tmp 116) = _ := (sg.slot 0 (sg.anc 0 rfl))
      have sg116 := gt_of se116
      (try simp only [nth] at se116 sg116)
      exact op_val hwant hgo hst _ (by simp only [execOp, nth]; go_simp <;> omega) rfl
    · intro LL xx ac wc sg hst hwant QQ hgo
      exact op_val hwant hgo hst _ (exec_move rfl (sg.slot 1 (sg.anc 1 rfl))) rfl
    · intro LL xx ac wc sg hst hwant QQ hgo
      exact op_val hwant hgo hst _ (exec_move rfl ((sg.free 13 (by kernel_rfl)).trans so13)) rfl
    · intro LL xx ac wc sg hst hwant QQ hgo
      exact op_val hwant hgo hst _ (exec_move rfl ((sg.free 14 (by kernel_rfl)).trans so14)) rfl
    · intro LL xx ac wc sg hst hwant QQ hgo
      have se120 : ac.eval (.tmp 120) = _ := (sg.slot 4 (sg.anc 4 rfl))
      have sg120 := gt_of se120
      (try simp only [nth] at se120 sg120)
      exact op_val hwant hgo hst _ (by simp only [execOp, nth]; go_simp <;> omega) rfl
    · intro LL xx ac wc sg hst hwant QQ hgo
      have se119 : ac.eval (.tmp 119) = _ := (sg.slot 3 (sg.anc 3 rfl))
      have sg119 := gt_of se119
      have se121 : ac.eval (.tmp 121) = _ := (sg.slot 5 (sg.anc 5 rfl))
      have sg121 := gt_of se121
      (try simp only [nth] at se119 sg119 se121 sg121)
      exact op_val hwant hgo hst _ (by simp only [execOp, nth]; go_simp <;> omega) rfl
    · intro LL xx ac wc sg hst hwant QQ hgo
      have H := Lib.hid hst
      refine hpS_load1 0 tystring H rfl (sg.slot 6 (sg.anc 6 rfl)) hwant (by (repeat (first | exact List.Mem.head _ | apply List.Mem.tail))) HRr.out (by rfl) (by simp [Addr.add]) ?_
      exact hgo _ () _ (fun _ _ => rfl) rfl hst
    · intro LL xx ac wc sg hst hwant QQ hgo
      exact op_val hwant hgo hst _ (exec_move rfl ((sg.free 13 (by kernel_rfl)).trans so13)) rfl
    · intro LL xx ac wc sg hst hwant QQ hgo
      exact op_val hwant hgo hst _ (exec_move rfl ((sg.free 14 (by kernel_rfl)).trans so14)) rfl
    · intro LL xx ac wc sg hst hwant QQ hgo
      have se124 : ac.eval (.tmp 124) = _ := (sg.slot 8 (sg.anc 8 rfl))
      have sg124 := gt_of se124
      have se125 : ac.eval (.tmp 125) = _ := (sg.slot 9 (sg.anc 9 rfl))
      have sg125 := gt_of se125
      (try simp only [nth] at se124 sg124 se125 sg125)
      exact op_val hwant hgo hst _ (by simp only [execOp, nth]; go_simp <;> omega) rfl
    · intro LL xx ac wc sg hst hwant QQ hgo
      have H := Lib.hid hst
      refine hpS_load1 0 tystring H rfl (sg.slot 10 (sg.anc 10 rfl)) hwant (by (repeat (first | exact List.Mem.head _ | apply List.Mem.tail))) HRp.out (by rfl) (by simp [Addr.add]) ?_
      exact hgo _ () _ (fun _ _ => rfl) rfl hst
    · intro LL xx ac wc sg hst hwant QQ hgo
      have se123 : ac.eval (.tmp 123) = _ := (sg.slot 7 (sg.anc 7 rfl))
      have sg123 := gt_of se123
      have se127 : ac.eval (.tmp 127) = _ := (sg.slot 11 (sg.anc 11 rfl))
      have sg127 := gt_of se127
      (try simp only [nth] at se123 sg123 se127 sg127)
      exact op_val hwant hgo hst _ (by simp only [execOp, nth]; go_simp <;> omega) rfl
    · intro LL xx ac wc sg hst hwant QQ hgo
      exact op_val hwant hgo hst (.bool false) (exec_pick (B := true) (U := .bool false) (V := undef) rfl (sg.slot 2 (sg.anc 2 rfl)) (fun _ => (sg.slot 12 (sg.anc 12 rfl))) (fun h => by cases h)) rfl
    · intro LL xx ac wc sg hst hwant QQ hgo
      exact op_val hwant hgo hst _ (exec_move rfl (sg.slot 13 (sg.anc 13 rfl))) rfl
    · intro LL xx ac wc sg hst hwant QQ hgo
      exact op_val hwant hgo hst _ (exec_move rfl ((sg.free 16 (by kernel_rfl)).trans so16)) rfl
    · intro LL xx ac wc sg hst hwant QQ hgo
      have se131 : ac.eval (.tmp 131) = _ := (sg.slot 15 (sg.anc 15 rfl))
      have sg131 := gt_of se131
      (try simp only [nth] at se131 sg131)
      exact op_val hwant hgo hst _ (by simp only [execOp, nth]; go_simp <;> omega) rfl
    · intro LL xx ac wc sg hst hwant QQ hgo
      exact op_val hwant hgo hst (.bool false) (exec_pick (B := false) (U := undef) (V := .bool false) rfl (sg.slot 14 (sg.anc 14 rfl)) (fun h => by cases h) (fun _ => (sg.slot 16 (sg.anc 16 rfl)))) rfl
    · intro LL xx ac wc sg hst hwant QQ hgo
      exact op_val hwant hgo hst _ (exec_move rfl (sg.slot 17 (sg.anc 17 rfl))) rfl
    · intro LL xx ac wc sg hst hwant QQ hgo
      exact op_val hwant hgo hst _ (exec_move rfl ((sg.free 15 (by kernel_rfl)).trans so15)) rfl
    · intro LL xx ac wc sg hst hwant QQ hgo
      exact op_val hwant hgo hst _ (exec_move rfl ((sg.free 13 (by kernel_rfl)).trans so13)) rfl
    · intro LL xx ac wc sg hst hwant QQ hgo
      exact op_val hwant hgo hst _ (exec_move rfl ((sg.free 14 (by kernel_rfl)).trans so14)) rfl
    · intro LL xx ac wc sg hst hwant QQ hgo
      have se136 : ac.eval (.tmp 136) = _ := (sg.slot 20 (sg.anc 20 rfl))
      have sg136 := gt_of se136
      have se137 : ac.eval (.tmp 137) = _ := (sg.slot 21 (sg.anc 21 rfl))
      have sg137 := gt_of se137
      (try simp only [nth] at se136 sg136 se137 sg137)
      exact op_val hwant hgo hst _ (by simp only [execOp, nth]; go_simp <;> omega) rfl
    · intro LL xx ac wc sg hst hwant QQ hgo
      have H := Lib.hid hst
      refine hpS_load1 0 tystring H rfl (sg.slot 22 (sg.anc 22 rfl)) hwant (by (repeat (first | exact List.Mem.head _ | apply List.Mem.tail))) HRp.out (by rfl) (by simp [Addr.add]) ?_
      exact hgo _ () _ (fun _ _ => rfl) rfl hst
    · intro LL xx ac wc sg hst hwant QQ hgo
      have se139 : ac.eval (.tmp 139) = _ := (sg.slot 23 (sg.anc 23 rfl))
      have sg139 := gt_of se139
      (try simp only [nth] at se139 sg139)
      exact op_val hwant hgo hst _ (by simp only [execOp, nth]; go_simp <;> omega) rfl
    · intro LL xx ac wc sg hst hwant QQ hgo
      have se135 : ac.eval (.tmp 135) = _ := (sg.slot 19 (sg.anc 19 rfl))
      have sg135 := gt_of se135
      have se140 : ac.eval (.tmp 140) = _ := (sg.slot 24 (sg.anc 24 rfl))
      have sg140 := gt_of se140
      (try simp only [nth] at se135 sg135 se140 sg140)
      exact op_val hwant hgo hst _ (by simp only [execOp, nth]; go_simp <;> omega) rfl
    · intro LL xx ac wc sg hst hwant QQ hgo
      exact op_val hwant hgo hst (.bool false) (exec_pick (B := false) (U := undef) (V := .bool false) rfl (sg.slot 18 (sg.anc 18 rfl)) (fun h => by cases h) (fun _ => (sg.slot 25 (sg.anc 25 rfl)))) rfl
  · refine skips [3, 4, 5, 6, 7, 8, 9, 10, 11, 12, 15, 16, 19, 20, 21, 22, 23, 24, 25] (by kernel_rfl) ?_
    refine List.forall_mem_cons.2 ⟨?_, List.forall_mem_cons.2 ⟨?_, List.forall_mem_cons.2 ⟨?_, List.forall_mem_cons.2 ⟨?_, List.forall_mem_cons.2 ⟨?_, List.forall_mem_cons.2 ⟨?_, List.forall_mem_cons.2 ⟨?_, List.forall_mem_cons.2 ⟨?_, List.forall_mem_cons.2 ⟨?_, List.forall_mem_cons.2 ⟨?_, List.forall_mem_cons.2 ⟨?_, List.forall_mem_cons.2 ⟨?_, List.forall_mem_cons.2 ⟨?_, List.forall_mem_cons.2 ⟨?_, List.forall_mem_cons.2 ⟨?_, List.forall_mem_cons.2 ⟨?_, List.forall_mem_cons.2 ⟨?_, List.forall_mem_cons.2 ⟨?_, List.forall_mem_cons.2 ⟨?_, fun _ h => by cases h⟩⟩⟩⟩⟩⟩⟩⟩⟩⟩⟩⟩⟩⟩⟩⟩⟩⟩⟩
    · intro oo hop LL xx ac sg hwant
      cases Option.some.inj hop
      exact absurd ((want_t rfl rfl (sg.slot 2 (sg.anc 2 rfl))).symm.trans hwant) (by decide)
    · intro oo hop LL xx ac sg hwant
      cases Option.some.inj hop
      exact absurd ((want_t rfl rfl (sg.slot 2 (sg.anc 2 rfl))).symm.trans hwant) (by decide)
    · intro oo hop LL xx ac sg hwant
      cases Option.some.inj hop
      exact absurd ((want_t rfl rfl (sg.slot 2 (sg.anc 2 rfl))).symm.trans hwant) (by decide)
    · intro oo hop LL xx ac sg hwant
      cases Option.some.inj hop
      exact absurd ((want_t rfl rfl (sg.slot 2 (sg.anc 2 rfl))).symm.trans hwant) (by decide)
    · intro oo hop LL xx ac sg hwant
      cases Option.some.inj hop
      exact absurd ((want_t rfl rfl (sg.slot 2 (sg.anc 2 rfl))).symm.trans hwant) (by decide)
    · intro oo hop LL xx ac sg hwant
      cases Option.some.inj hop
      exact absurd ((want_t rfl rfl (sg.slot 2 (sg.anc 2 rfl))).symm.trans hwant) (by decide)
    · intro oo hop LL xx ac sg hwant
      cases Option.some.inj hop
      exact absurd ((want_t rfl rfl (sg.slot 2 (sg.anc 2 rfl))).symm.trans hwant) (by decide)
    · intro oo hop LL xx ac sg hwant
      cases Option.some.inj hop
      exact absurd ((want_t rfl rfl (sg.slot 2 (sg.anc 2 rfl))).symm.trans hwant) (by decide)
    · intro oo hop LL xx ac sg hwant
      cases Option.some.inj hop
      exact absurd ((want_t rfl rfl (sg.slot 2 (sg.anc 2 rfl))).symm.trans hwant) (by decide)
    · intro oo hop LL xx ac sg hwant
      cases Option.some.inj hop
      exact absurd ((want_t rfl rfl (sg.slot 2 (sg.anc 2 rfl))).symm.trans hwant) (by decide)
    · intro oo hop LL xx ac sg hwant
      cases Option.some.inj hop
      exact absurd ((want_f rfl rfl (sg.slot 14 (sg.anc 14 rfl))).symm.trans hwant) (by decide)
    · intro oo hop LL xx ac sg hwant
      cases Option.some.inj hop
      exact absurd ((want_f rfl rfl (sg.slot 14 (sg.anc 14 rfl))).symm.trans hwant) (by decide)
    · intro oo hop LL xx ac sg hwant
      cases Option.some.inj hop
      exact absurd ((want_f rfl rfl (sg.slot 18 (sg.anc 18 rfl))).symm.trans hwant) (by decide)
    · intro oo hop LL xx ac sg hwant
      cases Option.some.inj hop
      exact absurd ((want_f rfl rfl (sg.slot 18 (sg.anc 18 rfl))).symm.trans hwant) (by decide)
    · intro oo hop LL xx ac sg hwant
      cases Option.some.inj hop
      exact absurd ((want_f rfl rfl (sg.slot 18 (sg.anc 18 rfl))).symm.trans hwant) (by decide)
    · intro oo hop LL xx ac sg hwant
      cases Option.some.inj hop
      exact absurd ((want_f rfl rfl (sg.slot 18 (sg.anc 18 rfl))).symm.trans hwant) (by decide)
    · intro oo hop LL xx ac sg hwant
      cases Option.some.inj hop
      exact absurd ((want_f rfl rfl (sg.slot 18 (sg.anc 18 rfl))).symm.trans hwant) (by decide)
    · intro oo hop LL xx ac sg hwant
      cases Option.some.inj hop
      exact absurd ((want_f rfl rfl (sg.slot 18 (sg.anc 18 rfl))).symm.trans hwant) (by decide)
    · intro oo hop LL xx ac sg hwant
      cases Option.some.inj hop
      exact absurd ((want_f rfl rfl (sg.slot 18 (sg.anc 18 rfl))).symm.trans hwant) (by decide)
  · intro xx ac1 wz hfr hsl hst
    exact hfin ac1 wz (hfr.size.trans hz) hfr.defers (fr_keep hfr [116, 117, 118, 119, 120, 121, 122, 123, 124, 125, 126, 127, 128, 129, 130, 131, 132, 133, 134, 135, 136, 137, 138, 139, 140, 141, 142] (by kernel_rfl)) (hsl 26 (by decide)) (Lib.hid hst)
set_option maxRecDepth 20000 in
theorem order_w_r28 (ka : Option Addr) (kc : Nat) (ks : List KeyV) (pa : Option Addr) (pc : Nat) (ps : List Int) (z1d : ¬ (40 < (ks.length : Int))) (h40 : ks.length ≤ 40) (b5 : Nat) (i0 : Nat) (a : Option Addr) (cc : Nat) (q0 : List KeyV) (hi : i0 ≤ ks.length) (hq0 : q0.length = i0) (z2d : ¬ (i0 < ks.length)) (b8 : Nat) (i : Nat) (b : Option Addr) (bc : Nat) (qs : List KeyV) (ra : Option Addr) (rc : Nat) (rest : List KeyV) (hq1 : qs.length = i) (hrl : i + rest.length = ks.length) (z4d : ¬ (0 < (rest.length : Int))) (hfw : (addAll ks).length ≤ 40) (c25_1 : Nat) (j : Nat) (hj : j ≤ (addAll ks).length) (z6d : j < ((addAll ks).length)) (yl : Addr) (p : PairV) (y7d : 0 < (j : Int)) (j0 : Nat) (hj1 : j ≤ j0 + 1) (hj2 : j0 + 1 ≤ j) (r : PairV) (hlt : Op.bytesLess r.1.toList p.1.toList = true) (hjm : IntKind.i64.wrap ((j : Int) - 1) = (j0 : Int)) {wa wb : World} (H : Hid (Hp [] wa wb [rS (some yl) c25_1 1 ((addAll ks).map keyRow), rB b8 43 [.int .i64 40, .slice b ((addAll ks).length) bc], rA ra rc 9 1 (rest.map kRow), rB b5 43 [.int .i64 40, .slice a ((addAll ks).length) cc], rS a cc 2 ((addAll ks).map rowOf), rS b bc 2 ((addAll ks).map rowOf), rS pa pc 1 (ps.map pickRow), rS ka kc 1 (ks.map kRow)])) (ac0 : Act) (hz : ac0.tmps.size = 146) (so14 : ac0.eval (.tmp 14) = .int .i64 j) {QR : Exit → Act → World → Prop} (hfin : ∀ (ac1 : Act) (wz : World), ac1.tmps.size = 146 → ac1.defers = ac0.defers → (∀ t, ([14, 105, 106] : List Nat).contains t = false → ac1.eval (.tmp t) = ac0.eval (.tmp t)) → ac1.eval (.tmp 14) = .int .i64 (j + 1) →  Hid (Hp [] wa wz [rS (some yl) c25_1 1 ((addAll ks).map keyRow), rB b8 43 [.int .i64 40, .slice b ((addAll ks).length) bc], rA ra rc 9 1 (rest.map kRow), rB b5 43 [.int .i64 40, .slice a ((addAll ks).length) cc], rS a cc 2 ((addAll ks).map rowOf), rS b bc 2 ((addAll ks).map rowOf), rS pa pc 1 (ps.map pickRow), rS ka kc 1 (ks.map kRow)]) → QR .normal ac1 wz) : (regAt Try.f5 28).wp Try.prog QR ac0 wb := by
  refine wp_region_sq (by kernel_rfl) 146 hz (by kernel_rfl) (fun (xx : Unit) jx => nth [.int .i64 j, .int .i64 (j + 1), .int .i64 (j + 1)] jx) (fun (LL : Nat → Bool) (xx : Unit) ww => Hp [] wa ww [rS (some yl) c25_1 1 ((addAll ks).map keyRow), rB b8 43 [.int .i64 40, .slice b ((addAll ks).length) bc], rA ra rc 9 1 (rest.map kRow), rB b5 43 [.int .i64 40, .slice a ((addAll ks).length) cc], rS a cc 2 ((addAll ks).map rowOf), rS b bc 2 ((addAll ks).map rowOf), rS pa pc 1 (ps.map pickRow), rS ka kc 1 (ks.map kRow)]) () H.out ?_ (steps_al ?_) ?_ ?_
  · exact fun _ _ _ _ _ h => h
  · refine al_cons ?_ (al_cons ?_ (al_cons ?_ (al_nil)))
    · intro LL xx ac wc sg hst hwant QQ hgo
      exact op_val hwant hgo hst _ (exec_move rfl ((sg.yet 14 2 (sg.des 2 rfl) (by kernel_rfl)).trans so14)) rfl
    · intro LL xx ac wc sg hst hwant QQ hgo
      have se105 : ac.eval (.tmp 105) = _ := (sg.slot 0 (sg.anc 0 rfl))
      have sg105 := gt_of se105
      (try simp only [nth] at se105 sg105)
      have hnw : IntKind.i64.wrap (j + 1 : Int) = j + 1 := IntWalk.i64_in _ (by omega)
      exact op_val hwant hgo hst _ (by simp only [execOp, nth]; go_simp <;> omega) rfl
    · intro LL xx ac wc sg hst hwant QQ hgo
      exact op_val hwant hgo hst _ (exec_assign rfl (sg.slot 1 (sg.anc 1 rfl))) rfl
  · exact skips [] (by kernel_rfl) (fun _ h => by cases h)
  · intro xx ac1 wz hfr hsl hst
    exact hfin ac1 wz (hfr.size.trans hz) hfr.defers (fr_keep hfr [14, 105, 106] (by kernel_rfl)) (hsl 2 (by decide)) (Lib.hid hst)
set_option maxRecDepth 20000 in
theorem order_w_r30x1 (ka : Option Addr) (kc : Nat) (ks : List KeyV) (pa : Option Addr) (pc : Nat) (ps : List Int) (z1d : ¬ (40 < (ks.length : Int))) (h40 : ks.length ≤ 40) (b5 : Nat) (i0 : Nat) (a : Option Addr) (cc : Nat) (q0 : List KeyV) (hi : i0 ≤ ks.length) (hq0 : q0.length = i0) (z2d : ¬ (i0 < ks.length)) (b8 : Nat) (i : Nat) (b : Option Addr) (bc : Nat) (qs : List KeyV) (ra : Option Addr) (rc : Nat) (rest : List KeyV) (hq1 : qs.length = i) (hrl : i + rest.length = ks.length) (z4d : ¬ (0 < (rest.length : Int))) (hfw : (addAll ks).length ≤ 40) (c25_1 : Nat) (j : Nat) (hj : j ≤ (addAll ks).length) (z6d : j < ((addAll ks).length)) (yl : Addr) (p : PairV) (HRp : Hid (((addAll ks).map keyRow)[j]? = some [.string p.1])) (y7 : (decide (0 < (j : Int))) = false) (y7d : ¬ (0 < (j : Int))) {wa wb : World} (H : Hid (Hp [] wa wb [rS (some yl) c25_1 1 ((addAll ks).map keyRow), rB b8 43 [.int .i64 40, .slice b ((addAll ks).length) bc], rA ra rc 9 1 (rest.map kRow), rB b5 43 [.int .i64 40, .slice a ((addAll ks).length) cc], rS a cc 2 ((addAll ks).map rowOf), rS b bc 2 ((addAll ks).map rowOf), rS pa pc 1 (ps.map pickRow), rS ka kc 1 (ks.map kRow)])) (ac0 : Act) (hz : ac0.tmps.size = 146) (so13 : ac0.eval (.tmp 13) = .slice (some yl) ((addAll ks).length) c25_1) (so14 : ac0.eval (.tmp 14) = .int .i64 j) (so15 : ac0.eval (.tmp 15) = .int .i64 p.1.size) (so16 : ac0.eval (.tmp 16) = .bool true) {QR : Exit → Act → World → Prop} (hfin : ∀ (ac1 : Act) (wz : World), ac1.tmps.size = 146 → ac1.defers = ac0.defers → (∀ t, ([116, 117, 118, 119, 120, 121, 122, 123, 124, 125, 126, 127, 128, 129, 130, 131, 132, 133, 134, 135, 136, 137, 138, 139, 140, 141, 142] : List Nat).contains t = false → ac1.eval (.tmp t) = ac0.eval (.tmp t)) → ac1.eval (.tmp 142) = .bool false →  Hid (Hp [] wa wz [rS (some yl) c25_1 1 ((addAll ks).map keyRow), rB b8 43 [.int .i64 40, .slice b ((addAll ks).length) bc], rA ra rc 9 1 (rest.map kRow), rB b5 43 [.int .i64 40, .slice a ((addAll ks).length) cc], rS a cc 2 ((addAll ks).map rowOf), rS b bc 2 ((addAll ks).map rowOf), rS pa pc 1 (ps.map pickRow), rS ka kc 1 (ks.map kRow)]) → QR .normal ac1 wz) : (regAt Try.f5 30).wp Try.prog QR ac0 wb := by
  refine wp_region_st mixedP ⟨[0, 1, 2, 3, 3, 4, 5, 6, 3, 3, 4, 5, 7, 8, 9, 10, 11, 12, 13, 14, 14, 14, 15, 16, 17, 18, 19], by kernel_rfl⟩ [[], [0], [0, 1], [0, 1, 2], [0, 1, 2], [0, 1, 2, 4], [0, 1, 2, 3, 4, 5], [0, 1, 2, 3, 4, 5, 6], [0, 1, 2], [0, 1, 2], [0, 1, 2, 8, 9], [0, 1, 2, 8, 9, 10], [0, 1, 2, 3, 4, 5, 6, 7, 8, 9, 10, 11], [0, 1, 2, 3, 4, 5, 6, 7, 8, 9, 10, 11, 12], [0, 1, 2, 3, 4, 5, 6, 7, 8, 9, 10, 11, 12, 13], [0, 1, 2, 3, 4, 5, 6, 7, 8, 9, 10, 11, 12, 13, 14], [0, 1, 2, 3, 4, 5, 6, 7, 8, 9, 10, 11, 12, 13, 14, 15], [0, 1, 2, 3, 4, 5, 6, 7, 8, 9, 10, 11, 12, 13, 14, 15, 16], [0, 1, 2, 3, 4, 5, 6, 7, 8, 9, 10, 11, 12, 13, 14, 15, 16, 17], [0, 1, 2, 3, 4, 5, 6, 7, 8, 9, 10, 11, 12, 13, 14, 15, 16, 17, 18], [0, 1, 2, 3, 4, 5, 6, 7, 8, 9, 10, 11, 12, 13, 14, 15, 16, 17, 18], [0, 1, 2, 3, 4, 5, 6, 7, 8, 9, 10, 11, 12, 13, 14, 15, 16, 17, 18], [0, 1, 2, 3, 4, 5, 6, 7, 8, 9, 10, 11, 12, 13, 14, 15, 16, 17, 18, 20, 21], [0, 1, 2, 3, 4, 5, 6, 7, 8, 9, 10, 11, 12, 13, 14, 15, 16, 17, 18, 20, 21, 22], [0, 1, 2, 3, 4, 5, 6, 7, 8, 9, 10, 11, 12, 13, 14, 15, 16, 17, 18, 20, 21, 22, 23], [0, 1, 2, 3, 4, 5, 6, 7, 8, 9, 10, 11, 12, 13, 14, 15, 16, 17, 18, 19, 20, 21, 22, 23, 24], [0, 1, 2, 3, 4, 5, 6, 7, 8, 9, 10, 11, 12, 13, 14, 15, 16, 17, 18, 19, 20, 21, 22, 23, 24, 25]] (by kernel_rfl) (by kernel_rfl) 146 hz (by kernel_rfl) (fun (xx : Unit) jx => nth [.int .i64 j, .bool false, .bool false, undef, undef, undef, undef, undef, undef, undef, undef, undef, undef, .bool false, .bool false, .bool true, .bool false, .bool false, .bool false, .int .i64 p.1.size, .slice (some yl) ((addAll ks).length) c25_1, .int .i64 j, .pointer (some (yl.add j)), .string p.1, .int .i64 p.1.size, .bool false, .bool false] jx) (fun (LL : Nat → Bool) (xx : Unit) ww => Hp [] wa ww [rS (some yl) c25_1 1 ((addAll ks).map keyRow), rB b8 43 [.int .i64 40, .slice b ((addAll ks).length) bc], rA ra rc 9 1 (rest.map kRow), rB b5 43 [.int .i64 40, .slice a ((addAll ks).length) cc], rS a cc 2 ((addAll ks).map rowOf), rS b bc 2 ((addAll ks).map rowOf), rS pa pc 1 (ps.map pickRow), rS ka kc 1 (ks.map kRow)]) () H.out.drew ?_ (steps_al ?_) ?_ ?_
  · exact fun _ _ _ _ _ h => h
  · refine al_cons ?_ (al_cons ?_ (al_cons ?_ (al_cons ?_ (al_cons ?_ (al_cons ?_ (al_cons ?_ (al_cons ?_ (al_cons ?_ (al_cons ?_ (al_cons ?_ (al_cons ?_ (al_cons ?_ (al_cons ?_ (al_cons ?_ (al_cons ?_ (al_cons ?_ (al_cons ?_ (al_cons ?_ (al_cons ?_ (al_cons ?_ (al_cons ?_ (al_cons ?_ (al_cons ?_ (al_cons ?_ (al_cons ?_ (al_cons ?_ (al_nil)))))))))))))))))))))))))))
    · intro LL xx ac wc sg hst hwant QQ hgo
      exact op_val hwant hgo hst _ (exec_move rfl ((sg.free 14 (by kernel_rfl)).trans so14)) rfl
    · intro LL xx ac wc sg hst hwant QQ hgo
      have se116 : ac.eval (.tmp 116) = _ := (sg.slot 0 (sg.anc 0 rfl))
      have sg116 := gt_of se116
      (try simp only [nth] at se116 sg116)
      exact op_val hwant hgo hst _ (by simp only [execOp, nth]; go_simp <;> omega) rfl
    · intro LL xx ac wc sg hst hwant QQ hgo
      exact op_val hwant hgo hst _ (exec_move rfl (sg.slot 1 (sg.anc 1 rfl))) rfl
    · intro LL xx ac wc sg hst hwant QQ hgo
      exact absurd ((want_t rfl rfl (sg.slot 2 (sg.anc 2 rfl))).symm.trans hwant) (by simp)
    · intro LL xx ac wc sg hst hwant QQ hgo
      exact absurd ((want_t rfl rfl (sg.slot 2 (sg.anc 2 rfl))).symm.trans hwant) (by simp)
    · intro LL xx ac wc sg hst hwant QQ hgo
      exact absurd ((want_t rfl rfl (sg.slot 2 (sg.anc 2 rfl))).symm.trans hwant) (by simp)
    · intro LL xx ac wc sg hst hwant QQ hgo
      exact absurd ((want_t rfl rfl (sg.slot 2 (sg.anc 2 rfl))).symm.trans hwant) (by simp)
    · intro LL xx ac wc sg hst hwant QQ hgo
      exact absurd ((want_t rfl rfl (sg.slot 2 (sg.anc 2 rfl))).symm.trans hwant) (by simp)
    · intro LL xx ac wc sg hst hwant QQ hgo
      exact absurd ((want_t rfl rfl (sg.slot 2 (sg.anc 2 rfl))).symm.trans hwant) (by simp)
    · intro LL xx ac wc sg hst hwant QQ hgo
      exact absurd ((want_t rfl rfl (sg.slot 2 (sg.anc 2 rfl))).symm.trans hwant) (by simp)
    · intro LL xx ac wc sg hst hwant QQ hgo
      exact absurd ((want_t rfl rfl (sg.slot 2 (sg.anc 2 rfl))).symm.trans hwant) (by simp)
    · intro LL xx ac wc sg hst hwant QQ hgo
      exact absurd ((want_t rfl rfl (sg.slot 2 (sg.anc 2 rfl))).symm.trans hwant) (by simp)
    · intro LL xx ac wc sg hst hwant QQ hgo
      exact absurd ((want_t rfl rfl (sg.slot 2 (sg.anc 2 rfl))).symm.trans hwant) (by simp)
    · intro LL xx ac wc sg hst hwant QQ hgo
      exact op_val hwant hgo hst (.bool false) (exec_pick (B := false) (U := undef) (V := .bool false) rfl (sg.slot 2 (sg.anc 2 rfl)) (fun h => by cases h) (fun _ => rfl)) rfl
    · intro LL xx ac wc sg hst hwant QQ hgo
      exact op_val hwant hgo hst _ (exec_move rfl (sg.slot 13 (sg.anc 13 rfl))) rfl
    · intro LL xx ac wc sg hst hwant QQ hgo
      exact op_val hwant hgo hst _ (exec_move rfl ((sg.free 16 (by kernel_rfl)).trans so16)) rfl
    · intro LL xx ac wc sg hst hwant QQ hgo
      have se131 : ac.eval (.tmp 131) = _ := (sg.slot 15 (sg.anc 15 rfl))
      have sg131 := gt_of se131
      (try simp only [nth] at se131 sg131)
      exact op_val hwant hgo hst _ (by simp only [execOp, nth]; go_simp <;> omega) rfl
    · intro LL xx ac wc sg hst hwant QQ hgo
      exact op_val hwant hgo hst (.bool false) (exec_pick (B := false) (U := undef) (V := .bool false) rfl (sg.slot 14 (sg.anc 14 rfl)) (fun h => by cases h) (fun _ => (sg.slot 16 (sg.anc 16 rfl)))) rfl
    · intro LL xx ac wc sg hst hwant QQ hgo
      exact op_val hwant hgo hst _ (exec_move rfl (sg.slot 17 (sg.anc 17 rfl))) rfl
    · intro LL xx ac wc sg hst hwant QQ hgo
      exact op_val hwant hgo hst _ (exec_move rfl ((sg.free 15 (by kernel_rfl)).trans so15)) rfl
    · intro LL xx ac wc sg hst hwant QQ hgo
      exact op_val hwant hgo hst _ (exec_move rfl ((sg.free 13 (by kernel_rfl)).trans so13)) rfl
    · intro LL xx ac wc sg hst hwant QQ hgo
      exact op_val hwant hgo hst _ (exec_move rfl ((sg.free 14 (by kernel_rfl)).trans so14)) rfl
    · intro LL xx ac wc sg hst hwant QQ hgo
      have se136 : ac.eval (.tmp 136) = _ := (sg.slot 20 (sg.anc 20 rfl))
      have sg136 := gt_of se136
      have se137 : ac.eval (.tmp 137) = _ := (sg.slot 21 (sg.anc 21 rfl))
      have sg137 := gt_of se137
      (try simp only [nth] at se136 sg136 se137 sg137)
      exact op_val hwant hgo hst _ (by simp only [execOp, nth]; go_simp <;> omega) rfl
    · intro LL xx ac wc sg hst hwant QQ hgo
      have H := Lib.hid hst
      refine hpS_load1 0 tystring H rfl (sg.slot 22 (sg.anc 22 rfl)) hwant (by (repeat (first | exact List.Mem.head _ | apply List.Mem.tail))) HRp.out (by rfl) (by simp [Addr.add]) ?_
      exact hgo _ () _ (fun _ _ => rfl) rfl hst
    · intro LL xx ac wc sg hst hwant QQ hgo
      have se139 : ac.eval (.tmp 139) = _ := (sg.slot 23 (sg.anc 23 rfl))
      have sg139 := gt_of se139
      (try simp only [nth] at se139 sg139)
      exact op_val hwant hgo hst _ (by simp only [execOp, nth]; go_simp <;> omega) rfl
    · intro LL xx ac wc sg hst hwant QQ hgo
      have se135 : ac.eval (.tmp 135) = _ := (sg.slot 19 (sg.anc 19 rfl))
      have sg135 := gt_of se135
      have se140 : ac.eval (.tmp 140) = _ := (sg.slot 24 (sg.anc 24 rfl))
      have sg140 := gt_of se140
      (try simp only [nth] at se135 sg135 se140 sg140)
      exact op_val hwant hgo hst _ (by simp only [execOp, nth]; go_simp <;> omega) rfl
    · intro LL xx ac wc sg hst hwant QQ hgo
      exact op_val hwant hgo hst (.bool false) (exec_pick (B := false) (U := undef) (V := .bool false) rfl (sg.slot 18 (sg.anc 18 rfl)) (fun h => by cases h) (fun _ => (sg.slot 25 (sg.anc 25 rfl)))) rfl
  · refine skips [3, 4, 5, 6, 7, 8, 9, 10, 11, 12, 15, 16, 19, 20, 21, 22, 23, 24, 25] (by kernel_rfl) ?_
    refine List.forall_mem_cons.2 ⟨?_, List.forall_mem_cons.2 ⟨?_, List.forall_mem_cons.2 ⟨?_, List.forall_mem_cons.2 ⟨?_, List.forall_mem_cons.2 ⟨?_, List.forall_mem_cons.2 ⟨?_, List.forall_mem_cons.2 ⟨?_, List.forall_mem_cons.2 ⟨?_, List.forall_mem_cons.2 ⟨?_, List.forall_mem_cons.2 ⟨?_, List.forall_mem_cons.2 ⟨?_, List.forall_mem_cons.2 ⟨?_, List.forall_mem_cons.2 ⟨?_, List.forall_mem_cons.2 ⟨?_, List.forall_mem_cons.2 ⟨?_, List.forall_mem_cons.2 ⟨?_, List.forall_mem_cons.2 ⟨?_, List.forall_mem_cons.2 ⟨?_, List.forall_mem_cons.2 ⟨?_, fun _ h => by cases h⟩⟩⟩⟩⟩⟩⟩⟩⟩⟩⟩⟩⟩⟩⟩⟩⟩⟩⟩
    · intro oo hop LL xx ac sg hwant
      cases Option.some.inj hop
      exact ⟨rfl, fun _ h => h⟩
    · intro oo hop LL xx ac sg hwant
      cases Option.some.inj hop
      exact ⟨rfl, fun _ h => h⟩
    · intro oo hop LL xx ac sg hwant
      cases Option.some.inj hop
      exact ⟨rfl, fun _ h => h⟩
    · intro oo hop LL xx ac sg hwant
      cases Option.some.inj hop
      exact ⟨rfl, fun _ h => h⟩
    · intro oo hop LL xx ac sg hwant
      cases Option.some.inj hop
      exact ⟨rfl, fun _ h => h⟩
    · intro oo hop LL xx ac sg hwant
      cases Option.some.inj hop
      exact ⟨rfl, fun _ h => h⟩
    · intro oo hop LL xx ac sg hwant
      cases Option.some.inj hop
      exact ⟨rfl, fun _ h => h⟩
    · intro oo hop LL xx ac sg hwant
      cases Option.some.inj hop
      exact ⟨rfl, fun _ h => h⟩
    · intro oo hop LL xx ac sg hwant
      cases Option.some.inj hop
      exact ⟨rfl, fun _ h => h⟩
    · intro oo hop LL xx ac sg hwant
      cases Option.some.inj hop
      exact ⟨rfl, fun _ h => h⟩
    · intro oo hop LL xx ac sg hwant
      cases Option.some.inj hop
      exact absurd ((want_f rfl rfl (sg.slot 14 (sg.anc 14 rfl))).symm.trans hwant) (by decide)
    · intro oo hop LL xx ac sg hwant
      cases Option.some.inj hop
      exact absurd ((want_f rfl rfl (sg.slot 14 (sg.anc 14 rfl))).symm.trans hwant) (by decide)
    · intro oo hop LL xx ac sg hwant
      cases Option.some.inj hop
      exact absurd ((want_f rfl rfl (sg.slot 18 (sg.anc 18 rfl))).symm.trans hwant) (by decide)
    · intro oo hop LL xx ac sg hwant
      cases Option.some.inj hop
      exact absurd ((want_f rfl rfl (sg.slot 18 (sg.anc 18 rfl))).symm.trans hwant) (by decide)
    · intro oo hop LL xx ac sg hwant
      cases Option.some.inj hop
      exact absurd ((want_f rfl rfl (sg.slot 18 (sg.anc 18 rfl))).symm.trans hwant) (by decide)
    · intro oo hop LL xx ac sg hwant
      cases Option.some.inj hop
      exact absurd ((want_f rfl rfl (sg.slot 18 (sg.anc 18 rfl))).symm.trans hwant) (by decide)
    · intro oo hop LL xx ac sg hwant
      cases Option.some.inj hop
      exact absurd ((want_f rfl rfl (sg.slot 18 (sg.anc 18 rfl))).symm.trans hwant) (by decide)
    · intro oo hop LL xx ac sg hwant
      cases Option.some.inj hop
      exact absurd ((want_f rfl rfl (sg.slot 18 (sg.anc 18 rfl))).symm.trans hwant) (by decide)
    · intro oo hop LL xx ac sg hwant
      cases Option.some.inj hop
      exact absurd ((want_f rfl rfl (sg.slot 18 (sg.anc 18 rfl))).symm.trans hwant) (by decide)
  · intro xx ac1 wz hfr hsl hst
    exact hfin ac1 wz (hfr.size.trans hz) hfr.defers (fr_keep hfr [116, 117, 118, 119, 120, 121, 122, 123, 124, 125, 126, 127, 128, 129, 130, 131, 132, 133, 134, 135, 136, 137, 138, 139, 140, 141, 142] (by kernel_rfl)) (hsl 26 (by decide)) (Lib.hid hst)
set_option maxRecDepth 20000 in
theorem order_w_r28x1 (ka : Option Addr) (kc : Nat) (ks : List KeyV) (pa : Option Addr) (pc : Nat) (ps : List Int) (z1d : ¬ (40 < (ks.length : Int))) (h40 : ks.length ≤ 40) (b5 : Nat) (i0 : Nat) (a : Option Addr) (cc : Nat) (q0 : List KeyV) (hi : i0 ≤ ks.length) (hq0 : q0.length = i0) (z2d : ¬ (i0 < ks.length)) (b8 : Nat) (i : Nat) (b : Option Addr) (bc : Nat) (qs : List KeyV) (ra : Option Addr) (rc : Nat) (rest : List KeyV) (hq1 : qs.length = i) (hrl : i + rest.length = ks.length) (z4d : ¬ (0 < (rest.length : Int))) (hfw : (addAll ks).length ≤ 40) (c25_1 : Nat) (j : Nat) (hj : j ≤ (addAll ks).length) (z6d : j < ((addAll ks).length)) (yl : Addr) (y7d : ¬ (0 < (j : Int))) {wa wb : World} (H : Hid (Hp [] wa wb [rS (some yl) c25_1 1 ((addAll ks).map keyRow), rB b8 43 [.int .i64 40, .slice b ((addAll ks).length) bc], rA ra rc 9 1 (rest.map kRow), rB b5 43 [.int .i64 40, .slice a ((addAll ks).length) cc], rS a cc 2 ((addAll ks).map rowOf), rS b bc 2 ((addAll ks).map rowOf), rS pa pc 1 (ps.map pickRow), rS ka kc 1 (ks.map kRow)])) (ac0 : Act) (hz : ac0.tmps.size = 146) (so14 : ac0.eval (.tmp 14) = .int .i64 j) {QR : Exit → Act → World → Prop} (hfin : ∀ (ac1 : Act) (wz : World), ac1.tmps.size = 146 → ac1.defers = ac0.defers → (∀ t, ([14, 105, 106] : List Nat).contains t = false → ac1.eval (.tmp t) = ac0.eval (.tmp t)) → ac1.eval (.tmp 14) = .int .i64 (j + 1) →  Hid (Hp [] wa wz [rS (some yl) c25_1 1 ((addAll ks).map keyRow), rB b8 43 [.int .i64 40, .slice b ((addAll ks).length) bc], rA ra rc 9 1 (rest.map kRow), rB b5 43 [.int .i64 40, .slice a ((addAll ks).length) cc], rS a cc 2 ((addAll ks).map rowOf), rS b bc 2 ((addAll ks).map rowOf), rS pa pc 1 (ps.map pickRow), rS ka kc 1 (ks.map kRow)]) → QR .normal ac1 wz) : (regAt Try.f5 28).wp Try.prog QR ac0 wb := by
  refine wp_region_sq (by kernel_rfl) 146 hz (by kernel_rfl) (fun (xx : Unit) jx => nth [.int .i64 j, .int .i64 (j + 1), .int .i64 (j + 1)] jx) (fun (LL : Nat → Bool) (xx : Unit) ww => Hp [] wa ww [rS (some yl) c25_1 1 ((addAll ks).map keyRow), rB b8 43 [.int .i64 40, .slice b ((addAll ks).length) bc], rA ra rc 9 1 (rest.map kRow), rB b5 43 [.int .i64 40, .slice a ((addAll ks).length) cc], rS a cc 2 ((addAll ks).map rowOf), rS b bc 2 ((addAll ks).map rowOf), rS pa pc 1 (ps.map pickRow), rS ka kc 1 (ks.map kRow)]) () H.out ?_ (steps_al ?_) ?_ ?_
  · exact fun _ _ _ _ _ h => h
  · refine al_cons ?_ (al_cons ?_ (al_cons ?_ (al_nil)))
    · intro LL xx ac wc sg hst hwant QQ hgo
      exact op_val hwant hgo hst _ (exec_move rfl ((sg.yet 14 2 (sg.des 2 rfl) (by kernel_rfl)).trans so14)) rfl
    · intro LL xx ac wc sg hst hwant QQ hgo
      have se105 : ac.eval (.tmp 105) = _ := (sg.slot 0 (sg.anc 0 rfl))
      have sg105 := gt_of se105
      (try simp only [nth] at se105 sg105)
      have hnw : IntKind.i64.wrap (j + 1 : Int) = j + 1 := IntWalk.i64_in _ (by omega)
      exact op_val hwant hgo hst _ (by simp only [execOp, nth]; go_simp <;> omega) rfl
    · intro LL xx ac wc sg hst hwant QQ hgo
      exact op_val hwant hgo hst _ (exec_assign rfl (sg.slot 1 (sg.anc 1 rfl))) rfl
  · exact skips [] (by kernel_rfl) (fun _ h => by cases h)
  · intro xx ac1 wz hfr hsl hst
    exact hfin ac1 wz (hfr.size.trans hz) hfr.defers (fr_keep hfr [14, 105, 106] (by kernel_rfl)) (hsl 2 (by decide)) (Lib.hid hst)
set_option maxRecDepth 20000 in
theorem order_w_r32 (ka : Option Addr) (kc : Nat) (ks : List KeyV) (pa : Option Addr) (pc : Nat) (ps : List Int) (z1d : ¬ (40 < (ks.length : Int))) (h40 : ks.length ≤ 40) (b5 : Nat) (i0 : Nat) (a : Option Addr) (cc : Nat) (q0 : List KeyV) (hi : i0 ≤ ks.length) (hq0 : q0.length = i0) (z2d : ¬ (i0 < ks.length)) (b8 : Nat) (i : Nat) (b : Option Addr) (bc : Nat) (qs : List KeyV) (ra : Option Addr) (rc : Nat) (rest : List KeyV) (hq1 : qs.length = i) (hrl : i + rest.length = ks.length) (z4d : ¬ (0 < (rest.length : Int))) (hfw : (addAll ks).length ≤ 40) (a25_1 : Option Addr) (c25_1 : Nat) (j : Nat) (hj : j ≤ (addAll ks).length) (z6d : ¬ (j < ((addAll ks).length))) {wa wb : World} (H : Hid (Hp [] wa wb [rS a25_1 c25_1 1 ((addAll ks).map keyRow), rB b8 43 [.int .i64 40, .slice b ((addAll ks).length) bc], rA ra rc 9 1 (rest.map kRow), rB b5 43 [.int .i64 40, .slice a ((addAll ks).length) cc], rS a cc 2 ((addAll ks).map rowOf), rS b bc 2 ((addAll ks).map rowOf), rS pa pc 1 (ps.map pickRow), rS ka kc 1 (ks.map kRow)])) (ac0 : Act) (hz : ac0.tmps.size = 146) (so5 : ac0.eval (.tmp 5) = .pointer (some ⟨b5, 0, none⟩)) (so8 : ac0.eval (.tmp 8) = .pointer (some ⟨b8, 0, none⟩)) {QR : Exit → Act → World → Prop} (hfin : ∀ (ac1 : Act) (wz : World), ac1.tmps.size = 146 → ac1.defers = ac0.defers → (∀ t, ([4, 143, 144, 145] : List Nat).contains t = false → ac1.eval (.tmp t) = ac0.eval (.tmp t)) → ac1.eval (.tmp 4) = .bool true →  Hid (Hp [] wa wz [rS a25_1 c25_1 1 ((addAll ks).map keyRow), rB b8 43 [.int .i64 40, .slice b ((addAll ks).length) bc], rA ra rc 9 1 (rest.map kRow), rB b5 43 [.int .i64 40, .slice a ((addAll ks).length) cc], rS a cc 2 ((addAll ks).map rowOf), rS b bc 2 ((addAll ks).map rowOf), rS pa pc 1 (ps.map pickRow), rS ka kc 1 (ks.map kRow)]) → QR .normal ac1 wz) : (regAt Try.f5 32).wp Try.prog QR ac0 wb := by
  refine wp_region_sq (by kernel_rfl) 146 hz (by kernel_rfl) (fun (xx : Unit) jx => nth [.agg #[.int .i64 40, .slice a ((addAll ks).length) cc], .agg #[.int .i64 40, .slice b ((addAll ks).length) bc], .bool true, .bool true] jx) (fun (LL : Nat → Bool) (xx : Unit) ww => Hp [] wa ww [rS a25_1 c25_1 1 ((addAll ks).map keyRow), rB b8 43 [.int .i64 40, .slice b ((addAll ks).length) bc], rA ra rc 9 1 (rest.map kRow), rB b5 43 [.int .i64 40, .slice a ((addAll ks).length) cc], rS a cc 2 ((addAll ks).map rowOf), rS b bc 2 ((addAll ks).map rowOf), rS pa pc 1 (ps.map pickRow), rS ka kc 1 (ks.map kRow)]) () H.out ?_ (steps_al ?_) ?_ ?_
  · exact fun _ _ _ _ _ h => h
  · refine al_cons ?_ (al_cons ?_ (al_cons ?_ (al_cons ?_ (al_nil))))
    · intro LL xx ac wc sg hst hwant QQ hgo
      have H := Lib.hid hst
      refine hpA_load tyshelf_Shelf_string__int_ H rfl ((sg.free 5 (by kernel_rfl)).trans so5) hwant (by (repeat (first | exact List.Mem.head _ | apply List.Mem.tail))) (by rfl) rfl ?_
      exact hgo _ () _ (fun _ _ => rfl) rfl hst
    · intro LL xx ac wc sg hst hwant QQ hgo
      have H := Lib.hid hst
      refine hpA_load tyshelf_Shelf_string__int_ H rfl ((sg.free 8 (by kernel_rfl)).trans so8) hwant (by (repeat (first | exact List.Mem.head _ | apply List.Mem.tail))) (by rfl) rfl ?_
      exact hgo _ () _ (fun _ _ => rfl) rfl hst
    · intro LL xx ac wc sg hst hwant QQ hgo
      have se143 : ac.eval (.tmp 143) = _ := (sg.slot 0 (sg.anc 0 rfl))
      have sg143 := gt_of se143
      have se144 : ac.eval (.tmp 144) = _ := (sg.slot 1 (sg.anc 1 rfl))
      have sg144 := gt_of se144
      (try simp only [nth] at se143 sg143 se144 sg144)
      have H := Lib.hid hst
      refine op_call hwant hgo 30 _ (by simp only [execOp]; go_simp) (equalAdd a cc b bc ks wc (hp_held H (by (repeat (first | exact List.Mem.head _ | apply List.Mem.tail)))) (hp_held H (by (repeat (first | exact List.Mem.head _ | apply List.Mem.tail)))) h40) ?_
      rintro er wd ⟨rfl, hof⟩
      exact ⟨_, (), rfl, fun _ _ => rfl, rfl, Hp.quiet hst hof⟩
    · intro LL xx ac wc sg hst hwant QQ hgo
      exact op_val hwant hgo hst _ (exec_assign rfl (sg.slot 2 (sg.anc 2 rfl))) rfl
  · exact skips [] (by kernel_rfl) (fun _ h => by cases h)
  · intro xx ac1 wz hfr hsl hst
    exact hfin ac1 wz (hfr.size.trans hz) hfr.defers (fr_keep hfr [4, 143, 144, 145] (by kernel_rfl)) (hsl 3 (by decide)) (Lib.hid hst)
set_option maxHeartbeats 16000000 in
set_option maxRecDepth 20000 in
theorem order_w (ka : Option Addr) (kc : Nat) (ks : List KeyV) (pa : Option Addr) (pc : Nat) (ps : List Int) (w : World) (h1 : (rS ka kc 1 (ks.map kRow)).holds w) (h2 : (rS pa pc 1 (ps.map pickRow)).holds w) : Calls Try.prog 5 #[.slice ka ks.length kc, .slice pa ps.length pc] w fun e w' => e = .returned (.bool true) ∧ Off [] w w' := by
  have H := Lib.hid (Hp.start [] w)
  have H := hp_old H h1 (by decide)
  have H := hp_old H h2 (by decide)
  clear h1 h2
  have H := hp_none (hp_none H 2 (by decide)) 2 (by decide)
  replace H : Hid (Hp [] w w [rS none 0 2 ((addAll []).map rowOf), rS none 0 2 (([] : List PairV).map rowOf), rS pa pc 1 (ps.map pickRow), rS ka kc 1 (ks.map kRow)]) := H
  refine calls_start Try.func5 rfl 146 rfl (by simp) (fun aa nn dd sl => ?_)
  have ss0 : aa.eval (.tmp 0) = .slice ka ks.length kc := sl 0 (by simp)
  have ss1 : aa.eval (.tmp 1) = .slice pa ps.length pc := sl 1 (by simp)
  clear sl
  refine wp_seq_k fun KK1 hK1 => ?_
  refine order_w_r0 ka kc ks pa pc ps H aa nn  ?_
  clear H nn
  intro aa ww nn dd1 kp ss4 H
  replace ss0 := (kp 0 rfl).trans ss0
  replace ss1 := (kp 1 rfl).trans ss1
  replace dd := dd1.trans dd
  clear dd1 kp
  refine then_normal ?_
  refine hK1 _ _ ?_
  refine wp_seq_k fun KK2 hK2 => ?_
  refine wp_seq_k fun KK3 hK3 => ?_
  refine order_w_r1 ka kc ks pa pc ps H aa nn  ?_
  clear H nn
  intro aa ww nn dd1 kp ss18 H
  replace ss0 := (kp 0 rfl).trans ss0
  replace ss1 := (kp 1 rfl).trans ss1
  replace ss4 := (kp 4 rfl).trans ss4
  replace dd := dd1.trans dd
  clear dd1 kp
  refine then_normal ?_
  refine hK3 _ _ ?_
  refine wp_cond_false ss18 ?_
  refine wp_skip ?_
  refine then_normal ?_
  refine hK2 _ _ ?_
  refine wp_seq_k fun KK4 hK4 => ?_
  refine wp_seq_k fun KK5 hK5 => ?_
  refine order_w_r3 ka kc ks pa pc ps H aa nn ss0 ?_
  clear H nn
  intro aa ww nn dd1 kp ss21 H
  replace ss0 := (kp 0 rfl).trans ss0
  replace ss1 := (kp 1 rfl).trans ss1
  replace ss4 := (kp 4 rfl).trans ss4
  replace ss18 := (kp 18 rfl).trans ss18
  replace dd := dd1.trans dd
  clear dd1 kp
  refine then_normal ?_
  refine hK5 _ _ ?_
  refine wp_cond_split ss21 (fun z1 => ?_) (fun z1 => ?_)
  · skip
    have z1d : 40 < (ks.length : Int) := of_decide_eq_true z1
    refine wp_seq_k fun KK6 hK6 => ?_
    refine order_w_r4 ka kc ks pa pc ps z1d H aa nn  ?_
    clear H nn ss4
    intro aa ww nn dd1 kp ss4 H
    replace ss0 := (kp 0 rfl).trans ss0
    replace ss1 := (kp 1 rfl).trans ss1
    replace ss18 := (kp 18 rfl).trans ss18
    replace ss21 := (kp 21 rfl).trans ss21
    replace dd := dd1.trans dd
    clear dd1 kp
    refine then_normal ?_
    refine hK6 _ _ ?_
    refine wp_ret ?_
    refine then_ret ?_
    exact ret1 rfl dd ss4 ⟨rfl, H.out.off⟩
  · skip
    have z1d : ¬ (40 < (ks.length : Int)) := of_decide_eq_false z1
    have h40 : ks.length ≤ 40 := by omega
    refine wp_skip ?_
    refine then_normal ?_
    refine hK4 _ _ ?_
    refine wp_seq_k fun KK7 hK7 => ?_
    refine order_w_r5 ka kc ks pa pc ps z1d h40 H aa nn  ?_
    clear H nn
    intro b5 aa ww nn dd1 kp ss5 H
    replace ss0 := (kp 0 rfl).trans ss0
    replace ss1 := (kp 1 rfl).trans ss1
    replace ss4 := (kp 4 rfl).trans ss4
    replace ss18 := (kp 18 rfl).trans ss18
    replace ss21 := (kp 21 rfl).trans ss21
    replace dd := dd1.trans dd
    clear dd1 kp
    refine then_normal ?_
    refine hK7 _ _ ?_
    refine wp_seq_k fun KK8 hK8 => ?_
    refine wp_seq_k fun KK9 hK9 => ?_
    refine order_w_r6 ka kc ks pa pc ps z1d h40 b5 H aa nn  ?_
    clear H nn
    intro aa ww nn dd1 kp ss6 H
    replace ss0 := (kp 0 rfl).trans ss0
    replace ss1 := (kp 1 rfl).trans ss1
    replace ss4 := (kp 4 rfl).trans ss4
    replace ss5 := (kp 5 rfl).trans ss5
    replace ss18 := (kp 18 rfl).trans ss18
    replace ss21 := (kp 21 rfl).trans ss21
    replace dd := dd1.trans dd
    clear dd1 kp
    refine then_normal ?_
    refine hK9 _ _ ?_
    refine wp_block ?_
    refine wp_loop (fun ab wv => ∃ i0 : Nat, ∃ a : Option Addr, ∃ cc : Nat, ∃ q0 : List KeyV, i0 ≤ ks.length ∧ q0.length = i0 ∧ Hid (q0 = ks.take i0) ∧ ab.tmps.size = 146 ∧ ab.defers = [] ∧ ab.eval (.tmp 0) = .slice ka ks.length kc ∧ ab.eval (.tmp 1) = .slice pa ps.length pc ∧ ab.eval (.tmp 5) = .pointer (some ⟨b5, 0, none⟩) ∧ ab.eval (.tmp 6) = .int .i64 i0 ∧ ab.eval (.tmp 18) = .bool false ∧ ab.eval (.tmp 21) = .bool (decide (40 < (ks.length : Int))) ∧ Hid (Hp [] w wv [rB b5 43 [.int .i64 40, .slice a ((addAll q0).length) cc], rS a cc 2 ((addAll q0).map rowOf), rS none 0 2 (([] : List PairV).map rowOf), rS pa pc 1 (ps.map pickRow), rS ka kc 1 (ks.map kRow)])) (fun ab _ => ks.length - (intOf (ab.eval (.tmp 6))).toNat) ⟨0, none, 0, [], (Nat.zero_le _), rfl, (Lib.hid rfl), nn, dd, ss0, ss1, ss5, ss6, ss18, ss21, H⟩ (fun aa wv hI => ?_)
    clear H nn dd ss0 ss1 ss4 ss5 ss6 ss18 ss21
    obtain ⟨i0, a, cc, q0, hi, hq0, hqs, nn, dd, ss0, ss1, ss5, ss6, ss18, ss21, H⟩ := hI
    have mu1_6 := ss6
    refine wp_seq_k fun KK10 hK10 => ?_
    refine wp_seq_k fun KK11 hK11 => ?_
    refine order_w_r7 ka kc ks pa pc ps z1d h40 b5 i0 a cc q0 hi hq0 H aa nn ss0 ss6 ?_
    clear H nn
    intro aa ww nn dd1 kp ss26 H
    replace ss0 := (kp 0 rfl).trans ss0
    replace ss1 := (kp 1 rfl).trans ss1
    replace ss5 := (kp 5 rfl).trans ss5
    replace ss6 := (kp 6 rfl).trans ss6
    replace ss18 := (kp 18 rfl).trans ss18
    replace ss21 := (kp 21 rfl).trans ss21
    replace dd := dd1.trans dd
    clear dd1 kp
    refine then_normal ?_
    refine hK11 _ _ ?_
    refine wp_cond_split ss26 (fun z2 => ?_) (fun z2 => ?_)
    · skip
      have z2d : i0 < ks.length := of_decide_eq_true z2
      obtain ⟨y, rfl⟩ := some_of_row (hp_held H (show rS ka kc 1 (ks.map kRow) ∈ _ by simp)) (i := i0) (by simp; omega)
      obtain ⟨k0, hk0⟩ : ∃ k0, ks[i0]? = some k0 := ⟨ks[i0], List.getElem?_eq_getElem (by omega)⟩
      have HRk0 := Lib.hid (show (ks.map kRow)[i0]? = some [.string k0] by rw [List.getElem?_map, hk0]; rfl)
      have HXk0 := Lib.hid hk0
      clear hk0
      refine wp_skip ?_
      refine then_normal ?_
      refine hK10 _ _ ?_
      refine wp_seq_k fun KK12 hK12 => ?_
      refine wp_block ?_
      refine wp_seq_k fun KK13 hK13 => ?_
      refine wp_seq_k fun KK14 hK14 => ?_
      refine order_w_r9 kc ks pa pc ps z1d h40 b5 i0 a cc q0 hi hq0 z2d y k0 HRk0 H aa nn ss0 ss6 ?_
      clear H nn
      intro aa ww nn dd1 kp ss34 H
      replace ss0 := (kp 0 rfl).trans ss0
      replace ss1 := (kp 1 rfl).trans ss1
      replace ss5 := (kp 5 rfl).trans ss5
      replace ss6 := (kp 6 rfl).trans ss6
      replace ss18 := (kp 18 rfl).trans ss18
      replace ss21 := (kp 21 rfl).trans ss21
      replace ss26 := (kp 26 rfl).trans ss26
      replace dd := dd1.trans dd
      clear dd1 kp
      refine then_normal ?_
      refine hK14 _ _ ?_
      refine wp_cond_split ss34 (fun z3 => ?_) (fun z3 => ?_)
      · skip
        have z3d : 10 < (k0.size : Int) := of_decide_eq_true z3
        refine wp_seq_k fun KK15 hK15 => ?_
        refine order_w_r10 kc ks pa pc ps z1d h40 b5 i0 a cc q0 hi hq0 z2d y k0 z3d H aa nn  ?_
        clear H nn
        intro aa ww nn dd1 kp ss4 H
        replace ss0 := (kp 0 rfl).trans ss0
        replace ss1 := (kp 1 rfl).trans ss1
        replace ss5 := (kp 5 rfl).trans ss5
        replace ss6 := (kp 6 rfl).trans ss6
        replace ss18 := (kp 18 rfl).trans ss18
        replace ss21 := (kp 21 rfl).trans ss21
        replace ss26 := (kp 26 rfl).trans ss26
        replace ss34 := (kp 34 rfl).trans ss34
        replace dd := dd1.trans dd
        clear dd1 kp
        refine then_normal ?_
        refine hK15 _ _ ?_
        refine wp_ret ?_
        refine then_ret ?_
        refine block_ret ?_
        refine then_ret ?_
        refine then_ret ?_
        refine block_ret ?_
        refine then_ret ?_
        exact ret1 rfl dd ss4 ⟨rfl, H.out.off⟩
      · skip
        have z3d : ¬ (10 < (k0.size : Int)) := of_decide_eq_false z3
        refine wp_skip ?_
        refine then_normal ?_
        refine hK13 _ _ ?_
        refine order_w_r11 kc ks pa pc ps z1d h40 b5 i0 a cc q0 hi hq0 z2d y k0 HRk0 z3d H aa nn ss0 ss5 ss6 ?_
        clear H nn
        intro a11_10 c11_10 aa ww nn dd1 kp H
        replace ss0 := (kp 0 rfl).trans ss0
        replace ss1 := (kp 1 rfl).trans ss1
        replace ss5 := (kp 5 rfl).trans ss5
        replace ss6 := (kp 6 rfl).trans ss6
        replace ss18 := (kp 18 rfl).trans ss18
        replace ss21 := (kp 21 rfl).trans ss21
        replace ss26 := (kp 26 rfl).trans ss26
        replace ss34 := (kp 34 rfl).trans ss34
        replace dd := dd1.trans dd
        clear dd1 kp
        refine block_normal ?_
        refine then_normal ?_
        refine hK12 _ _ ?_
        refine order_w_r8 kc ks pa pc ps z1d h40 b5 i0 a cc q0 hi hq0 z2d y k0 z3d a11_10 c11_10 H aa nn ss6 ?_
        clear H nn ss6
        intro aa ww nn dd1 kp ss6 H
        replace ss0 := (kp 0 rfl).trans ss0
        replace ss1 := (kp 1 rfl).trans ss1
        replace ss5 := (kp 5 rfl).trans ss5
        replace ss18 := (kp 18 rfl).trans ss18
        replace ss21 := (kp 21 rfl).trans ss21
        replace ss26 := (kp 26 rfl).trans ss26
        replace ss34 := (kp 34 rfl).trans ss34
        replace dd := dd1.trans dd
        clear dd1 kp
        refine then_normal ?_
        replace H := hp_front H 5 rfl
        replace H := hp_front H 5 rfl
        replace H := hp_front H 5 rfl
        replace H := hp_front H 3 rfl
        replace H := hp_front H 4 rfl
        refine ⟨⟨i0 + 1, a11_10, c11_10, (q0 ++ [k0]), (by omega), (by simp; omega), (Lib.hid (take_next hqs.out HXk0.out)), nn, dd, ss0, ss1, ss5, ss6, ss18, ss21, (hp_take H 5)⟩, ?_⟩
        simp only [mu1_6, ss6, intOf]
        omega
    · skip
      have z2d : ¬ (i0 < ks.length) := of_decide_eq_false z2
      refine wp_exit ?_
      refine then_exit ?_
      refine then_exit ?_
      refine block_exit ?_
      refine then_normal ?_
      refine hK8 _ _ ?_
      refine wp_seq_k fun KK16 hK16 => ?_
      have hqk : q0 = ks := by rw [hqs.out, List.take_of_length_le (by omega)]
      rw [hqk] at H
      clear hqk
      refine order_w_r12 ka kc ks pa pc ps z1d h40 b5 i0 a cc q0 hi hq0 z2d H aa nn ss0 ?_
      clear H nn
      intro b49 a51 c51 aa ww nn dd1 kp ss7 H
      replace ss0 := (kp 0 rfl).trans ss0
      replace ss1 := (kp 1 rfl).trans ss1
      replace ss5 := (kp 5 rfl).trans ss5
      replace ss6 := (kp 6 rfl).trans ss6
      replace ss18 := (kp 18 rfl).trans ss18
      replace ss21 := (kp 21 rfl).trans ss21
      replace ss26 := (kp 26 rfl).trans ss26
      replace dd := dd1.trans dd
      clear dd1 kp
      refine then_normal ?_
      refine hK16 _ _ ?_
      refine wp_seq_k fun KK17 hK17 => ?_
      refine order_w_r13 ka kc ks pa pc ps z1d h40 b5 i0 a cc q0 hi hq0 z2d a51 c51 H aa nn  ?_
      clear H nn
      intro b8 aa ww nn dd1 kp ss8 H
      replace ss0 := (kp 0 rfl).trans ss0
      replace ss1 := (kp 1 rfl).trans ss1
      replace ss5 := (kp 5 rfl).trans ss5
      replace ss6 := (kp 6 rfl).trans ss6
      replace ss7 := (kp 7 rfl).trans ss7
      replace ss18 := (kp 18 rfl).trans ss18
      replace ss21 := (kp 21 rfl).trans ss21
      replace ss26 := (kp 26 rfl).trans ss26
      replace dd := dd1.trans dd
      clear dd1 kp
      refine then_normal ?_
      refine hK17 _ _ ?_
      refine wp_seq_k fun KK18 hK18 => ?_
      refine wp_seq_k fun KK19 hK19 => ?_
      refine order_w_r14 ka kc ks pa pc ps z1d h40 b5 i0 a cc q0 hi hq0 z2d a51 c51 b8 H aa nn  ?_
      clear H nn
      intro aa ww nn dd1 kp ss9 H
      replace ss0 := (kp 0 rfl).trans ss0
      replace ss1 := (kp 1 rfl).trans ss1
      replace ss5 := (kp 5 rfl).trans ss5
      replace ss6 := (kp 6 rfl).trans ss6
      replace ss7 := (kp 7 rfl).trans ss7
      replace ss8 := (kp 8 rfl).trans ss8
      replace ss18 := (kp 18 rfl).trans ss18
      replace ss21 := (kp 21 rfl).trans ss21
      replace ss26 := (kp 26 rfl).trans ss26
      replace dd := dd1.trans dd
      clear dd1 kp
      refine then_normal ?_
      refine hK19 _ _ ?_
      refine wp_block ?_
      refine wp_loop (fun ab wv => ∃ i : Nat, ∃ b : Option Addr, ∃ bc : Nat, ∃ qs : List KeyV, ∃ ra : Option Addr, ∃ rc : Nat, ∃ rest : List KeyV, qs.length = i ∧ i + rest.length = ks.length ∧ Hid (ks.Perm (qs ++ rest)) ∧ ab.tmps.size = 146 ∧ ab.defers = [] ∧ ab.eval (.tmp 0) = .slice ka ks.length kc ∧ ab.eval (.tmp 1) = .slice pa ps.length pc ∧ ab.eval (.tmp 5) = .pointer (some ⟨b5, 0, none⟩) ∧ ab.eval (.tmp 6) = .int .i64 i0 ∧ ab.eval (.tmp 7) = .slice ra rest.length rc ∧ ab.eval (.tmp 8) = .pointer (some ⟨b8, 0, none⟩) ∧ ab.eval (.tmp 9) = .int .i64 i ∧ ab.eval (.tmp 18) = .bool false ∧ ab.eval (.tmp 21) = .bool (decide (40 < (ks.length : Int))) ∧ ab.eval (.tmp 26) = .bool (decide (i0 < ks.length)) ∧ Hid (Hp [] w wv [rB b8 43 [.int .i64 40, .slice b ((addAll qs).length) bc], rA ra rc 9 1 (rest.map kRow), rB b5 43 [.int .i64 40, .slice a ((addAll ks).length) cc], rS a cc 2 ((addAll ks).map rowOf), rS b bc 2 ((addAll qs).map rowOf), rS pa pc 1 (ps.map pickRow), rS ka kc 1 (ks.map kRow)])) (fun ab _ => 40 - (intOf (ab.eval (.tmp 9))).toNat) ⟨0, none, 0, [], a51, c51, (([] : List KeyV) ++ ks), rfl, (by simp), (Lib.hid (List.Perm.refl _)), nn, dd, ss0, ss1, ss5, ss6, ss7, ss8, ss9, ss18, ss21, ss26, H⟩ (fun aa wv hI => ?_)
      clear H nn dd ss0 ss1 ss5 ss6 ss7 ss8 ss9 ss18 ss21 ss26
      obtain ⟨i, b, bc, qs, ra, rc, rest, hq1, hrl, hperm, nn, dd, ss0, ss1, ss5, ss6, ss7, ss8, ss9, ss18, ss21, ss26, H⟩ := hI
      have mu2_9 := ss9
      refine wp_seq_k fun KK20 hK20 => ?_
      refine wp_seq_k fun KK21 hK21 => ?_
      refine order_w_r15 ka kc ks pa pc ps z1d h40 b5 i0 a cc q0 hi hq0 z2d b8 i b bc qs ra rc rest hq1 hrl H aa nn ss7 ?_
      clear H nn
      intro aa ww nn dd1 kp ss55 H
      replace ss0 := (kp 0 rfl).trans ss0
      replace ss1 := (kp 1 rfl).trans ss1
      replace ss5 := (kp 5 rfl).trans ss5
      replace ss6 := (kp 6 rfl).trans ss6
      replace ss7 := (kp 7 rfl).trans ss7
      replace ss8 := (kp 8 rfl).trans ss8
      replace ss9 := (kp 9 rfl).trans ss9
      replace ss18 := (kp 18 rfl).trans ss18
      replace ss21 := (kp 21 rfl).trans ss21
      replace ss26 := (kp 26 rfl).trans ss26
      replace dd := dd1.trans dd
      clear dd1 kp
      refine then_normal ?_
      refine hK21 _ _ ?_
      refine wp_cond_split ss55 (fun z4 => ?_) (fun z4 => ?_)
      · skip
        have z4d : 0 < (rest.length : Int) := of_decide_eq_true z4
        refine wp_skip ?_
        refine then_normal ?_
        refine hK20 _ _ ?_
        refine wp_seq_k fun KK22 hK22 => ?_
        refine wp_block ?_
        refine wp_seq_k fun KK23 hK23 => ?_
        refine order_w_r17 ka kc ks pa pc ps z1d h40 b5 i0 a cc q0 hi hq0 z2d b8 i b bc qs ra rc rest hq1 hrl z4d H aa nn  ?_
        clear H nn
        intro aa ww nn dd1 kp ss10 H
        replace ss0 := (kp 0 rfl).trans ss0
        replace ss1 := (kp 1 rfl).trans ss1
        replace ss5 := (kp 5 rfl).trans ss5
        replace ss6 := (kp 6 rfl).trans ss6
        replace ss7 := (kp 7 rfl).trans ss7
        replace ss8 := (kp 8 rfl).trans ss8
        replace ss9 := (kp 9 rfl).trans ss9
        replace ss18 := (kp 18 rfl).trans ss18
        replace ss21 := (kp 21 rfl).trans ss21
        replace ss26 := (kp 26 rfl).trans ss26
        replace ss55 := (kp 55 rfl).trans ss55
        replace dd := dd1.trans dd
        clear dd1 kp
        refine then_normal ?_
        refine hK23 _ _ ?_
        refine wp_seq_k fun KK24 hK24 => ?_
        refine wp_seq_k fun KK25 hK25 => ?_
        refine order_w_r18 ka kc ks pa pc ps z1d h40 b5 i0 a cc q0 hi hq0 z2d b8 i b bc qs ra rc rest hq1 hrl z4d H aa nn ss1 ss9 ?_
        clear H nn
        intro aa ww nn dd1 kp ss61 H
        replace ss0 := (kp 0 rfl).trans ss0
        replace ss1 := (kp 1 rfl).trans ss1
        replace ss5 := (kp 5 rfl).trans ss5
        replace ss6 := (kp 6 rfl).trans ss6
        replace ss7 := (kp 7 rfl).trans ss7
        replace ss8 := (kp 8 rfl).trans ss8
        replace ss9 := (kp 9 rfl).trans ss9
        replace ss10 := (kp 10 rfl).trans ss10
        replace ss18 := (kp 18 rfl).trans ss18
        replace ss21 := (kp 21 rfl).trans ss21
        replace ss26 := (kp 26 rfl).trans ss26
        replace ss55 := (kp 55 rfl).trans ss55
        replace dd := dd1.trans dd
        clear dd1 kp
        refine then_normal ?_
        refine hK25 _ _ ?_
        have hjn1 : ∀ (ix : Nat) (aa : Act) (ww : World), ix < rest.length → aa.tmps.size = 146 → aa.defers = [] → aa.eval (.tmp 0) = .slice ka ks.length kc → aa.eval (.tmp 1) = .slice pa ps.length pc → aa.eval (.tmp 5) = .pointer (some ⟨b5, 0, none⟩) → aa.eval (.tmp 6) = .int .i64 i0 → aa.eval (.tmp 7) = .slice ra rest.length rc → aa.eval (.tmp 8) = .pointer (some ⟨b8, 0, none⟩) → aa.eval (.tmp 9) = .int .i64 i → aa.eval (.tmp 10) = .int .i64 ix → aa.eval (.tmp 18) = .bool false → aa.eval (.tmp 21) = .bool (decide (40 < (ks.length : Int))) → aa.eval (.tmp 26) = .bool (decide (i0 < ks.length)) → aa.eval (.tmp 55) = .bool (decide (0 < (rest.length : Int))) → aa.eval (.tmp 61) = .bool (decide (i < ps.length)) → Hid (Hp [] w ww [rB b8 43 [.int .i64 40, .slice b ((addAll qs).length) bc], rA ra rc 9 1 (rest.map kRow), rB b5 43 [.int .i64 40, .slice a ((addAll ks).length) cc], rS a cc 2 ((addAll ks).map rowOf), rS b bc 2 ((addAll qs).map rowOf), rS pa pc 1 (ps.map pickRow), rS ka kc 1 (ks.map kRow)]) → KK24 aa ww := by
          clear H nn dd ss0 ss1 ss5 ss6 ss7 ss8 ss9 ss10 ss18 ss21 ss26 ss55 ss61
          intro ix aa ww hat nn dd ss0 ss1 ss5 ss6 ss7 ss8 ss9 ss10 ss18 ss21 ss26 ss55 ss61 H
          refine hK24 _ _ ?_
          refine wp_seq_k fun KK26 hK26 => ?_
          obtain ⟨y2, rfl⟩ := some_of_row (hp_held (hp_read H 1 rfl) (show rS ra rc 1 (rest.map kRow) ∈ _ by simp)) (i := ix) (by simp; omega)
          obtain ⟨k, hk⟩ : ∃ k, rest[ix]? = some k := ⟨rest[ix], List.getElem?_eq_getElem (by omega)⟩
          have HRk := Lib.hid (show (rest.map kRow)[ix]? = some [.string k] by rw [List.getElem?_map, hk]; rfl)
          have HXk := Lib.hid hk
          clear hk
          refine order_w_r20 ka kc ks pa pc ps z1d h40 b5 i0 a cc q0 hi hq0 z2d b8 i b bc qs rc rest hq1 hrl z4d ix hat y2 k HRk H aa nn ss7 ss8 ss10 ?_
          clear H nn
          intro b11 a20_10 c20_10 aa ww nn dd1 kp ss11 ss12 H
          replace ss0 := (kp 0 rfl).trans ss0
          replace ss1 := (kp 1 rfl).trans ss1
          replace ss5 := (kp 5 rfl).trans ss5
          replace ss6 := (kp 6 rfl).trans ss6
          replace ss7 := (kp 7 rfl).trans ss7
          replace ss8 := (kp 8 rfl).trans ss8
          replace ss9 := (kp 9 rfl).trans ss9
          replace ss10 := (kp 10 rfl).trans ss10
          replace ss18 := (kp 18 rfl).trans ss18
          replace ss21 := (kp 21 rfl).trans ss21
          replace ss26 := (kp 26 rfl).trans ss26
          replace ss55 := (kp 55 rfl).trans ss55
          replace ss61 := (kp 61 rfl).trans ss61
          replace dd := dd1.trans dd
          clear dd1 kp
          refine then_normal ?_
          refine hK26 _ _ ?_
          refine wp_seq_k fun KK27 hK27 => ?_
          refine wp_seq_k fun KK28 hK28 => ?_
          refine order_w_r21 ka kc ks pa pc ps z1d h40 b5 i0 a cc q0 hi hq0 z2d b8 i b bc qs rc rest hq1 hrl z4d ix hat y2 k b11 a20_10 c20_10 H aa nn ss12 ?_
          clear H nn
          intro aa ww nn dd1 kp ss87 H
          replace ss0 := (kp 0 rfl).trans ss0
          replace ss1 := (kp 1 rfl).trans ss1
          replace ss5 := (kp 5 rfl).trans ss5
          replace ss6 := (kp 6 rfl).trans ss6
          replace ss7 := (kp 7 rfl).trans ss7
          replace ss8 := (kp 8 rfl).trans ss8
          replace ss9 := (kp 9 rfl).trans ss9
          replace ss10 := (kp 10 rfl).trans ss10
          replace ss11 := (kp 11 rfl).trans ss11
          replace ss12 := (kp 12 rfl).trans ss12
          replace ss18 := (kp 18 rfl).trans ss18
          replace ss21 := (kp 21 rfl).trans ss21
          replace ss26 := (kp 26 rfl).trans ss26
          replace ss55 := (kp 55 rfl).trans ss55
          replace ss61 := (kp 61 rfl).trans ss61
          replace dd := dd1.trans dd
          clear dd1 kp
          refine then_normal ?_
          refine hK28 _ _ ?_
          refine wp_cond_false ss87 ?_
          refine wp_skip ?_
          refine then_normal ?_
          refine hK27 _ _ ?_
          refine wp_seq_k fun KK29 hK29 => ?_
          refine order_w_r23 ka kc ks pa pc ps z1d h40 b5 i0 a cc q0 hi hq0 z2d b8 i b bc qs rc rest hq1 hrl z4d ix hat y2 k b11 a20_10 c20_10 H aa nn ss8 ss11 ?_
          clear H nn
          intro aa ww nn dd1 kp H
          replace ss0 := (kp 0 rfl).trans ss0
          replace ss1 := (kp 1 rfl).trans ss1
          replace ss5 := (kp 5 rfl).trans ss5
          replace ss6 := (kp 6 rfl).trans ss6
          replace ss7 := (kp 7 rfl).trans ss7
          replace ss8 := (kp 8 rfl).trans ss8
          replace ss9 := (kp 9 rfl).trans ss9
          replace ss10 := (kp 10 rfl).trans ss10
          replace ss11 := (kp 11 rfl).trans ss11
          replace ss12 := (kp 12 rfl).trans ss12
          replace ss18 := (kp 18 rfl).trans ss18
          replace ss21 := (kp 21 rfl).trans ss21
          replace ss26 := (kp 26 rfl).trans ss26
          replace ss55 := (kp 55 rfl).trans ss55
          replace ss61 := (kp 61 rfl).trans ss61
          replace ss87 := (kp 87 rfl).trans ss87
          replace dd := dd1.trans dd
          clear dd1 kp
          refine then_normal ?_
          refine hK29 _ _ ?_
          have hrc : rest.length ≤ rc := by have h := rA_cap (H.out.at 3 rfl); simpa using h
          refine order_w_r24 ka kc ks pa pc ps z1d h40 b5 i0 a cc q0 hi hq0 z2d b8 i b bc qs rc rest hq1 hrl z4d ix hat y2 k b11 a20_10 c20_10 hrc H aa nn ss7 ss10 ?_
          clear H nn ss7
          intro b89 a93 c93 a98 c98 aa ww nn dd1 kp ss7 H
          replace ss0 := (kp 0 rfl).trans ss0
          replace ss1 := (kp 1 rfl).trans ss1
          replace ss5 := (kp 5 rfl).trans ss5
          replace ss6 := (kp 6 rfl).trans ss6
          replace ss8 := (kp 8 rfl).trans ss8
          replace ss9 := (kp 9 rfl).trans ss9
          replace ss10 := (kp 10 rfl).trans ss10
          replace ss11 := (kp 11 rfl).trans ss11
          replace ss12 := (kp 12 rfl).trans ss12
          replace ss18 := (kp 18 rfl).trans ss18
          replace ss21 := (kp 21 rfl).trans ss21
          replace ss26 := (kp 26 rfl).trans ss26
          replace ss55 := (kp 55 rfl).trans ss55
          replace ss61 := (kp 61 rfl).trans ss61
          replace ss87 := (kp 87 rfl).trans ss87
          replace dd := dd1.trans dd
          clear dd1 kp
          refine block_normal ?_
          refine then_normal ?_
          refine hK22 _ _ ?_
          refine order_w_r16 ka kc ks pa pc ps z1d h40 b5 i0 a cc q0 hi hq0 z2d b8 i b bc qs rc rest hq1 hrl z4d ix hat y2 k b11 a20_10 c20_10 hrc a98 c98 H aa nn ss9 ?_
          clear H nn ss9
          intro aa ww nn dd1 kp ss9 H
          replace ss0 := (kp 0 rfl).trans ss0
          replace ss1 := (kp 1 rfl).trans ss1
          replace ss5 := (kp 5 rfl).trans ss5
          replace ss6 := (kp 6 rfl).trans ss6
          replace ss7 := (kp 7 rfl).trans ss7
          replace ss8 := (kp 8 rfl).trans ss8
          replace ss10 := (kp 10 rfl).trans ss10
          replace ss11 := (kp 11 rfl).trans ss11
          replace ss12 := (kp 12 rfl).trans ss12
          replace ss18 := (kp 18 rfl).trans ss18
          replace ss21 := (kp 21 rfl).trans ss21
          replace ss26 := (kp 26 rfl).trans ss26
          replace ss55 := (kp 55 rfl).trans ss55
          replace ss61 := (kp 61 rfl).trans ss61
          replace ss87 := (kp 87 rfl).trans ss87
          replace dd := dd1.trans dd
          clear dd1 kp
          refine then_normal ?_
          replace H := hp_front H 9 rfl
          replace H := hp_front H 9 rfl
          replace H := hp_front H 3 rfl
          replace H := hp_front H 8 rfl
          replace H := hp_front H 8 rfl
          replace H := hp_front H 5 rfl
          replace H := hp_front H 7 rfl
          refine ⟨⟨i + 1, a20_10, c20_10, (qs ++ [k]), a98, c98, ((([] : List KeyV) ++ (rest.take ix)) ++ (rest.drop (ix + 1))), (by simp; omega), (by simp; omega), (Lib.hid (perm_cut hperm.out HXk.out)), nn, dd, ss0, ss1, ss5, ss6, ss7, ss8, ss9, ss18, ss21, ss26, (hp_take H 7)⟩, ?_⟩
          simp only [mu2_9, ss9, intOf]
          omega
        refine wp_cond_split ss61 (fun z5 => ?_) (fun z5 => ?_)
        · skip
          have z5d : i < ps.length := of_decide_eq_true z5
          obtain ⟨yp, rfl⟩ := some_of_row (hp_held H (show rS pa pc 1 (ps.map pickRow) ∈ _ by simp)) (i := i) (by simp; omega)
          obtain ⟨x, hx⟩ : ∃ x, ps[i]? = some x := ⟨ps[i], List.getElem?_eq_getElem (by omega)⟩
          have HRx := Lib.hid (show (ps.map pickRow)[i]? = some [.int .i64 x] by rw [List.getElem?_map, hx]; rfl)
          have HXx := Lib.hid hx
          clear hx
          have hw : IntKind.u64.wrap (rest.length : Int) = (rest.length : Int) := IntWalk.u64_in _ (by omega)
          obtain ⟨m, hm1, hm⟩ := mod_at x (n := rest.length) (by omega) (by omega)
          refine order_w_r19 ka kc ks pc ps z1d h40 b5 i0 a cc q0 hi hq0 z2d b8 i b bc qs ra rc rest hq1 hrl z4d z5d yp x HRx hw m hm1 hm H aa nn ss1 ss7 ss9 ?_
          clear H nn ss10
          intro aa ww nn dd1 kp ss10 H
          replace ss0 := (kp 0 rfl).trans ss0
          replace ss1 := (kp 1 rfl).trans ss1
          replace ss5 := (kp 5 rfl).trans ss5
          replace ss6 := (kp 6 rfl).trans ss6
          replace ss7 := (kp 7 rfl).trans ss7
          replace ss8 := (kp 8 rfl).trans ss8
          replace ss9 := (kp 9 rfl).trans ss9
          replace ss18 := (kp 18 rfl).trans ss18
          replace ss21 := (kp 21 rfl).trans ss21
          replace ss26 := (kp 26 rfl).trans ss26
          replace ss55 := (kp 55 rfl).trans ss55
          replace ss61 := (kp 61 rfl).trans ss61
          replace dd := dd1.trans dd
          clear dd1 kp
          refine then_normal ?_
          exact hjn1 m _ _ hm1 nn dd ss0 ss1 ss5 ss6 ss7 ss8 ss9 ss10 ss18 ss21 ss26 ss55 ss61 (Lib.hid (H.out.sub (by repeat (first | exact List.Sublist.refl _ | apply List.Sublist.cons₂ | apply List.Sublist.cons))))
        · skip
          have z5d : ¬ (i < ps.length) := of_decide_eq_false z5
          refine wp_skip ?_
          refine then_normal ?_
          exact hjn1 0 _ _ (by omega) nn dd ss0 ss1 ss5 ss6 ss7 ss8 ss9 ss10 ss18 ss21 ss26 ss55 ss61 (Lib.hid (H.out.sub (by repeat (first | exact List.Sublist.refl _ | apply List.Sublist.cons₂ | apply List.Sublist.cons))))
      · skip
        have z4d : ¬ (0 < (rest.length : Int)) := of_decide_eq_false z4
        refine wp_exit ?_
        refine then_exit ?_
        refine then_exit ?_
        refine block_exit ?_
        refine then_normal ?_
        refine hK18 _ _ ?_
        refine wp_seq_k fun KK30 hK30 => ?_
        have hr0 : rest = [] := List.length_eq_zero_iff.1 (by omega)
        have hpp := hperm.out
        rw [hr0, List.append_nil] at hpp
        rw [← add_perm hpp h40] at H
        clear hpp hr0
        have hfw : (addAll ks).length ≤ 40 := Nat.le_trans (add_all ks _ rfl h40).2.1 h40
        refine order_w_r25 ka kc ks pa pc ps z1d h40 b5 i0 a cc q0 hi hq0 z2d b8 i b bc qs ra rc rest hq1 hrl z4d hfw H aa nn ss5 ?_
        clear H nn
        intro a25_1 c25_1 aa ww nn dd1 kp ss13 H
        replace ss0 := (kp 0 rfl).trans ss0
        replace ss1 := (kp 1 rfl).trans ss1
        replace ss5 := (kp 5 rfl).trans ss5
        replace ss6 := (kp 6 rfl).trans ss6
        replace ss7 := (kp 7 rfl).trans ss7
        replace ss8 := (kp 8 rfl).trans ss8
        replace ss9 := (kp 9 rfl).trans ss9
        replace ss18 := (kp 18 rfl).trans ss18
        replace ss21 := (kp 21 rfl).trans ss21
        replace ss26 := (kp 26 rfl).trans ss26
        replace ss55 := (kp 55 rfl).trans ss55
        replace dd := dd1.trans dd
        clear dd1 kp
        refine then_normal ?_
        refine hK30 _ _ ?_
        refine wp_seq_k fun KK31 hK31 => ?_
        refine wp_seq_k fun KK32 hK32 => ?_
        refine order_w_r26 ka kc ks pa pc ps z1d h40 b5 i0 a cc q0 hi hq0 z2d b8 i b bc qs ra rc rest hq1 hrl z4d hfw a25_1 c25_1 H aa nn  ?_
        clear H nn
        intro aa ww nn dd1 kp ss14 H
        replace ss0 := (kp 0 rfl).trans ss0
        replace ss1 := (kp 1 rfl).trans ss1
        replace ss5 := (kp 5 rfl).trans ss5
        replace ss6 := (kp 6 rfl).trans ss6
        replace ss7 := (kp 7 rfl).trans ss7
        replace ss8 := (kp 8 rfl).trans ss8
        replace ss9 := (kp 9 rfl).trans ss9
        replace ss13 := (kp 13 rfl).trans ss13
        replace ss18 := (kp 18 rfl).trans ss18
        replace ss21 := (kp 21 rfl).trans ss21
        replace ss26 := (kp 26 rfl).trans ss26
        replace ss55 := (kp 55 rfl).trans ss55
        replace dd := dd1.trans dd
        clear dd1 kp
        refine then_normal ?_
        refine hK32 _ _ ?_
        refine wp_block ?_
        refine wp_loop (fun ab wv => ∃ j : Nat, j ≤ (addAll ks).length ∧ ab.tmps.size = 146 ∧ ab.defers = [] ∧ ab.eval (.tmp 0) = .slice ka ks.length kc ∧ ab.eval (.tmp 1) = .slice pa ps.length pc ∧ ab.eval (.tmp 5) = .pointer (some ⟨b5, 0, none⟩) ∧ ab.eval (.tmp 6) = .int .i64 i0 ∧ ab.eval (.tmp 7) = .slice ra rest.length rc ∧ ab.eval (.tmp 8) = .pointer (some ⟨b8, 0, none⟩) ∧ ab.eval (.tmp 9) = .int .i64 i ∧ ab.eval (.tmp 13) = .slice a25_1 ((addAll ks).length) c25_1 ∧ ab.eval (.tmp 14) = .int .i64 j ∧ ab.eval (.tmp 18) = .bool false ∧ ab.eval (.tmp 21) = .bool (decide (40 < (ks.length : Int))) ∧ ab.eval (.tmp 26) = .bool (decide (i0 < ks.length)) ∧ ab.eval (.tmp 55) = .bool (decide (0 < (rest.length : Int))) ∧ Hid (Hp [] w wv [rS a25_1 c25_1 1 ((addAll ks).map keyRow), rB b8 43 [.int .i64 40, .slice b ((addAll ks).length) bc], rA ra rc 9 1 (rest.map kRow), rB b5 43 [.int .i64 40, .slice a ((addAll ks).length) cc], rS a cc 2 ((addAll ks).map rowOf), rS b bc 2 ((addAll ks).map rowOf), rS pa pc 1 (ps.map pickRow), rS ka kc 1 (ks.map kRow)])) (fun ab _ => (addAll ks).length - (intOf (ab.eval (.tmp 14))).toNat) ⟨0, (Nat.zero_le _), nn, dd, ss0, ss1, ss5, ss6, ss7, ss8, ss9, ss13, ss14, ss18, ss21, ss26, ss55, H⟩ (fun aa wv hI => ?_)
        clear H nn dd ss0 ss1 ss5 ss6 ss7 ss8 ss9 ss13 ss14 ss18 ss21 ss26 ss55
        obtain ⟨j, hj, nn, dd, ss0, ss1, ss5, ss6, ss7, ss8, ss9, ss13, ss14, ss18, ss21, ss26, ss55, H⟩ := hI
        have mu3_14 := ss14
        refine wp_seq_k fun KK33 hK33 => ?_
        refine wp_seq_k fun KK34 hK34 => ?_
        refine order_w_r27 ka kc ks pa pc ps z1d h40 b5 i0 a cc q0 hi hq0 z2d b8 i b bc qs ra rc rest hq1 hrl z4d hfw a25_1 c25_1 j hj H aa nn ss13 ss14 ?_
        clear H nn
        intro aa ww nn dd1 kp ss104 H
        replace ss0 := (kp 0 rfl).trans ss0
        replace ss1 := (kp 1 rfl).trans ss1
        replace ss5 := (kp 5 rfl).trans ss5
        replace ss6 := (kp 6 rfl).trans ss6
        replace ss7 := (kp 7 rfl).trans ss7
        replace ss8 := (kp 8 rfl).trans ss8
        replace ss9 := (kp 9 rfl).trans ss9
        replace ss13 := (kp 13 rfl).trans ss13
        replace ss14 := (kp 14 rfl).trans ss14
        replace ss18 := (kp 18 rfl).trans ss18
        replace ss21 := (kp 21 rfl).trans ss21
        replace ss26 := (kp 26 rfl).trans ss26
        replace ss55 := (kp 55 rfl).trans ss55
        replace dd := dd1.trans dd
        clear dd1 kp
        refine then_normal ?_
        refine hK34 _ _ ?_
        refine wp_cond_split ss104 (fun z6 => ?_) (fun z6 => ?_)
        · skip
          have z6d : j < ((addAll ks).length) := of_decide_eq_true z6
          obtain ⟨yl, rfl⟩ := some_of_row (hp_held H (show rS a25_1 c25_1 1 ((addAll ks).map keyRow) ∈ _ by simp)) (i := j) (by simp; omega)
          obtain ⟨p, hp⟩ : ∃ p, (addAll ks)[j]? = some p := ⟨(addAll ks)[j], List.getElem?_eq_getElem (by omega)⟩
          have HRp := Lib.hid (show ((addAll ks).map keyRow)[j]? = some [.string p.1] by rw [List.getElem?_map, hp]; rfl)
          have HXp := Lib.hid hp
          clear hp
          refine wp_skip ?_
          refine then_normal ?_
          refine hK33 _ _ ?_
          refine wp_seq_k fun KK35 hK35 => ?_
          refine wp_block ?_
          refine wp_seq_k fun KK36 hK36 => ?_
          refine order_w_r29 ka kc ks pa pc ps z1d h40 b5 i0 a cc q0 hi hq0 z2d b8 i b bc qs ra rc rest hq1 hrl z4d hfw c25_1 j hj z6d yl p HRp HXp H aa nn ss8 ss13 ss14 ?_
          clear H nn
          intro aa ww nn dd1 kp ss15 ss16 H
          replace ss0 := (kp 0 rfl).trans ss0
          replace ss1 := (kp 1 rfl).trans ss1
          replace ss5 := (kp 5 rfl).trans ss5
          replace ss6 := (kp 6 rfl).trans ss6
          replace ss7 := (kp 7 rfl).trans ss7
          replace ss8 := (kp 8 rfl).trans ss8
          replace ss9 := (kp 9 rfl).trans ss9
          replace ss13 := (kp 13 rfl).trans ss13
          replace ss14 := (kp 14 rfl).trans ss14
          replace ss18 := (kp 18 rfl).trans ss18
          replace ss21 := (kp 21 rfl).trans ss21
          replace ss26 := (kp 26 rfl).trans ss26
          replace ss55 := (kp 55 rfl).trans ss55
          replace ss104 := (kp 104 rfl).trans ss104
          replace dd := dd1.trans dd
          clear dd1 kp
          refine then_normal ?_
          refine hK36 _ _ ?_
          refine wp_seq_k fun KK37 hK37 => ?_
          rcases Bool.eq_false_or_eq_true (decide (0 < (j : Int))) with y7 | y7
          · skip
            have y7d : 0 < (j : Int) := of_decide_eq_true y7
            obtain ⟨j0, hj0⟩ : ∃ j0, j = j0 + 1 := ⟨j - 1, by omega⟩
            obtain ⟨r, hr⟩ : ∃ r, (addAll ks)[j0]? = some r := ⟨(addAll ks)[j0], List.getElem?_eq_getElem (by omega)⟩
            have HRr := Lib.hid (show ((addAll ks).map keyRow)[j0]? = some [.string r.1] by rw [List.getElem?_map, hr]; rfl)
            have hlt : Op.bytesLess r.1.toList p.1.toList = true := less_key h40 hr (by rw [← hj0]; exact HXp.out)
            have hjm : IntKind.i64.wrap ((j : Int) - 1) = (j0 : Int) := by rw [IntWalk.i64_in _ (by omega)]; omega
            clear hr
            have hj1 : j ≤ j0 + 1 := by omega
            have hj2 : j0 + 1 ≤ j := by omega
            clear hj0
            refine order_w_r30 ka kc ks pa pc ps z1d h40 b5 i0 a cc q0 hi hq0 z2d b8 i b bc qs ra rc rest hq1 hrl z4d hfw c25_1 j hj z6d yl p HRp y7 y7d j0 hj1 hj2 r HRr hlt hjm H aa nn ss13 ss14 ss15 ss16 ?_
            clear H nn
            intro aa ww nn dd1 kp ss142 H
            replace ss0 := (kp 0 rfl).trans ss0
            replace ss1 := (kp 1 rfl).trans ss1
            replace ss5 := (kp 5 rfl).trans ss5
            replace ss6 := (kp 6 rfl).trans ss6
            replace ss7 := (kp 7 rfl).trans ss7
            replace ss8 := (kp 8 rfl).trans ss8
            replace ss9 := (kp 9 rfl).trans ss9
            replace ss13 := (kp 13 rfl).trans ss13
            replace ss14 := (kp 14 rfl).trans ss14
            replace ss15 := (kp 15 rfl).trans ss15
            replace ss16 := (kp 16 rfl).trans ss16
            replace ss18 := (kp 18 rfl).trans ss18
            replace ss21 := (kp 21 rfl).trans ss21
            replace ss26 := (kp 26 rfl).trans ss26
            replace ss55 := (kp 55 rfl).trans ss55
            replace ss104 := (kp 104 rfl).trans ss104
            replace dd := dd1.trans dd
            clear dd1 kp
            refine then_normal ?_
            refine hK37 _ _ ?_
            refine wp_cond_false ss142 ?_
            refine wp_skip ?_
            refine block_normal ?_
            refine then_normal ?_
            refine hK35 _ _ ?_
            refine order_w_r28 ka kc ks pa pc ps z1d h40 b5 i0 a cc q0 hi hq0 z2d b8 i b bc qs ra rc rest hq1 hrl z4d hfw c25_1 j hj z6d yl p y7d j0 hj1 hj2 r hlt hjm H aa nn ss14 ?_
            clear H nn ss14
            intro aa ww nn dd1 kp ss14 H
            replace ss0 := (kp 0 rfl).trans ss0
            replace ss1 := (kp 1 rfl).trans ss1
            replace ss5 := (kp 5 rfl).trans ss5
            replace ss6 := (kp 6 rfl).trans ss6
            replace ss7 := (kp 7 rfl).trans ss7
            replace ss8 := (kp 8 rfl).trans ss8
            replace ss9 := (kp 9 rfl).trans ss9
            replace ss13 := (kp 13 rfl).trans ss13
            replace ss15 := (kp 15 rfl).trans ss15
            replace ss16 := (kp 16 rfl).trans ss16
            replace ss18 := (kp 18 rfl).trans ss18
            replace ss21 := (kp 21 rfl).trans ss21
            replace ss26 := (kp 26 rfl).trans ss26
            replace ss55 := (kp 55 rfl).trans ss55
            replace ss104 := (kp 104 rfl).trans ss104
            replace ss142 := (kp 142 rfl).trans ss142
            replace dd := dd1.trans dd
            clear dd1 kp
            refine then_normal ?_
            refine ⟨⟨j + 1, (by omega), nn, dd, ss0, ss1, ss5, ss6, ss7, ss8, ss9, ss13, ss14, ss18, ss21, ss26, ss55, (Lib.hid (H.out.sub (by repeat (first | exact List.Sublist.refl _ | apply List.Sublist.cons₂ | apply List.Sublist.cons))))⟩, ?_⟩
            simp only [mu3_14, ss14, intOf]
            omega
          · skip
            have y7d : ¬ (0 < (j : Int)) := of_decide_eq_false y7
            refine order_w_r30x1 ka kc ks pa pc ps z1d h40 b5 i0 a cc q0 hi hq0 z2d b8 i b bc qs ra rc rest hq1 hrl z4d hfw c25_1 j hj z6d yl p HRp y7 y7d H aa nn ss13 ss14 ss15 ss16 ?_
            clear H nn
            intro aa ww nn dd1 kp ss142 H
            replace ss0 := (kp 0 rfl).trans ss0
            replace ss1 := (kp 1 rfl).trans ss1
            replace ss5 := (kp 5 rfl).trans ss5
            replace ss6 := (kp 6 rfl).trans ss6
            replace ss7 := (kp 7 rfl).trans ss7
            replace ss8 := (kp 8 rfl).trans ss8
            replace ss9 := (kp 9 rfl).trans ss9
            replace ss13 := (kp 13 rfl).trans ss13
            replace ss14 := (kp 14 rfl).trans ss14
            replace ss15 := (kp 15 rfl).trans ss15
            replace ss16 := (kp 16 rfl).trans ss16
            replace ss18 := (kp 18 rfl).trans ss18
            replace ss21 := (kp 21 rfl).trans ss21
            replace ss26 := (kp 26 rfl).trans ss26
            replace ss55 := (kp 55 rfl).trans ss55
            replace ss104 := (kp 104 rfl).trans ss104
            replace dd := dd1.trans dd
            clear dd1 kp
            refine then_normal ?_
            refine hK37 _ _ ?_
            refine wp_cond_false ss142 ?_
            refine wp_skip ?_
            refine block_normal ?_
            refine then_normal ?_
            refine hK35 _ _ ?_
            refine order_w_r28x1 ka kc ks pa pc ps z1d h40 b5 i0 a cc q0 hi hq0 z2d b8 i b bc qs ra rc rest hq1 hrl z4d hfw c25_1 j hj z6d yl y7d H aa nn ss14 ?_
            clear H nn ss14
            intro aa ww nn dd1 kp ss14 H
            replace ss0 := (kp 0 rfl).trans ss0
            replace ss1 := (kp 1 rfl).trans ss1
            replace ss5 := (kp 5 rfl).trans ss5
            replace ss6 := (kp 6 rfl).trans ss6
            replace ss7 := (kp 7 rfl).trans ss7
            replace ss8 := (kp 8 rfl).trans ss8
            replace ss9 := (kp 9 rfl).trans ss9
            replace ss13 := (kp 13 rfl).trans ss13
            replace ss15 := (kp 15 rfl).trans ss15
            replace ss16 := (kp 16 rfl).trans ss16
            replace ss18 := (kp 18 rfl).trans ss18
            replace ss21 := (kp 21 rfl).trans ss21
            replace ss26 := (kp 26 rfl).trans ss26
            replace ss55 := (kp 55 rfl).trans ss55
            replace ss104 := (kp 104 rfl).trans ss104
            replace ss142 := (kp 142 rfl).trans ss142
            replace dd := dd1.trans dd
            clear dd1 kp
            refine then_normal ?_
            refine ⟨⟨j + 1, (by omega), nn, dd, ss0, ss1, ss5, ss6, ss7, ss8, ss9, ss13, ss14, ss18, ss21, ss26, ss55, (Lib.hid (H.out.sub (by repeat (first | exact List.Sublist.refl _ | apply List.Sublist.cons₂ | apply List.Sublist.cons))))⟩, ?_⟩
            simp only [mu3_14, ss14, intOf]
            omega
        · skip
          have z6d : ¬ (j < ((addAll ks).length)) := of_decide_eq_false z6
          refine wp_exit ?_
          refine then_exit ?_
          refine then_exit ?_
          refine block_exit ?_
          refine then_normal ?_
          refine hK31 _ _ ?_
          refine wp_seq_k fun KK38 hK38 => ?_
          refine order_w_r32 ka kc ks pa pc ps z1d h40 b5 i0 a cc q0 hi hq0 z2d b8 i b bc qs ra rc rest hq1 hrl z4d hfw a25_1 c25_1 j hj z6d H aa nn ss5 ss8 ?_
          clear H nn
          intro aa ww nn dd1 kp ss4 H
          replace ss0 := (kp 0 rfl).trans ss0
          replace ss1 := (kp 1 rfl).trans ss1
          replace ss5 := (kp 5 rfl).trans ss5
          replace ss6 := (kp 6 rfl).trans ss6
          replace ss7 := (kp 7 rfl).trans ss7
          replace ss8 := (kp 8 rfl).trans ss8
          replace ss9 := (kp 9 rfl).trans ss9
          replace ss13 := (kp 13 rfl).trans ss13
          replace ss14 := (kp 14 rfl).trans ss14
          replace ss18 := (kp 18 rfl).trans ss18
          replace ss21 := (kp 21 rfl).trans ss21
          replace ss26 := (kp 26 rfl).trans ss26
          replace ss55 := (kp 55 rfl).trans ss55
          replace ss104 := (kp 104 rfl).trans ss104
          replace dd := dd1.trans dd
          clear dd1 kp
          refine then_normal ?_
          refine hK38 _ _ ?_
          refine wp_ret ?_
          exact ret1 rfl dd ss4 ⟨rfl, H.out.off⟩
end Go.Proofs.Ytfhhfmkfkoemjaa.Si6
