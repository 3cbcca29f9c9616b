/- Layer 15: equality, With, Told. -/
import Derived.Test.YtloemjhhedkhiaaProg
import Derived.Below
import Derived.WalkKit
import Derived.KernelRfl
import Derived.RowKit3
import Derived.Deep.LoopGhost
import Derived.Deep.QuietTactic
import Derived.BigQuiet
import Derived.WideLaws
import Derived.Deep.DeepCutAuto
import Derived.Deep.CutBlock
import Derived.Lib.Hide
import Derived.Laws.BitsLemmas
import Derived.Laws.Bits64
import Derived.Laws.BitsAllLaws
import Derived.IntWalk
import Derived.Outline
import Derived.WalkSpells
import Derived.Test.YtloemjhhedkhiaaMem
import Derived.Test.YtloemjhhedkhiaaNd2
import Derived.Test.YtloemjhhedkhiaaNw4
namespace Go.Proofs.Ytloemjhhedkhiaa.Nt
open Go.RowKit Go.Proofs.Ytloemjhhedkhiaa.Mem Go.Proofs.Ytloemjhhedkhiaa.Pk Go.Proofs.Ytloemjhhedkhiaa.Reg Go.Proofs.Ytloemjhhedkhiaa.Wk
set_option linter.unusedVariables false
set_option linter.unusedSimpArgs false

def eqA (a b : AnsV) : Bool := (((((a.seq == b.seq) && (a.code == b.code)) && (a.index == b.index)) && (a.session == b.session)) && (a.pass == b.pass)) && decide (a.calls = b.calls)
theorem eqA_iff (a b : AnsV) : eqA a b = true ↔ a = b := by
  obtain ⟨a1, a2, a3, a4, a5, a6⟩ := a
  obtain ⟨b1, b2, b3, b4, b5, b6⟩ := b
  unfold eqA
  simp only [Bool.and_eq_true, beq_iff_eq, decide_eq_true_eq, AnsV.mk.injEq]
  constructor
  · rintro ⟨⟨⟨⟨⟨h1, h2⟩, h3⟩, h4⟩, h5⟩, h6⟩
    exact ⟨h1, h2, h3, h4, h5, h6⟩
  · rintro ⟨h1, h2, h3, h4, h5, h6⟩
    exact ⟨⟨⟨⟨⟨h1, h2⟩, h3⟩, h4⟩, h5⟩, h6⟩
theorem eq_next {xs ys : List CallV} {i : Nat} {x y : CallV} (h : ∀ k, k < i → xs[k]? = ys[k]?) (hx : xs[i]? = some x) (hy : ys[i]? = some y) (he : x = y) : ∀ k, k < i + 1 → xs[k]? = ys[k]? := fun k hk => by
  rcases Nat.lt_or_ge k i with h1 | h1
  · exact h k h1
  · obtain rfl : k = i := by omega
    rw [hx, hy, he]
theorem eq_all {xs ys : List CallV} (hl : xs.length = ys.length) (h : ∀ k, k < xs.length → xs[k]? = ys[k]?) : xs = ys := by
  apply List.ext_getElem?
  intro k
  rcases Nat.lt_or_ge k xs.length with h1 | h1
  · exact h k h1
  · rw [List.getElem?_eq_none h1, List.getElem?_eq_none (by omega)]
theorem eq_not {xs ys : List CallV} {i : Nat} {x y : CallV} (hx : xs[i]? = some x) (hy : ys[i]? = some y) (he : ¬ x = y) : ¬ xs = ys := fun e => by
  rw [e, hy] at hx
  exact he (Option.some.inj hx).symm
def tab_seqC : Wk.Tab := []
theorem p_seqC {ops : Array Oper} {rest : List Oper} {o : Oper} {w0 : World} {Q : Exit → Act → World → Prop} {S : List Nat} {R : List Res} {K K' : Wk.Env} {N : Nat} (h : Wk.stp tab_seqC N ops K o = some K') (n : Wk.Wk N S w0 K' R (wpList Try.prog ops Q rest)) : Wk.Wk N S w0 K R (wpList Try.prog ops Q (o :: rest)) := Wk.wP (T := tab_seqC) (by kernel_rfl) h n
set_option maxRecDepth 20000 in
theorem seqC_r6 (c : Nat) (xs : List CallV) (c2 : Nat) (ys : List CallV) (hx1 : xs.length ≤ 1000000) (hy1 : ys.length ≤ 1000000) (hlen : xs.length = ys.length) (i : Nat) (hi : i ≤ xs.length) (z2d : i < xs.length) (ya : Addr) (x : CallV) (HRx : Hid ((xs.map callRow)[i]? = some [.int .i64 x.id, .int .i64 x.kind, .int .i64 x.src, .int .i64 x.dst, .int .i64 x.car, .int .i64 x.state, .int .i64 x.owner, .int .i64 x.born])) (yb : Addr) (y : CallV) (HRy : Hid ((ys.map callRow)[i]? = some [.int .i64 y.id, .int .i64 y.kind, .int .i64 y.src, .int .i64 y.dst, .int .i64 y.car, .int .i64 y.state, .int .i64 y.owner, .int .i64 y.born])) {wa wb : World} (H : Hid (Hp [] wa wb [rS (some yb) c2 8 (ys.map callRow), rS (some ya) c 8 (xs.map callRow)])) (ac0 : Act) (hz : ac0.tmps.size = 26) (so0 : ac0.eval (.tmp 0) = .slice (some ya) xs.length c) (so1 : ac0.eval (.tmp 1) = .slice (some yb) ys.length c2) (so5 : ac0.eval (.tmp 5) = .int .i64 i) {QR : Exit → Act → World → Prop} (hfin : ∀ (ac1 : Act) (wz : World), ac1.tmps.size = 26 → ac1.defers = ac0.defers → (∀ t, ([16, 17, 18, 19, 20, 21, 22, 23, 24] : List Nat).contains t = false → ac1.eval (.tmp t) = ac0.eval (.tmp t)) → ac1.eval (.tmp 24) = .bool (!(decide (x = y))) →  Hid (Hp [] wa wz [rS (some yb) c2 8 (ys.map callRow), rS (some ya) c 8 (xs.map callRow)]) → QR .normal ac1 wz) : (regAt Try.f58 6).wp Try.prog QR ac0 wb := by
  refine wp_region_st mixedP ⟨[0, 0, 1, 2, 0, 0, 1, 2, 3], by kernel_rfl⟩ [[], [], [0, 1], [0, 1, 2], [], [], [4, 5], [4, 5, 6], [0, 1, 2, 3, 4, 5, 6, 7]] (by kernel_rfl) (by kernel_rfl) 26 hz (by kernel_rfl) (fun (xx : Unit) jx => nth [.slice (some ya) xs.length c, .int .i64 i, .pointer (some (ya.add (i * 8))), .agg #[.int .i64 x.id, .int .i64 x.kind, .int .i64 x.src, .int .i64 x.dst, .int .i64 x.car, .int .i64 x.state, .int .i64 x.owner, .int .i64 x.born], .slice (some yb) ys.length c2, .int .i64 i, .pointer (some (yb.add (i * 8))), .agg #[.int .i64 y.id, .int .i64 y.kind, .int .i64 y.src, .int .i64 y.dst, .int .i64 y.car, .int .i64 y.state, .int .i64 y.owner, .int .i64 y.born], .bool (!(decide (x = y)))] jx) (fun (LL : Nat → Bool) (xx : Unit) ww => Hp [] wa ww [rS (some yb) c2 8 (ys.map callRow), rS (some ya) c 8 (xs.map callRow)]) () H.out.drew ?_ (steps_al ?_) ?_ ?_
  · exact fun _ _ _ _ _ h => h
  · refine al_cons ?_ (al_cons ?_ (al_cons ?_ (al_cons ?_ (al_cons ?_ (al_cons ?_ (al_cons ?_ (al_cons ?_ (al_cons ?_ (al_nil)))))))))
    · intro LL xx ac wc sg hst hwant QQ hgo
      exact op_val hwant hgo hst _ (exec_move rfl ((sg.free 0 (by kernel_rfl)).trans so0)) rfl
    · intro LL xx ac wc sg hst hwant QQ hgo
      exact op_val hwant hgo hst _ (exec_move rfl ((sg.free 5 (by kernel_rfl)).trans so5)) rfl
    · intro LL xx ac wc sg hst hwant QQ hgo
      have se16 : ac.eval (.tmp 16) = _ := (sg.slot 0 (sg.anc 0 rfl))
      have sg16 := gt_of se16
      have se17 : ac.eval (.tmp 17) = _ := (sg.slot 1 (sg.anc 1 rfl))
      have sg17 := gt_of se17
      (try simp only [nth] at se16 sg16 se17 sg17)
      exact op_val hwant hgo hst _ (by simp only [execOp, nth]; go_simp <;> omega) rfl
    · intro LL xx ac wc sg hst hwant QQ hgo
      have H := Lib.hid hst
      refine hpS_load tyapi_Call H (y := ya) rfl (sg.slot 2 (sg.anc 2 rfl)) hwant (by (repeat (first | exact List.Mem.head _ | apply List.Mem.tail))) HRx.out rfl ?_
      exact hgo _ () _ (fun _ _ => rfl) rfl hst
    · intro LL xx ac wc sg hst hwant QQ hgo
      exact op_val hwant hgo hst _ (exec_move rfl ((sg.free 1 (by kernel_rfl)).trans so1)) rfl
    · intro LL xx ac wc sg hst hwant QQ hgo
      exact op_val hwant hgo hst _ (exec_move rfl ((sg.free 5 (by kernel_rfl)).trans so5)) rfl
    · intro LL xx ac wc sg hst hwant QQ hgo
      have se20 : ac.eval (.tmp 20) = _ := (sg.slot 4 (sg.anc 4 rfl))
      have sg20 := gt_of se20
      have se21 : ac.eval (.tmp 21) = _ := (sg.slot 5 (sg.anc 5 rfl))
      have sg21 := gt_of se21
      (try simp only [nth] at se20 sg20 se21 sg21)
      exact op_val hwant hgo hst _ (by simp only [execOp, nth]; go_simp <;> omega) rfl
    · intro LL xx ac wc sg hst hwant QQ hgo
      have H := Lib.hid hst
      refine hpS_load tyapi_Call H (y := yb) rfl (sg.slot 6 (sg.anc 6 rfl)) hwant (by (repeat (first | exact List.Mem.head _ | apply List.Mem.tail))) HRy.out rfl ?_
      exact hgo _ () _ (fun _ _ => rfl) rfl hst
    · intro LL xx ac wc sg hst hwant QQ hgo
      exact op_val hwant hgo hst (.bool (!(decide (x = y)))) (exec_neq rfl (sg.slot 3 (sg.anc 3 rfl)) (sg.slot 7 (sg.anc 7 rfl)) (by kernel_rfl) (run_eq_call x y wc)) rfl
  · exact skips [] (by kernel_rfl) (fun _ h => by cases h)
  · intro xx ac1 wz hfr hsl hst
    exact hfin ac1 wz (hfr.size.trans hz) hfr.defers (fr_keep hfr [16, 17, 18, 19, 20, 21, 22, 23, 24] (by kernel_rfl)) (hsl 8 (by decide)) (Lib.hid hst)
set_option maxHeartbeats 16000000 in
set_option maxRecDepth 20000 in
theorem seqC (a : Option Addr) (c : Nat) (xs : List CallV) (a2 : Option Addr) (c2 : Nat) (ys : List CallV) (w : World) (h1 : (rS a c 8 (xs.map callRow)).holds w) (h2 : (rS a2 c2 8 (ys.map callRow)).holds w) (hx1 : xs.length ≤ 1000000) (hy1 : ys.length ≤ 1000000) : Calls Try.prog 58 #[.slice a xs.length c, .slice a2 ys.length c2] w fun e w' => e = .returned (.bool (decide (xs = ys))) ∧ Off [] w w' := by
 have H := Lib.hid (Hp.start [] w)
 have H := hp_old H h1 (by decide)
 have H := hp_old H h2 (by decide)
 clear h1 h2
 refine wStart (args := [.slice a xs.length c, .slice a2 ys.length c2]) Try.func58 rfl rfl rfl H ?_
 clear H
 show Wk 26 _ _ [(0, .slice a xs.length c), (1, .slice a2 ys.length c2)] _ _
 refine wSeqK fun KK1 hK1 => ?_
 refine wReg ?_
 refine p_seqC rfl ?_
 refine wN ?_
 refine tN (wKK hK1 ?_)
 refine wSeqK fun KK2 hK2 => ?_
 refine wSeqK fun KK3 hK3 => ?_
 refine wReg ?_
 refine p_seqC rfl ?_
 refine wE (.int .i64 xs.length) rfl rfl rfl (fun aa ww hs _ => by have e6 := hs 6 _ rfl; have g6 := gt_of e6; simp only [execOp]; go_simp <;> omega) ?_
 refine p_seqC rfl ?_
 refine wE (.int .i64 ys.length) rfl rfl rfl (fun aa ww hs _ => by have e8 := hs 8 _ rfl; have g8 := gt_of e8; simp only [execOp]; go_simp <;> omega) ?_
 refine p_seqC rfl ?_
 refine wN ?_
 refine tN (wKK hK3 ?_)
 refine wCond (E := (xs.length : Int) != (ys.length : Int)) rfl (fun z1 => ?_) (fun z1 => ?_)
 · skip
   have z1o : ((xs.length : Int) == (ys.length : Int)) = false := neq_t z1
   refine wSeqK fun KK4 hK4 => ?_
   refine wReg ?_
   refine p_seqC rfl ?_
   refine wN ?_
   refine tN (wKK hK4 ?_)
   refine wRet ?_
   refine tR ?_
   exact wR1 rfl rfl (fun ww H => ⟨congrArg (fun z => Ending.returned (.bool z)) (decide_eq_false (fun e => by have := z1; rw [e] at this; simp at this)).symm, H.out.off⟩)
 · skip
   have z1o : ((xs.length : Int) == (ys.length : Int)) = true := neq_f z1
   intro aa ww nn dd hs H
   have hlen : xs.length = ys.length := by have := z1; simp at this; omega
   refine wIn nn dd hs H ?_
   refine wSk ?_
   refine tN (wKK hK2 ?_)
   refine wSeqK fun KK5 hK5 => ?_
   refine wSeqK fun KK6 hK6 => ?_
   refine wReg ?_
   refine p_seqC rfl ?_
   refine wE (.int .i64 xs.length) rfl rfl rfl (fun aa ww hs _ => by have e11 := hs 11 _ rfl; have g11 := gt_of e11; simp only [execOp]; go_simp <;> omega) ?_
   refine p_seqC rfl ?_
   refine wN ?_
   refine tN (wKK hK6 ?_)
   refine wBlk ?_
   refine wLoop (fun ab wv => ∃ i : Nat, i ≤ xs.length ∧ Hid (∀ k, k < i → xs[k]? = ys[k]?) ∧ ab.tmps.size = 26 ∧ ab.defers = [] ∧ Sat [(0, .slice a xs.length c), (1, .slice a2 ys.length c2), (10, .bool ((xs.length : Int) != (ys.length : Int))), (12, .int .i64 xs.length), (13, .int .i64 i)] ab ∧ Hid (Hp [] w wv [rS a2 c2 8 (ys.map callRow), rS a c 8 (xs.map callRow)])) (fun ab _ => xs.length - (intOf (ab.eval (.tmp 13))).toNat) (fun aa ww nn dd hs H => ⟨0, (Nat.zero_le _), (Lib.hid (fun k hk => absurd hk (by omega))), nn, dd, (sat_sub ⟨rfl, rfl, rfl, rfl, rfl, trivial⟩ hs), H⟩) ?_
   rintro a1 wv ⟨i, hi, hf, nn, dd, hs, H⟩
   have mu1_13 := hs 13 _ rfl
   refine wIn nn dd hs H ?_
   clear nn dd hs H
   refine wSeqK fun KK7 hK7 => ?_
   refine wReg ?_
   refine p_seqC rfl ?_
   refine wB (c := decide (i < xs.length)) 14 rfl (by simp) ?_
   refine wN ?_
   refine tN (wKK hK7 ?_)
   refine wSeqK fun KK8 hK8 => ?_
   refine wCond (E := decide (i < xs.length)) rfl (fun z2 => ?_) (fun z2 => ?_)
   · skip
     have z2d : i < xs.length := of_decide_eq_true z2
     intro aa ww nn dd hs H
     obtain ⟨ya, rfl⟩ := some_of_row (hp_held H (show rS a c 8 (xs.map callRow) ∈ _ by simp)) (i := i) (by simp; omega)
     obtain ⟨x, hx⟩ : ∃ x, xs[i]? = some x := ⟨xs[i], List.getElem?_eq_getElem (by omega)⟩
     have HRx := Lib.hid (show (xs.map callRow)[i]? = some [.int .i64 x.id, .int .i64 x.kind, .int .i64 x.src, .int .i64 x.dst, .int .i64 x.car, .int .i64 x.state, .int .i64 x.owner, .int .i64 x.born] by rw [List.getElem?_map, hx]; rfl)
     have HXx := Lib.hid hx
     clear hx
     obtain ⟨yb, rfl⟩ := some_of_row (hp_held H (show rS a2 c2 8 (ys.map callRow) ∈ _ by simp)) (i := i) (by simp; omega)
     obtain ⟨y, hy⟩ : ∃ y, ys[i]? = some y := ⟨ys[i], List.getElem?_eq_getElem (by omega)⟩
     have HRy := Lib.hid (show (ys.map callRow)[i]? = some [.int .i64 y.id, .int .i64 y.kind, .int .i64 y.src, .int .i64 y.dst, .int .i64 y.car, .int .i64 y.state, .int .i64 y.owner, .int .i64 y.born] by rw [List.getElem?_map, hy]; rfl)
     have HXy := Lib.hid hy
     clear hy
     refine wIn nn dd hs H ?_
     refine wSk ?_
     refine tN (wKK hK8 ?_)
     refine wSeqK fun KK9 hK9 => ?_
     refine wBlk ?_
     refine wSeqK fun KK10 hK10 => ?_
     refine wReg ?_
     iterate 2 refine p_seqC rfl ?_
     refine wN ?_
     refine tN (wKK hK10 ?_)
     refine wSeqK fun KK11 hK11 => ?_
     intro aa ww nn dd hs H
     refine seqC_r6 c xs c2 ys hx1 hy1 hlen i hi z2d ya x HRx yb y HRy H aa nn (hs 0 _ rfl) (hs 1 _ rfl) (hs 5 _ rfl) ?_
     intro ab wv nn2 dd2 kp o24 H2
     refine wIn nn2 (dd2.trans dd) (Sat.cons (Sat.cons (Sat.cons (Sat.cons (Sat.cons (Sat.cons (Sat.cons (Sat.cons (sat_nil ab) ((kp 14 rfl).trans (hs 14 _ rfl))) ((kp 13 rfl).trans (hs 13 _ rfl))) ((kp 12 rfl).trans (hs 12 _ rfl))) ((kp 10 rfl).trans (hs 10 _ rfl))) ((kp 5 rfl).trans (hs 5 _ rfl))) ((kp 1 rfl).trans (hs 1 _ rfl))) ((kp 0 rfl).trans (hs 0 _ rfl))) o24) H2 ?_
     clear hs H kp H2 dd dd2 nn nn2 o24
     refine tN (wKK hK11 ?_)
     refine wCond (E := !(decide (x = y))) rfl (fun z3 => ?_) (fun z3 => ?_)
     · skip
       have z3n : (decide (x = y)) = false := Reg.bn z3
       refine wSeqK fun KK12 hK12 => ?_
       refine wReg ?_
       refine p_seqC rfl ?_
       refine wN ?_
       refine tN (wKK hK12 ?_)
       refine wRet ?_
       refine bR (tR (tR (bR (tR ?_))))
       exact wR1 rfl rfl (fun ww H => ⟨congrArg (fun z => Ending.returned (.bool z)) (decide_eq_false (eq_not HXx.out HXy.out (of_decide_eq_false z3n))).symm, H.out.off⟩)
     · skip
       have z3n : (decide (x = y)) = true := Reg.bt z3
       refine wSk ?_
       refine bN (tN (wKK hK9 ?_))
       refine wReg ?_
       refine p_seqC rfl ?_
       refine wI 25 rfl (IntWalk.i64_in _ (by omega)) ?_
       refine p_seqC rfl ?_
       refine wN ?_
       refine tN ?_
       intro aa ww nn dd hs H
       refine ⟨⟨i + 1, (by omega), (Lib.hid (eq_next hf.out HXx.out HXy.out (of_decide_eq_true z3n))), nn, dd, (sat_sub ⟨rfl, rfl, rfl, rfl, rfl, trivial⟩ hs), (Lib.hid (H.out.sub (by repeat (first | exact List.Sublist.refl _ | apply List.Sublist.cons₂ | apply List.Sublist.cons))))⟩, ?_⟩
       have m13 := hs 13 _ rfl
       simp only [mu1_13, m13, intOf]
       omega
   · skip
     have z2d : ¬ (i < xs.length) := of_decide_eq_false z2
     refine wEx ?_
     refine tX (tX (bX (tN (wKK hK5 ?_))))
     refine wSeqK fun KK13 hK13 => ?_
     refine wReg ?_
     refine p_seqC rfl ?_
     refine wN ?_
     refine tN (wKK hK13 ?_)
     refine wRet ?_
     exact wR1 rfl rfl (fun ww H => ⟨congrArg (fun z => Ending.returned (.bool z)) (decide_eq_true (eq_all hlen (fun k hk => hf.out k (by omega)))).symm, H.out.off⟩)
def tab_eqlC : Wk.Tab := []
theorem p_eqlC {ops : Array Oper} {rest : List Oper} {o : Oper} {w0 : World} {Q : Exit → Act → World → Prop} {S : List Nat} {R : List Res} {K K' : Wk.Env} {N : Nat} (h : Wk.stp tab_eqlC N ops K o = some K') (n : Wk.Wk N S w0 K' R (wpList Try.prog ops Q rest)) : Wk.Wk N S w0 K R (wpList Try.prog ops Q (o :: rest)) := Wk.wP (T := tab_eqlC) (by kernel_rfl) h n
set_option maxHeartbeats 4000000 in
set_option maxRecDepth 20000 in
theorem eqlC_r1 (v : AnsV) (sa : Option Addr) (sc : Nat) (u : AnsV) (ua : Option Addr) (uc : Nat) (hv1 : v.calls.length ≤ 1000000) (hu1 : u.calls.length ≤ 1000000) (b2 : Nat) (b3 : Nat) {wa wb : World} (H : Hid (Hp [] wa wb [rB b3 64 [.int .i64 u.seq, .int .i64 u.code, .int .i64 u.index, .int .i64 u.session, .int .u32 u.pass, .slice ua u.calls.length uc], rB b2 64 [.int .i64 v.seq, .int .i64 v.code, .int .i64 v.index, .int .i64 v.session, .int .u32 v.pass, .slice sa v.calls.length sc], rS ua uc 8 (u.calls.map callRow), rS sa sc 8 (v.calls.map callRow)])) (ac0 : Act) (hz : ac0.tmps.size = 45) (so2 : ac0.eval (.tmp 2) = .pointer (some ⟨b2, 0, none⟩)) (so3 : ac0.eval (.tmp 3) = .pointer (some ⟨b3, 0, none⟩)) {QR : Exit → Act → World → Prop} (hfin : ∀ (ac1 : Act) (wz : World), ac1.tmps.size = 45 → ac1.defers = ac0.defers → (∀ t, ([4, 5, 6, 7, 8, 9, 10, 11, 12, 13, 14, 15, 16, 17, 18, 19, 20, 21, 22, 23, 24, 25, 26, 27, 28, 29, 30, 31, 32, 33, 34, 35, 36, 37, 38, 39, 40, 41, 42, 43, 44] : List Nat).contains t = false → ac1.eval (.tmp t) = ac0.eval (.tmp t)) → ac1.eval (.tmp 4) = .bool ((((((v.seq == u.seq) && (v.code == u.code)) && (v.index == u.index)) && (v.session == u.session)) && (v.pass == u.pass)) && (decide (v.calls = u.calls))) →  Hid (Hp [] wa wz [rB b3 64 [.int .i64 u.seq, .int .i64 u.code, .int .i64 u.index, .int .i64 u.session, .int .u32 u.pass, .slice ua u.calls.length uc], rB b2 64 [.int .i64 v.seq, .int .i64 v.code, .int .i64 v.index, .int .i64 v.session, .int .u32 v.pass, .slice sa v.calls.length sc], rS ua uc 8 (u.calls.map callRow), rS sa sc 8 (v.calls.map callRow)]) → QR .normal ac1 wz) : (regAt Try.f35 1).wp Try.prog QR ac0 wb := by
  refine wp_region_sq (by kernel_rfl) 45 hz (by kernel_rfl) (fun (xx : Unit) jx => nth [.pointer (some ⟨b2, 0, none⟩), .int .i64 v.seq, .pointer (some ⟨b3, 0, none⟩), .int .i64 u.seq, .bool (v.seq == u.seq), .bool (v.seq == u.seq), bif (v.seq == u.seq) then .pointer (some ⟨b2, 1, none⟩) else undef, bif (v.seq == u.seq) then .int .i64 v.code else undef, bif (v.seq == u.seq) then .pointer (some ⟨b3, 1, none⟩) else undef, bif (v.seq == u.seq) then .int .i64 u.code else undef, bif (v.seq == u.seq) then .bool (v.code == u.code) else undef, .bool ((v.seq == u.seq) && (v.code == u.code)), .bool ((v.seq == u.seq) && (v.code == u.code)), bif ((v.seq == u.seq) && (v.code == u.code)) then .pointer (some ⟨b2, 2, none⟩) else undef, bif ((v.seq == u.seq) && (v.code == u.code)) then .int .i64 v.index else undef, bif ((v.seq == u.seq) && (v.code == u.code)) then .pointer (some ⟨b3, 2, none⟩) else undef, bif ((v.seq == u.seq) && (v.code == u.code)) then .int .i64 u.index else undef, bif ((v.seq == u.seq) && (v.code == u.code)) then .bool (v.index == u.index) else undef, .bool (((v.seq == u.seq) && (v.code == u.code)) && (v.index == u.index)), .bool (((v.seq == u.seq) && (v.code == u.code)) && (v.index == u.index)), bif (((v.seq == u.seq) && (v.code == u.code)) && (v.index == u.index)) then .pointer (some ⟨b2, 3, none⟩) else undef, bif (((v.seq == u.seq) && (v.code == u.code)) && (v.index == u.index)) then .int .i64 v.session else undef, bif (((v.seq == u.seq) && (v.code == u.code)) && (v.index == u.index)) then .pointer (some ⟨b3, 3, none⟩) else undef, bif (((v.seq == u.seq) && (v.code == u.code)) && (v.index == u.index)) then .int .i64 u.session else undef, bif (((v.seq == u.seq) && (v.code == u.code)) && (v.index == u.index)) then .bool (v.session == u.session) else undef, .bool ((((v.seq == u.seq) && (v.code == u.code)) && (v.index == u.index)) && (v.session == u.session)), .bool ((((v.seq == u.seq) && (v.code == u.code)) && (v.index == u.index)) && (v.session == u.session)), bif ((((v.seq == u.seq) && (v.code == u.code)) && (v.index == u.index)) && (v.session == u.session)) then .pointer (some ⟨b2, 4, none⟩) else undef, bif ((((v.seq == u.seq) && (v.code == u.code)) && (v.index == u.index)) && (v.session == u.session)) then .int .u32 v.pass else undef, bif ((((v.seq == u.seq) && (v.code == u.code)) && (v.index == u.index)) && (v.session == u.session)) then .pointer (some ⟨b3, 4, none⟩) else undef, bif ((((v.seq == u.seq) && (v.code == u.code)) && (v.index == u.index)) && (v.session == u.session)) then .int .u32 u.pass else undef, bif ((((v.seq == u.seq) && (v.code == u.code)) && (v.index == u.index)) && (v.session == u.session)) then .bool (v.pass == u.pass) else undef, .bool (((((v.seq == u.seq) && (v.code == u.code)) && (v.index == u.index)) && (v.session == u.session)) && (v.pass == u.pass)), .bool (((((v.seq == u.seq) && (v.code == u.code)) && (v.index == u.index)) && (v.session == u.session)) && (v.pass == u.pass)), bif (((((v.seq == u.seq) && (v.code == u.code)) && (v.index == u.index)) && (v.session == u.session)) && (v.pass == u.pass)) then .pointer (some ⟨b2, 5, none⟩) else undef, bif (((((v.seq == u.seq) && (v.code == u.code)) && (v.index == u.index)) && (v.session == u.session)) && (v.pass == u.pass)) then .slice sa v.calls.length sc else undef, bif (((((v.seq == u.seq) && (v.code == u.code)) && (v.index == u.index)) && (v.session == u.session)) && (v.pass == u.pass)) then .pointer (some ⟨b3, 5, none⟩) else undef, bif (((((v.seq == u.seq) && (v.code == u.code)) && (v.index == u.index)) && (v.session == u.session)) && (v.pass == u.pass)) then .slice ua u.calls.length uc else undef, bif (((((v.seq == u.seq) && (v.code == u.code)) && (v.index == u.index)) && (v.session == u.session)) && (v.pass == u.pass)) then .bool (decide (v.calls = u.calls)) else undef, .bool ((((((v.seq == u.seq) && (v.code == u.code)) && (v.index == u.index)) && (v.session == u.session)) && (v.pass == u.pass)) && (decide (v.calls = u.calls))), .bool ((((((v.seq == u.seq) && (v.code == u.code)) && (v.index == u.index)) && (v.session == u.session)) && (v.pass == u.pass)) && (decide (v.calls = u.calls)))] jx) (fun (LL : Nat → Bool) (xx : Unit) ww => Hp [] wa ww [rB b3 64 [.int .i64 u.seq, .int .i64 u.code, .int .i64 u.index, .int .i64 u.session, .int .u32 u.pass, .slice ua u.calls.length uc], rB b2 64 [.int .i64 v.seq, .int .i64 v.code, .int .i64 v.index, .int .i64 v.session, .int .u32 v.pass, .slice sa v.calls.length sc], rS ua uc 8 (u.calls.map callRow), rS sa sc 8 (v.calls.map callRow)]) () H.out ?_ (steps_al ?_) ?_ ?_
  · exact fun _ _ _ _ _ h => h
  · refine al_cons ?_ (al_cons ?_ (al_cons ?_ (al_cons ?_ (al_cons ?_ (al_cons ?_ (al_cons ?_ (al_cons ?_ (al_cons ?_ (al_cons ?_ (al_cons ?_ (al_cons ?_ (al_cons ?_ (al_cons ?_ (al_cons ?_ (al_cons ?_ (al_cons ?_ (al_cons ?_ (al_cons ?_ (al_cons ?_ (al_cons ?_ (al_cons ?_ (al_cons ?_ (al_cons ?_ (al_cons ?_ (al_cons ?_ (al_cons ?_ (al_cons ?_ (al_cons ?_ (al_cons ?_ (al_cons ?_ (al_cons ?_ (al_cons ?_ (al_cons ?_ (al_cons ?_ (al_cons ?_ (al_cons ?_ (al_cons ?_ (al_cons ?_ (al_cons ?_ (al_cons ?_ (al_nil)))))))))))))))))))))))))))))))))))))))))
    · intro LL xx ac wc sg hst hwant QQ hgo
      have se2 : ac.eval (.tmp 2) = _ := ((sg.free 2 (by kernel_rfl)).trans so2)
      have sg2 := gt_of se2
      exact op_val hwant hgo hst _ (by simp only [execOp, nth]; go_simp <;> omega) rfl
    · intro LL xx ac wc sg hst hwant QQ hgo
      have H := Lib.hid hst
      refine hpA_load1 tyint H rfl (sg.slot 0 (sg.anc 0 rfl)) hwant (by (repeat (first | exact List.Mem.head _ | apply List.Mem.tail))) (by rfl) ?_
      exact hgo _ () _ (fun _ _ => rfl) rfl hst
    · intro LL xx ac wc sg hst hwant QQ hgo
      have se3 : ac.eval (.tmp 3) = _ := ((sg.free 3 (by kernel_rfl)).trans so3)
      have sg3 := gt_of se3
      exact op_val hwant hgo hst _ (by simp only [execOp, nth]; go_simp <;> omega) rfl
    · intro LL xx ac wc sg hst hwant QQ hgo
      have H := Lib.hid hst
      refine hpA_load1 tyint H rfl (sg.slot 2 (sg.anc 2 rfl)) hwant (by (repeat (first | exact List.Mem.head _ | apply List.Mem.tail))) (by rfl) ?_
      exact hgo _ () _ (fun _ _ => rfl) rfl hst
    · intro LL xx ac wc sg hst hwant QQ hgo
      have se6 : ac.eval (.tmp 6) = _ := (sg.slot 1 (sg.anc 1 rfl))
      have sg6 := gt_of se6
      have se8 : ac.eval (.tmp 8) = _ := (sg.slot 3 (sg.anc 3 rfl))
      have sg8 := gt_of se8
      (try simp only [nth] at se6 sg6 se8 sg8)
      exact op_val hwant hgo hst _ (by simp only [execOp, nth]; go_simp <;> omega) rfl
    · intro LL xx ac wc sg hst hwant QQ hgo
      exact op_val hwant hgo hst _ (exec_move rfl (sg.slot 4 (sg.anc 4 rfl))) rfl
    · intro LL xx ac wc sg hst hwant QQ hgo
      have hG : (v.seq == u.seq) = true := (want_t rfl rfl (sg.slot 5 (sg.anc 5 rfl))).symm.trans hwant
      have se2 : ac.eval (.tmp 2) = _ := ((sg.free 2 (by kernel_rfl)).trans so2)
      have sg2 := gt_of se2
      exact op_val hwant hgo hst _ (by simp only [execOp, nth]; go_simp <;> omega) (cI hG)
    · intro LL xx ac wc sg hst hwant QQ hgo
      have hG : (v.seq == u.seq) = true := (want_t rfl rfl (sg.slot 5 (sg.anc 5 rfl))).symm.trans hwant
      have H := Lib.hid hst
      refine hpA_load1 tyint H rfl (cT (sg.slot 6 (sg.anc 6 rfl)) hG) hwant (by (repeat (first | exact List.Mem.head _ | apply List.Mem.tail))) (by rfl) ?_
      exact hgo _ () _ (fun _ _ => rfl) (cI hG) hst
    · intro LL xx ac wc sg hst hwant QQ hgo
      have hG : (v.seq == u.seq) = true := (want_t rfl rfl (sg.slot 5 (sg.anc 5 rfl))).symm.trans hwant
      have se3 : ac.eval (.tmp 3) = _ := ((sg.free 3 (by kernel_rfl)).trans so3)
      have sg3 := gt_of se3
      exact op_val hwant hgo hst _ (by simp only [execOp, nth]; go_simp <;> omega) (cI hG)
    · intro LL xx ac wc sg hst hwant QQ hgo
      have hG : (v.seq == u.seq) = true := (want_t rfl rfl (sg.slot 5 (sg.anc 5 rfl))).symm.trans hwant
      have H := Lib.hid hst
      refine hpA_load1 tyint H rfl (cT (sg.slot 8 (sg.anc 8 rfl)) hG) hwant (by (repeat (first | exact List.Mem.head _ | apply List.Mem.tail))) (by rfl) ?_
      exact hgo _ () _ (fun _ _ => rfl) (cI hG) hst
    · intro LL xx ac wc sg hst hwant QQ hgo
      have hG : (v.seq == u.seq) = true := (want_t rfl rfl (sg.slot 5 (sg.anc 5 rfl))).symm.trans hwant
      have se12 : ac.eval (.tmp 12) = _ := (cT (sg.slot 7 (sg.anc 7 rfl)) hG)
      have sg12 := gt_of se12
      have se14 : ac.eval (.tmp 14) = _ := (cT (sg.slot 9 (sg.anc 9 rfl)) hG)
      have sg14 := gt_of se14
      (try simp only [nth] at se12 sg12 se14 sg14)
      exact op_val hwant hgo hst _ (by simp only [execOp, nth]; go_simp <;> omega) (cI hG)
    · intro LL xx ac wc sg hst hwant QQ hgo
      exact op_val hwant hgo hst (.bool ((v.seq == u.seq) && (v.code == u.code))) (exec_and (Y := v.code == u.code) rfl (sg.slot 5 (sg.anc 5 rfl)) (fun qq => cT (sg.slot 10 (sg.anc 10 rfl)) qq)) rfl
    · intro LL xx ac wc sg hst hwant QQ hgo
      exact op_val hwant hgo hst _ (exec_move rfl (sg.slot 11 (sg.anc 11 rfl))) rfl
    · intro LL xx ac wc sg hst hwant QQ hgo
      have hG : ((v.seq == u.seq) && (v.code == u.code)) = true := (want_t rfl rfl (sg.slot 12 (sg.anc 12 rfl))).symm.trans hwant
      have se2 : ac.eval (.tmp 2) = _ := ((sg.free 2 (by kernel_rfl)).trans so2)
      have sg2 := gt_of se2
      exact op_val hwant hgo hst _ (by simp only [execOp, nth]; go_simp <;> omega) (cI hG)
    · intro LL xx ac wc sg hst hwant QQ hgo
      have hG : ((v.seq == u.seq) && (v.code == u.code)) = true := (want_t rfl rfl (sg.slot 12 (sg.anc 12 rfl))).symm.trans hwant
      have H := Lib.hid hst
      refine hpA_load1 tyint H rfl (cT (sg.slot 13 (sg.anc 13 rfl)) hG) hwant (by (repeat (first | exact List.Mem.head _ | apply List.Mem.tail))) (by rfl) ?_
      exact hgo _ () _ (fun _ _ => rfl) (cI hG) hst
    · intro LL xx ac wc sg hst hwant QQ hgo
      have hG : ((v.seq == u.seq) && (v.code == u.code)) = true := (want_t rfl rfl (sg.slot 12 (sg.anc 12 rfl))).symm.trans hwant
      have se3 : ac.eval (.tmp 3) = _ := ((sg.free 3 (by kernel_rfl)).trans so3)
      have sg3 := gt_of se3
      exact op_val hwant hgo hst _ (by simp only [execOp, nth]; go_simp <;> omega) (cI hG)
    · intro LL xx ac wc sg hst hwant QQ hgo
      have hG : ((v.seq == u.seq) && (v.code == u.code)) = true := (want_t rfl rfl (sg.slot 12 (sg.anc 12 rfl))).symm.trans hwant
      have H := Lib.hid hst
      refine hpA_load1 tyint H rfl (cT (sg.slot 15 (sg.anc 15 rfl)) hG) hwant (by (repeat (first | exact List.Mem.head _ | apply List.Mem.tail))) (by rfl) ?_
      exact hgo _ () _ (fun _ _ => rfl) (cI hG) hst
    · intro LL xx ac wc sg hst hwant QQ hgo
      have hG : ((v.seq == u.seq) && (v.code == u.code)) = true := (want_t rfl rfl (sg.slot 12 (sg.anc 12 rfl))).symm.trans hwant
      have se19 : ac.eval (.tmp 19) = _ := (cT (sg.slot 14 (sg.anc 14 rfl)) hG)
      have sg19 := gt_of se19
      have se21 : ac.eval (.tmp 21) = _ := (cT (sg.slot 16 (sg.anc 16 rfl)) hG)
      have sg21 := gt_of se21
      (try simp only [nth] at se19 sg19 se21 sg21)
      exact op_val hwant hgo hst _ (by simp only [execOp, nth]; go_simp <;> omega) (cI hG)
    · intro LL xx ac wc sg hst hwant QQ hgo
      exact op_val hwant hgo hst (.bool (((v.seq == u.seq) && (v.code == u.code)) && (v.index == u.index))) (exec_and (Y := v.index == u.index) rfl (sg.slot 12 (sg.anc 12 rfl)) (fun qq => cT (sg.slot 17 (sg.anc 17 rfl)) qq)) rfl
    · intro LL xx ac wc sg hst hwant QQ hgo
      exact op_val hwant hgo hst _ (exec_move rfl (sg.slot 18 (sg.anc 18 rfl))) rfl
    · intro LL xx ac wc sg hst hwant QQ hgo
      have hG : (((v.seq == u.seq) && (v.code == u.code)) && (v.index == u.index)) = true := (want_t rfl rfl (sg.slot 19 (sg.anc 19 rfl))).symm.trans hwant
      have se2 : ac.eval (.tmp 2) = _ := ((sg.free 2 (by kernel_rfl)).trans so2)
      have sg2 := gt_of se2
      exact op_val hwant hgo hst _ (by simp only [execOp, nth]; go_simp <;> omega) (cI hG)
    · intro LL xx ac wc sg hst hwant QQ hgo
      have hG : (((v.seq == u.seq) && (v.code == u.code)) && (v.index == u.index)) = true := (want_t rfl rfl (sg.slot 19 (sg.anc 19 rfl))).symm.trans hwant
      have H := Lib.hid hst
      refine hpA_load1 tyint H rfl (cT (sg.slot 20 (sg.anc 20 rfl)) hG) hwant (by (repeat (first | exact List.Mem.head _ | apply List.Mem.tail))) (by rfl) ?_
      exact hgo _ () _ (fun _ _ => rfl) (cI hG) hst
    · intro LL xx ac wc sg hst hwant QQ hgo
      have hG : (((v.seq == u.seq) && (v.code == u.code)) && (v.index == u.index)) = true := (want_t rfl rfl (sg.slot 19 (sg.anc 19 rfl))).symm.trans hwant
      have se3 : ac.eval (.tmp 3) = _ := ((sg.free 3 (by kernel_rfl)).trans so3)
      have sg3 := gt_of se3
      exact op_val hwant hgo hst _ (by simp only [execOp, nth]; go_simp <;> omega) (cI hG)
    · intro LL xx ac wc sg hst hwant QQ hgo
      have hG : (((v.seq == u.seq) && (v.code == u.code)) && (v.index == u.index)) = true := (want_t rfl rfl (sg.slot 19 (sg.anc 19 rfl))).symm.trans hwant
      have H := Lib.hid hst
      refine hpA_load1 tyint H rfl (cT (sg.slot 22 (sg.anc 22 rfl)) hG) hwant (by (repeat (first | exact List.Mem.head _ | apply List.Mem.tail))) (by rfl) ?_
      exact hgo _ () _ (fun _ _ => rfl) (cI hG) hst
    · intro LL xx ac wc sg hst hwant QQ hgo
      have hG : (((v.seq == u.seq) && (v.code == u.code)) && (v.index == u.index)) = true := (want_t rfl rfl (sg.slot 19 (sg.anc 19 rfl))).symm.trans hwant
      have se26 : ac.eval (.tmp 26) = _ := (cT (sg.slot 21 (sg.anc 21 rfl)) hG)
      have sg26 := gt_of se26
      have se28 : ac.eval (.tmp 28) = _ := (cT (sg.slot 23 (sg.anc 23 rfl)) hG)
      have sg28 := gt_of se28
      (try simp only [nth] at se26 sg26 se28 sg28)
      exact op_val hwant hgo hst _ (by simp only [execOp, nth]; go_simp <;> omega) (cI hG)
    · intro LL xx ac wc sg hst hwant QQ hgo
      exact op_val hwant hgo hst (.bool ((((v.seq == u.seq) && (v.code == u.code)) && (v.index == u.index)) && (v.session == u.session))) (exec_and (Y := v.session == u.session) rfl (sg.slot 19 (sg.anc 19 rfl)) (fun qq => cT (sg.slot 24 (sg.anc 24 rfl)) qq)) rfl
    · intro LL xx ac wc sg hst hwant QQ hgo
      exact op_val hwant hgo hst _ (exec_move rfl (sg.slot 25 (sg.anc 25 rfl))) rfl
    · intro LL xx ac wc sg hst hwant QQ hgo
      have hG : ((((v.seq == u.seq) && (v.code == u.code)) && (v.index == u.index)) && (v.session == u.session)) = true := (want_t rfl rfl (sg.slot 26 (sg.anc 26 rfl))).symm.trans hwant
      have se2 : ac.eval (.tmp 2) = _ := ((sg.free 2 (by kernel_rfl)).trans so2)
      have sg2 := gt_of se2
      exact op_val hwant hgo hst _ (by simp only [execOp, nth]; go_simp <;> omega) (cI hG)
    · intro LL xx ac wc sg hst hwant QQ hgo
      have hG : ((((v.seq == u.seq) && (v.code == u.code)) && (v.index == u.index)) && (v.session == u.session)) = true := (want_t rfl rfl (sg.slot 26 (sg.anc 26 rfl))).symm.trans hwant
      have H := Lib.hid hst
      refine hpA_load1 tyuint32 H rfl (cT (sg.slot 27 (sg.anc 27 rfl)) hG) hwant (by (repeat (first | exact List.Mem.head _ | apply List.Mem.tail))) (by rfl) ?_
      exact hgo _ () _ (fun _ _ => rfl) (cI hG) hst
    · intro LL xx ac wc sg hst hwant QQ hgo
      have hG : ((((v.seq == u.seq) && (v.code == u.code)) && (v.index == u.index)) && (v.session == u.session)) = true := (want_t rfl rfl (sg.slot 26 (sg.anc 26 rfl))).symm.trans hwant
      have se3 : ac.eval (.tmp 3) = _ := ((sg.free 3 (by kernel_rfl)).trans so3)
      have sg3 := gt_of se3
      exact op_val hwant hgo hst _ (by simp only [execOp, nth]; go_simp <;> omega) (cI hG)
    · intro LL xx ac wc sg hst hwant QQ hgo
      have hG : ((((v.seq == u.seq) && (v.code == u.code)) && (v.index == u.index)) && (v.session == u.session)) = true := (want_t rfl rfl (sg.slot 26 (sg.anc 26 rfl))).symm.trans hwant
      have H := Lib.hid hst
      refine hpA_load1 tyuint32 H rfl (cT (sg.slot 29 (sg.anc 29 rfl)) hG) hwant (by (repeat (first | exact List.Mem.head _ | apply List.Mem.tail))) (by rfl) ?_
      exact hgo _ () _ (fun _ _ => rfl) (cI hG) hst
    · intro LL xx ac wc sg hst hwant QQ hgo
      have hG : ((((v.seq == u.seq) && (v.code == u.code)) && (v.index == u.index)) && (v.session == u.session)) = true := (want_t rfl rfl (sg.slot 26 (sg.anc 26 rfl))).symm.trans hwant
      have se33 : ac.eval (.tmp 33) = _ := (cT (sg.slot 28 (sg.anc 28 rfl)) hG)
      have sg33 := gt_of se33
      have se35 : ac.eval (.tmp 35) = _ := (cT (sg.slot 30 (sg.anc 30 rfl)) hG)
      have sg35 := gt_of se35
      (try simp only [nth] at se33 sg33 se35 sg35)
      exact op_val hwant hgo hst _ (by simp only [execOp, nth]; go_simp <;> omega) (cI hG)
    · intro LL xx ac wc sg hst hwant QQ hgo
      exact op_val hwant hgo hst (.bool (((((v.seq == u.seq) && (v.code == u.code)) && (v.index == u.index)) && (v.session == u.session)) && (v.pass == u.pass))) (exec_and (Y := v.pass == u.pass) rfl (sg.slot 26 (sg.anc 26 rfl)) (fun qq => cT (sg.slot 31 (sg.anc 31 rfl)) qq)) rfl
    · intro LL xx ac wc sg hst hwant QQ hgo
      exact op_val hwant hgo hst _ (exec_move rfl (sg.slot 32 (sg.anc 32 rfl))) rfl
    · intro LL xx ac wc sg hst hwant QQ hgo
      have hG : (((((v.seq == u.seq) && (v.code == u.code)) && (v.index == u.index)) && (v.session == u.session)) && (v.pass == u.pass)) = true := (want_t rfl rfl (sg.slot 33 (sg.anc 33 rfl))).symm.trans hwant
      have se2 : ac.eval (.tmp 2) = _ := ((sg.free 2 (by kernel_rfl)).trans so2)
      have sg2 := gt_of se2
      exact op_val hwant hgo hst _ (by simp only [execOp, nth]; go_simp <;> omega) (cI hG)
    · intro LL xx ac wc sg hst hwant QQ hgo
      have hG : (((((v.seq == u.seq) && (v.code == u.code)) && (v.index == u.index)) && (v.session == u.session)) && (v.pass == u.pass)) = true := (want_t rfl rfl (sg.slot 33 (sg.anc 33 rfl))).symm.trans hwant
      have H := Lib.hid hst
      refine hpA_load1 tyS_api_Call H rfl (cT (sg.slot 34 (sg.anc 34 rfl)) hG) hwant (by (repeat (first | exact List.Mem.head _ | apply List.Mem.tail))) (by rfl) ?_
      exact hgo _ () _ (fun _ _ => rfl) (cI hG) hst
    · intro LL xx ac wc sg hst hwant QQ hgo
      have hG : (((((v.seq == u.seq) && (v.code == u.code)) && (v.index == u.index)) && (v.session == u.session)) && (v.pass == u.pass)) = true := (want_t rfl rfl (sg.slot 33 (sg.anc 33 rfl))).symm.trans hwant
      have se3 : ac.eval (.tmp 3) = _ := ((sg.free 3 (by kernel_rfl)).trans so3)
      have sg3 := gt_of se3
      exact op_val hwant hgo hst _ (by simp only [execOp, nth]; go_simp <;> omega) (cI hG)
    · intro LL xx ac wc sg hst hwant QQ hgo
      have hG : (((((v.seq == u.seq) && (v.code == u.code)) && (v.index == u.index)) && (v.session == u.session)) && (v.pass == u.pass)) = true := (want_t rfl rfl (sg.slot 33 (sg.anc 33 rfl))).symm.trans hwant
      have H := Lib.hid hst
      refine hpA_load1 tyS_api_Call H rfl (cT (sg.slot 36 (sg.anc 36 rfl)) hG) hwant (by (repeat (first | exact List.Mem.head _ | apply List.Mem.tail))) (by rfl) ?_
      exact hgo _ () _ (fun _ _ => rfl) (cI hG) hst
    · intro LL xx ac wc sg hst hwant QQ hgo
      have hG : (((((v.seq == u.seq) && (v.code == u.code)) && (v.index == u.index)) && (v.session == u.session)) && (v.pass == u.pass)) = true := (want_t rfl rfl (sg.slot 33 (sg.anc 33 rfl))).symm.trans hwant
      have se40 : ac.eval (.tmp 40) = _ := (cT (sg.slot 35 (sg.anc 35 rfl)) hG)
      have sg40 := gt_of se40
      have se42 : ac.eval (.tmp 42) = _ := (cT (sg.slot 37 (sg.anc 37 rfl)) hG)
      have sg42 := gt_of se42
      (try simp only [nth] at se40 sg40 se42 sg42)
      have H := Lib.hid hst
      refine op_call hwant hgo 58 #[.slice sa v.calls.length sc, .slice ua u.calls.length uc] (by simp only [execOp]; go_simp) (seqC sa sc v.calls ua uc u.calls wc (hp_held H (by (repeat (first | exact List.Mem.head _ | apply List.Mem.tail)))) (hp_held H (by (repeat (first | exact List.Mem.head _ | apply List.Mem.tail)))) hv1 hu1) ?_
      rintro er wd ⟨rfl, hof⟩
      exact ⟨_, (), rfl, fun _ _ => rfl, (cI hG), Hp.quiet hst hof⟩
    · intro LL xx ac wc sg hst hwant QQ hgo
      exact op_val hwant hgo hst (.bool ((((((v.seq == u.seq) && (v.code == u.code)) && (v.index == u.index)) && (v.session == u.session)) && (v.pass == u.pass)) && (decide (v.calls = u.calls)))) (exec_and (Y := decide (v.calls = u.calls)) rfl (sg.slot 33 (sg.anc 33 rfl)) (fun qq => cT (sg.slot 38 (sg.anc 38 rfl)) qq)) rfl
    · intro LL xx ac wc sg hst hwant QQ hgo
      exact op_val hwant hgo hst _ (exec_assign rfl (sg.slot 39 (sg.anc 39 rfl))) rfl
  · refine skips [6, 7, 8, 9, 10, 13, 14, 15, 16, 17, 20, 21, 22, 23, 24, 27, 28, 29, 30, 31, 34, 35, 36, 37, 38] (by kernel_rfl) ?_
    refine List.forall_mem_cons.2 ⟨?_, List.forall_mem_cons.2 ⟨?_, List.forall_mem_cons.2 ⟨?_, List.forall_mem_cons.2 ⟨?_, List.forall_mem_cons.2 ⟨?_, List.forall_mem_cons.2 ⟨?_, List.forall_mem_cons.2 ⟨?_, List.forall_mem_cons.2 ⟨?_, List.forall_mem_cons.2 ⟨?_, List.forall_mem_cons.2 ⟨?_, List.forall_mem_cons.2 ⟨?_, List.forall_mem_cons.2 ⟨?_, List.forall_mem_cons.2 ⟨?_, List.forall_mem_cons.2 ⟨?_, List.forall_mem_cons.2 ⟨?_, List.forall_mem_cons.2 ⟨?_, List.forall_mem_cons.2 ⟨?_, List.forall_mem_cons.2 ⟨?_, List.forall_mem_cons.2 ⟨?_, List.forall_mem_cons.2 ⟨?_, List.forall_mem_cons.2 ⟨?_, List.forall_mem_cons.2 ⟨?_, List.forall_mem_cons.2 ⟨?_, List.forall_mem_cons.2 ⟨?_, List.forall_mem_cons.2 ⟨?_, fun _ h => by cases h⟩⟩⟩⟩⟩⟩⟩⟩⟩⟩⟩⟩⟩⟩⟩⟩⟩⟩⟩⟩⟩⟩⟩⟩⟩
    · intro oo hop LL xx ac sg hwant
      cases Option.some.inj hop
      have hG : (v.seq == u.seq) = false := (want_t rfl rfl (sg.slot 5 (sg.anc 5 rfl))).symm.trans hwant
      exact ⟨cF hG, fun _ h => h⟩
    · intro oo hop LL xx ac sg hwant
      cases Option.some.inj hop
      have hG : (v.seq == u.seq) = false := (want_t rfl rfl (sg.slot 5 (sg.anc 5 rfl))).symm.trans hwant
      exact ⟨cF hG, fun _ h => h⟩
    · intro oo hop LL xx ac sg hwant
      cases Option.some.inj hop
      have hG : (v.seq == u.seq) = false := (want_t rfl rfl (sg.slot 5 (sg.anc 5 rfl))).symm.trans hwant
      exact ⟨cF hG, fun _ h => h⟩
    · intro oo hop LL xx ac sg hwant
      cases Option.some.inj hop
      have hG : (v.seq == u.seq) = false := (want_t rfl rfl (sg.slot 5 (sg.anc 5 rfl))).symm.trans hwant
      exact ⟨cF hG, fun _ h => h⟩
    · intro oo hop LL xx ac sg hwant
      cases Option.some.inj hop
      have hG : (v.seq == u.seq) = false := (want_t rfl rfl (sg.slot 5 (sg.anc 5 rfl))).symm.trans hwant
      exact ⟨cF hG, fun _ h => h⟩
    · intro oo hop LL xx ac sg hwant
      cases Option.some.inj hop
      have hG : ((v.seq == u.seq) && (v.code == u.code)) = false := (want_t rfl rfl (sg.slot 12 (sg.anc 12 rfl))).symm.trans hwant
      exact ⟨cF hG, fun _ h => h⟩
    · intro oo hop LL xx ac sg hwant
      cases Option.some.inj hop
      have hG : ((v.seq == u.seq) && (v.code == u.code)) = false := (want_t rfl rfl (sg.slot 12 (sg.anc 12 rfl))).symm.trans hwant
      exact ⟨cF hG, fun _ h => h⟩
    · intro oo hop LL xx ac sg hwant
      cases Option.some.inj hop
      have hG : ((v.seq == u.seq) && (v.code == u.code)) = false := (want_t rfl rfl (sg.slot 12 (sg.anc 12 rfl))).symm.trans hwant
      exact ⟨cF hG, fun _ h => h⟩
    · intro oo hop LL xx ac sg hwant
      cases Option.some.inj hop
      have hG : ((v.seq == u.seq) && (v.code == u.code)) = false := (want_t rfl rfl (sg.slot 12 (sg.anc 12 rfl))).symm.trans hwant
      exact ⟨cF hG, fun _ h => h⟩
    · intro oo hop LL xx ac sg hwant
      cases Option.some.inj hop
      have hG : ((v.seq == u.seq) && (v.code == u.code)) = false := (want_t rfl rfl (sg.slot 12 (sg.anc 12 rfl))).symm.trans hwant
      exact ⟨cF hG, fun _ h => h⟩
    · intro oo hop LL xx ac sg hwant
      cases Option.some.inj hop
      have hG : (((v.seq == u.seq) && (v.code == u.code)) && (v.index == u.index)) = false := (want_t rfl rfl (sg.slot 19 (sg.anc 19 rfl))).symm.trans hwant
      exact ⟨cF hG, fun _ h => h⟩
    · intro oo hop LL xx ac sg hwant
      cases Option.some.inj hop
      have hG : (((v.seq == u.seq) && (v.code == u.code)) && (v.index == u.index)) = false := (want_t rfl rfl (sg.slot 19 (sg.anc 19 rfl))).symm.trans hwant
      exact ⟨cF hG, fun _ h => h⟩
    · intro oo hop LL xx ac sg hwant
      cases Option.some.inj hop
      have hG : (((v.seq == u.seq) && (v.code == u.code)) && (v.index == u.index)) = false := (want_t rfl rfl (sg.slot 19 (sg.anc 19 rfl))).symm.trans hwant
      exact ⟨cF hG, fun _ h => h⟩
    · intro oo hop LL xx ac sg hwant
      cases Option.some.inj hop
      have hG : (((v.seq == u.seq) && (v.code == u.code)) && (v.index == u.index)) = false := (want_t rfl rfl (sg.slot 19 (sg.anc 19 rfl))).symm.trans hwant
      exact ⟨cF hG, fun _ h => h⟩
    · intro oo hop LL xx ac sg hwant
      cases Option.some.inj hop
      have hG : (((v.seq == u.seq) && (v.code == u.code)) && (v.index == u.index)) = false := (want_t rfl rfl (sg.slot 19 (sg.anc 19 rfl))).symm.trans hwant
      exact ⟨cF hG, fun _ h => h⟩
    · intro oo hop LL xx ac sg hwant
      cases Option.some.inj hop
      have hG : ((((v.seq == u.seq) && (v.code == u.code)) && (v.index == u.index)) && (v.session == u.session)) = false := (want_t rfl rfl (sg.slot 26 (sg.anc 26 rfl))).symm.trans hwant
      exact ⟨cF hG, fun _ h => h⟩
    · intro oo hop LL xx ac sg hwant
      cases Option.some.inj hop
      have hG : ((((v.seq == u.seq) && (v.code == u.code)) && (v.index == u.index)) && (v.session == u.session)) = false := (want_t rfl rfl (sg.slot 26 (sg.anc 26 rfl))).symm.trans hwant
      exact ⟨cF hG, fun _ h => h⟩
    · intro oo hop LL xx ac sg hwant
      cases Option.some.inj hop
      have hG : ((((v.seq == u.seq) && (v.code == u.code)) && (v.index == u.index)) && (v.session == u.session)) = false := (want_t rfl rfl (sg.slot 26 (sg.anc 26 rfl))).symm.trans hwant
      exact ⟨cF hG, fun _ h => h⟩
    · intro oo hop LL xx ac sg hwant
      cases Option.some.inj hop
      have hG : ((((v.seq == u.seq) && (v.code == u.code)) && (v.index == u.index)) && (v.session == u.session)) = false := (want_t rfl rfl (sg.slot 26 (sg.anc 26 rfl))).symm.trans hwant
      exact ⟨cF hG, fun _ h => h⟩
    · intro oo hop LL xx ac sg hwant
      cases Option.some.inj hop
      have hG : ((((v.seq == u.seq) && (v.code == u.code)) && (v.index == u.index)) && (v.session == u.session)) = false := (want_t rfl rfl (sg.slot 26 (sg.anc 26 rfl))).symm.trans hwant
      exact ⟨cF hG, fun _ h => h⟩
    · intro oo hop LL xx ac sg hwant
      cases Option.some.inj hop
      have hG : (((((v.seq == u.seq) && (v.code == u.code)) && (v.index == u.index)) && (v.session == u.session)) && (v.pass == u.pass)) = false := (want_t rfl rfl (sg.slot 33 (sg.anc 33 rfl))).symm.trans hwant
      exact ⟨cF hG, fun _ h => h⟩
    · intro oo hop LL xx ac sg hwant
      cases Option.some.inj hop
      have hG : (((((v.seq == u.seq) && (v.code == u.code)) && (v.index == u.index)) && (v.session == u.session)) && (v.pass == u.pass)) = false := (want_t rfl rfl (sg.slot 33 (sg.anc 33 rfl))).symm.trans hwant
      exact ⟨cF hG, fun _ h => h⟩
    · intro oo hop LL xx ac sg hwant
      cases Option.some.inj hop
      have hG : (((((v.seq == u.seq) && (v.code == u.code)) && (v.index == u.index)) && (v.session == u.session)) && (v.pass == u.pass)) = false := (want_t rfl rfl (sg.slot 33 (sg.anc 33 rfl))).symm.trans hwant
      exact ⟨cF hG, fun _ h => h⟩
    · intro oo hop LL xx ac sg hwant
      cases Option.some.inj hop
      have hG : (((((v.seq == u.seq) && (v.code == u.code)) && (v.index == u.index)) && (v.session == u.session)) && (v.pass == u.pass)) = false := (want_t rfl rfl (sg.slot 33 (sg.anc 33 rfl))).symm.trans hwant
      exact ⟨cF hG, fun _ h => h⟩
    · intro oo hop LL xx ac sg hwant
      cases Option.some.inj hop
      have hG : (((((v.seq == u.seq) && (v.code == u.code)) && (v.index == u.index)) && (v.session == u.session)) && (v.pass == u.pass)) = false := (want_t rfl rfl (sg.slot 33 (sg.anc 33 rfl))).symm.trans hwant
      exact ⟨cF hG, fun _ h => h⟩
  · intro xx ac1 wz hfr hsl hst
    exact hfin ac1 wz (hfr.size.trans hz) hfr.defers (fr_keep hfr [4, 5, 6, 7, 8, 9, 10, 11, 12, 13, 14, 15, 16, 17, 18, 19, 20, 21, 22, 23, 24, 25, 26, 27, 28, 29, 30, 31, 32, 33, 34, 35, 36, 37, 38, 39, 40, 41, 42, 43, 44] (by kernel_rfl)) (hsl 40 (by decide)) (Lib.hid hst)
set_option maxHeartbeats 16000000 in
set_option maxRecDepth 20000 in
theorem eqlC (v : AnsV) (sa : Option Addr) (sc : Nat) (u : AnsV) (ua : Option Addr) (uc : Nat) (w : World) (h1 : (rS sa sc 8 (v.calls.map callRow)).holds w) (h2 : (rS ua uc 8 (u.calls.map callRow)).holds w) (hv1 : v.calls.length ≤ 1000000) (hu1 : u.calls.length ≤ 1000000) : Calls Try.prog 35 #[.agg #[.int .i64 v.seq, .int .i64 v.code, .int .i64 v.index, .int .i64 v.session, .int .u32 v.pass, .slice sa v.calls.length sc], .agg #[.int .i64 u.seq, .int .i64 u.code, .int .i64 u.index, .int .i64 u.session, .int .u32 u.pass, .slice ua u.calls.length uc]] w fun e w' => e = .returned (.bool (eqA v u)) ∧ Off [] w w' := by
 have H := Lib.hid (Hp.start [] w)
 have H := hp_old H h1 (by decide)
 have H := hp_old H h2 (by decide)
 clear h1 h2
 refine wStart (args := [.agg #[.int .i64 v.seq, .int .i64 v.code, .int .i64 v.index, .int .i64 v.session, .int .u32 v.pass, .slice sa v.calls.length sc], .agg #[.int .i64 u.seq, .int .i64 u.code, .int .i64 u.index, .int .i64 u.session, .int .u32 u.pass, .slice ua u.calls.length uc]]) Try.func35 rfl rfl rfl H ?_
 clear H
 show Wk 45 _ _ [(0, .agg #[.int .i64 v.seq, .int .i64 v.code, .int .i64 v.index, .int .i64 v.session, .int .u32 v.pass, .slice sa v.calls.length sc]), (1, .agg #[.int .i64 u.seq, .int .i64 u.code, .int .i64 u.index, .int .i64 u.session, .int .u32 u.pass, .slice ua u.calls.length uc])] _ _
 refine wSeqK fun KK1 hK1 => ?_
 refine wReg ?_
 refine wBx rfl rfl rfl fun b2 => ?_
 refine wBx rfl rfl rfl fun b3 => ?_
 refine p_eqlC rfl ?_
 refine wN ?_
 refine tN (wKK hK1 ?_)
 refine wSeqK fun KK2 hK2 => ?_
 intro aa ww nn dd hs H
 refine eqlC_r1 v sa sc u ua uc hv1 hu1 b2 b3 H aa nn (hs 2 _ rfl) (hs 3 _ rfl) ?_
 intro ab wv nn2 dd2 kp o4 H2
 refine wIn nn2 (dd2.trans dd) (Sat.cons (Sat.cons (Sat.cons (Sat.cons (Sat.cons (sat_nil ab) ((kp 3 rfl).trans (hs 3 _ rfl))) ((kp 2 rfl).trans (hs 2 _ rfl))) ((kp 1 rfl).trans (hs 1 _ rfl))) ((kp 0 rfl).trans (hs 0 _ rfl))) o4) H2 ?_
 clear hs H kp H2 dd dd2 nn nn2 o4
 refine tN (wKK hK2 ?_)
 refine wRet ?_
 exact wR1 rfl rfl (fun ww H => ⟨rfl, H.out.off⟩)
theorem head_is {n : Int} (h : (cntsV [n]).2 = true) : str (([] ++ (encs 1 [128]).1) ++ (cntsV [n]).1) = str (headB n) := by
  rw [encs_ok (show (encs 1 [128]).2 = true from rfl), cnts_ok h]
  unfold headB
  simp [beBs]
theorem cnt_is (n : Int) : (cntsV [n]).2 = cnt n := by rw [cnts_all]; simp
theorem with_yes {n : Int} {p : ByteArray} (h : (cntsV [n]).2 = true) (h2 : ((decodeV (str (([] ++ (encs 1 [128]).1) ++ (cntsV [n]).1) ++ p)).2 != 0) = false) : withV n p = (str (([] ++ (encs 1 [128]).1) ++ (cntsV [n]).1) ++ p, 0) := by
  rw [head_is h] at h2 ⊢
  unfold withV
  rw [← cnt_is, h]
  have : ((decodeV (str (headB n) ++ p)).2 == 0) = true := by simpa using h2
  rw [this]
  rfl
theorem with_no2 {n : Int} {p : ByteArray} (h : (cntsV [n]).2 = true) (h2 : ((decodeV (str (([] ++ (encs 1 [128]).1) ++ (cntsV [n]).1) ++ p)).2 != 0) = true) : withV n p = (⟨#[]⟩, 1) := by
  rw [head_is h] at h2
  unfold withV
  have : ((decodeV (str (headB n) ++ p)).2 == 0) = false := by simpa using h2
  rw [this, Bool.and_false]
  rfl
def tab_withC : Wk.Tab := []
theorem p_withC {ops : Array Oper} {rest : List Oper} {o : Oper} {w0 : World} {Q : Exit → Act → World → Prop} {S : List Nat} {R : List Res} {K K' : Wk.Env} {N : Nat} (h : Wk.stp tab_withC N ops K o = some K') (n : Wk.Wk N S w0 K' R (wpList Try.prog ops Q rest)) : Wk.Wk N S w0 K R (wpList Try.prog ops Q (o :: rest)) := Wk.wP (T := tab_withC) (by kernel_rfl) h n
set_option maxHeartbeats 16000000 in
set_option maxRecDepth 20000 in
theorem withC (n : Int) (p : ByteArray) (w : World) (hp1 : p.size ≤ 140737488351232) : Calls Try.prog 37 #[.int .i64 n, .string p] w fun e w' => e = .returned (.tuple #[.string (withV n p).1, .int .i64 (withV n p).2]) ∧ Off [] w w' := by
 have H := Lib.hid (Hp.start [] w)
 refine wStart (args := [.int .i64 n, .string p]) Try.func37 rfl rfl rfl H ?_
 clear H
 show Wk 32 _ _ [(0, .int .i64 n), (1, .string p)] _ _
 have hk1 : (encs 1 [128]).2 = true := rfl
 refine wSeqK fun KK1 hK1 => ?_
 refine wReg ?_
 iterate 2 refine p_withC rfl ?_
 refine wN ?_
 refine tN (wKK hK1 ?_)
 refine wSeqK fun KK2 hK2 => ?_
 refine wReg ?_
 refine wE (.agg #[.slice none 0 0]) rfl rfl rfl (fun aa ww hs _ => by simp only [execOp]; go_simp <;> omega) ?_
 refine wBx rfl rfl rfl fun b11 => ?_
 refine p_withC rfl ?_
 refine wN ?_
 intro aa ww nn dd hs H
 replace H := outNewH H
 refine wIn nn dd hs H ?_
 refine tN (wKK hK2 ?_)
 refine wSeqK fun KK3 hK3 => ?_
 refine wReg ?_
 refine p_withC rfl ?_
 refine wBs (cs := [.int .i64 128]) rfl rfl rfl rfl Try.underlying125 tyint rfl (by decide) (by decide) (by kernel_rfl) fun b13 => ?_
 refine wC (l := [.pointer (some ⟨b11, 0, none⟩), .int .i64 1, .slice (some ⟨b13, 0, none⟩) 1 1]) Try.func46 rfl (by kernel_rfl) (fun wc H => by have h := outNumsH H (ns := [128]) (wd := 1) (n := 1) (c := 1) (i := 1) (j := 0) rfl rfl rfl rfl (by decide) (by decide); rw [hk1] at h; exact h) rfl rfl rfl rfl ?_
 intro wc H
 rintro er wd ⟨rfl, fF2_2, H2⟩
 refine ⟨_, rfl, wkAt H2 ?_⟩
 clear H H2
 refine wN ?_
 refine tN (wKK hK3 ?_)
 refine wSeqK fun KK4 hK4 => ?_
 refine wSeqK fun KK5 hK5 => ?_
 rcases Bool.eq_false_or_eq_true ((cntsV [n]).2) with y1 | y1
 · skip
   refine wReg ?_
   iterate 2 refine p_withC rfl ?_
   refine wBs (cs := [.int .i64 n]) rfl rfl rfl rfl Try.underlying125 tyint rfl (by decide) (by decide) (by kernel_rfl) fun b17 => ?_
   refine wC (l := [.pointer (some ⟨b11, 0, none⟩), .slice (some ⟨b17, 0, none⟩) 1 1]) Try.func47 rfl (by kernel_rfl) (fun wc H => by have h := countsH H (ns := [n]) (n := 1) (c := 1) (i := 2) (j := 0) rfl rfl rfl rfl (by decide) (by decide); rw [y1] at h; exact h) rfl rfl rfl rfl ?_
   intro wc H
   rintro er wd ⟨rfl, fF3_3, H2⟩
   refine ⟨_, rfl, wkAt H2 ?_⟩
   clear H H2
   refine p_withC rfl ?_
   refine wN ?_
   refine tN (wKK hK5 ?_)
   refine wCf rfl ?_
   refine wSk ?_
   refine tN (wKK hK4 ?_)
   refine wSeqK fun KK6 hK6 => ?_
   intro aa ww nn dd hs H
   have hsz : (str ((encs 1 [128]).1 ++ (cntsV [n]).1)).size ≤ 100 := by have h1 := encs_len 1 [128]; have h2 := cnts_len [n]; rw [str_size, List.length_append]; simp at h1 h2; omega
   refine wIn nn dd hs H ?_
   refine wReg ?_
   refine p_withC rfl ?_
   refine wQ (l := [.pointer (some ⟨b11, 0, none⟩)]) Try.func49 rfl (by kernel_rfl) (.string (str ((([]) ++ (encs 1 [128]).1) ++ (cntsV [n]).1))) (fun wc H => off_of_eq (outStringH H (i := 2) rfl)) rfl rfl rfl rfl ?_
   refine p_withC rfl ?_
   refine wE (.string ((str ((([]) ++ (encs 1 [128]).1) ++ (cntsV [n]).1)) ++ p)) rfl rfl rfl (fun aa ww hs _ => by have e21 := hs 21 _ rfl; have g21 := gt_of e21; have e22 := hs 22 _ rfl; have g22 := gt_of e22; simp only [execOp]; go_simp <;> omega) ?_
   refine p_withC rfl ?_
   refine wN ?_
   refine tN (wKK hK6 ?_)
   refine wSeqK fun KK7 hK7 => ?_
   refine wSeqK fun KK8 hK8 => ?_
   refine wReg ?_
   refine p_withC rfl ?_
   refine wC (l := [.string ((str ((([]) ++ (encs 1 [128]).1) ++ (cntsV [n]).1)) ++ p)]) Try.func33 rfl (by kernel_rfl) (fun wc H => decodeC ((str ((([]) ++ (encs 1 [128]).1) ++ (cntsV [n]).1)) ++ p) wc) rfl rfl rfl rfl ?_
   intro wc H
   rintro er wd ⟨a6_1, c6_1, rfl, hs1, hf1, hof⟩
   have H2 := hp_newS H hof hs1 hf1
   refine ⟨_, rfl, wkAt H2 ?_⟩
   clear H H2 hof
   iterate 3 refine p_withC rfl ?_
   refine wAl rfl rfl tynote_Answer fun b8 => ?_
   refine wSr rfl tynote_Answer 0 rfl rfl rfl rfl [.int .i64 ((decodeV ((str ((([]) ++ (encs 1 [128]).1) ++ (cntsV [n]).1)) ++ p)).1.seq), .int .i64 ((decodeV ((str ((([]) ++ (encs 1 [128]).1) ++ (cntsV [n]).1)) ++ p)).1.code), .int .i64 ((decodeV ((str ((([]) ++ (encs 1 [128]).1) ++ (cntsV [n]).1)) ++ p)).1.index), .int .i64 ((decodeV ((str ((([]) ++ (encs 1 [128]).1) ++ (cntsV [n]).1)) ++ p)).1.session), .int .u32 ((decodeV ((str ((([]) ++ (encs 1 [128]).1) ++ (cntsV [n]).1)) ++ p)).1.pass), .slice a6_1 (((decodeV ((str ((([]) ++ (encs 1 [128]).1) ++ (cntsV [n]).1)) ++ p)).1).calls.length) c6_1] (by first | rfl | (simp only [spl]; rfl)) ?_
   refine p_withC rfl ?_
   refine wN ?_
   refine tN (wKK hK8 ?_)
   refine wSeqK fun KK9 hK9 => ?_
   refine wReg ?_
   iterate 2 refine p_withC rfl ?_
   refine wN ?_
   refine tN (wKK hK9 ?_)
   refine wCond (E := ((decodeV ((str ((([]) ++ (encs 1 [128]).1) ++ (cntsV [n]).1)) ++ p)).2) != 0) rfl (fun z2 => ?_) (fun z2 => ?_)
   · skip
     have z2o : (((decodeV ((str ((([]) ++ (encs 1 [128]).1) ++ (cntsV [n]).1)) ++ p)).2) == 0) = false := neq_t z2
     refine wSeqK fun KK10 hK10 => ?_
     refine wReg ?_
     iterate 2 refine p_withC rfl ?_
     refine wN ?_
     refine tN (wKK hK10 ?_)
     refine wRet ?_
     refine tR ?_
     exact wR2 rfl rfl rfl (fun ww H => ⟨by rw [with_no2 y1 z2], H.out.off⟩)
   · skip
     have z2o : (((decodeV ((str ((([]) ++ (encs 1 [128]).1) ++ (cntsV [n]).1)) ++ p)).2) == 0) = true := neq_f z2
     refine wSk ?_
     refine tN (wKK hK7 ?_)
     refine wSeqK fun KK11 hK11 => ?_
     refine wReg ?_
     iterate 3 refine p_withC rfl ?_
     refine wN ?_
     refine tN (wKK hK11 ?_)
     refine wRet ?_
     exact wR2 rfl rfl rfl (fun ww H => ⟨by rw [with_yes y1 z2], H.out.off⟩)
 · skip
   refine wReg ?_
   iterate 2 refine p_withC rfl ?_
   refine wBs (cs := [.int .i64 n]) rfl rfl rfl rfl Try.underlying125 tyint rfl (by decide) (by decide) (by kernel_rfl) fun b17 => ?_
   refine wC (l := [.pointer (some ⟨b11, 0, none⟩), .slice (some ⟨b17, 0, none⟩) 1 1]) Try.func47 rfl (by kernel_rfl) (fun wc H => by have h := countsH H (ns := [n]) (n := 1) (c := 1) (i := 2) (j := 0) rfl rfl rfl rfl (by decide) (by decide); rw [y1] at h; exact h) rfl rfl rfl rfl ?_
   intro wc H
   rintro er wd ⟨rfl, fF3_3, H2⟩
   refine ⟨_, rfl, wkAt H2 ?_⟩
   clear H H2
   refine p_withC rfl ?_
   refine wN ?_
   refine tN (wKK hK5 ?_)
   refine wCt rfl ?_
   refine wSeqK fun KK12 hK12 => ?_
   refine wReg ?_
   iterate 2 refine p_withC rfl ?_
   refine wN ?_
   refine tN (wKK hK12 ?_)
   refine wRet ?_
   refine tR ?_
   exact wR2 rfl rfl rfl (fun ww H => ⟨by rw [with_no (by rw [← cnt_is]; exact y1)], H.out.off⟩)
theorem readN_call {s s1 s2 s3 s4 : ByteArray} {k i t : Nat} {v1 v2 v3 v4 bg : Bool} {x : CallV} (h1 : inNumV s false 1 = (k, s1, v1)) (h2 : inNumV s1 v1 4 = (i, s2, v2)) (h3 : inNumV s2 v2 1 = (t, s3, v3)) (ht : ((t : Int) == 1) = true) (h4 : dCall (s3, v3) = (x, bg, (s4, v4))) : readN s = (⟨i, ⟨i, x, 0, 0⟩⟩, decide (1073741824 < (i : Int)) || bg, (s4, v4)) := by
  have e : t = 1 := by simp at ht; omega
  subst e
  unfold readN
  simp only [h1, h2, h3, h4]
  rfl
theorem readN_car {s s1 s2 s3 s4 s5 : ByteArray} {k i t c m : Nat} {v1 v2 v3 v4 v5 : Bool} (h1 : inNumV s false 1 = (k, s1, v1)) (h2 : inNumV s1 v1 4 = (i, s2, v2)) (h3 : inNumV s2 v2 1 = (t, s3, v3)) (ht : ((t : Int) == 2) = true) (h4 : inNumV s3 v3 1 = (c, s4, v4)) (h5 : inNumV s4 v4 1 = (m, s5, v5)) : readN s = (⟨i, ⟨i, zeroC, c, m⟩⟩, decide (1073741824 < (i : Int)), (s5, v5)) := by
  have e : t = 2 := by simp at ht; omega
  subst e
  unfold readN
  simp only [h1, h2, h3, h4, h5]
  rfl
theorem readN_gap {s s1 s2 s3 : ByteArray} {k i t : Nat} {v1 v2 v3 : Bool} (h1 : inNumV s false 1 = (k, s1, v1)) (h2 : inNumV s1 v1 4 = (i, s2, v2)) (h3 : inNumV s2 v2 1 = (t, s3, v3)) (ht : ((t : Int) == 1) = false) (ht2 : ((t : Int) == 2) = false) : readN s = (⟨i, zeroG⟩, decide (1073741824 < (i : Int)), (s3, v3)) := by
  unfold readN
  simp only [h1, h2, h3]
  rw [if_neg (by intro e; subst e; simp at ht), if_neg (by intro e; subst e; simp at ht2)]
theorem told_of {s s2 : ByteArray} {n : NoteV} {bg b2 E : Bool} (hr : readN s = (n, bg, (s2, b2))) (h : ((((tellV n).2 != 0) || (!((tellV n).1.toList == s.toList))) || (!((!bg) && ((!b2) && s2.toList.isEmpty)))) = E) : toldV s = bif E then (zeroN, 4) else (n, 0) := by
  subst h
  unfold toldV
  rw [hr]
  simp only []
  cases h1 : (tellV n).2 == 0 <;> cases h2 : (tellV n).1.toList == s.toList <;> cases bg <;> cases b2 <;> cases s2.toList.isEmpty <;> simp [bne, h1, h2]
def tab_toldC : Wk.Tab := [(109, 0, 0)]
theorem p_toldC {ops : Array Oper} {rest : List Oper} {o : Oper} {w0 : World} {Q : Exit → Act → World → Prop} {S : List Nat} {R : List Res} {K K' : Wk.Env} {N : Nat} (h : Wk.stp tab_toldC N ops K o = some K') (n : Wk.Wk N S w0 K' R (wpList Try.prog ops Q rest)) : Wk.Wk N S w0 K R (wpList Try.prog ops Q (o :: rest)) := Wk.wP (T := tab_toldC) (by kernel_rfl) h n
set_option maxHeartbeats 4000000 in
set_option maxRecDepth 20000 in
theorem toldC_r6 (s : ByteArray) (b2 : Nat) (b1_1 : Nat) (b11 : Nat) (n2_4 : Nat) (s2_4 : ByteArray) (v2_4 : Bool) (n3_1 : Nat) (s3_1 : ByteArray) (v3_1 : Bool) (b5 : Nat) (n4_4 : Nat) (s4_4 : ByteArray) (v4_4 : Bool) {wa wb : World} (H : Hid (Hp [] wa wb [rP (inNumV s3_1 v3_1 1 = (n4_4, s4_4, v4_4)), rB b5 50 [.int .i64 n3_1, .int .i64 0, .int .i64 0, .int .i64 0, .int .i64 0, .int .i64 0, .int .i64 0, .int .i64 0, .int .i64 0, .int .i64 0, .int .i64 0, .int .i64 0], rP (inNumV s2_4 v2_4 4 = (n3_1, s3_1, v3_1)), rB b11 109 [.pointer (some ⟨b1_1, 0, none⟩), .bool (false || decide (1073741824 < (n3_1 : Int)))], rB b1_1 117 [.string s4_4, .bool v4_4], rP (inNumV s false 1 = (n2_4, s2_4, v2_4)), rB b2 50 [.int .i64 0, .int .i64 0, .int .i64 0, .int .i64 0, .int .i64 0, .int .i64 0, .int .i64 0, .int .i64 0, .int .i64 0, .int .i64 0, .int .i64 0, .int .i64 0]])) (ac0 : Act) (hz : ac0.tmps.size = 72) (so4 : ac0.eval (.tmp 4) = .pointer (some ⟨b11, 0, none⟩)) (so5 : ac0.eval (.tmp 5) = .pointer (some ⟨b5, 0, none⟩)) {QR : Exit → Act → World → Prop} (hfin : ∀ (x6_7 : CallV) (g6_7 : Bool) (s6_7 : ByteArray) (v6_7 : Bool) (ac1 : Act) (wz : World), ac1.tmps.size = 72 → ac1.defers = ac0.defers → (∀ t, ([27, 28, 29, 30, 31, 32, 33, 34, 35, 36] : List Nat).contains t = false → ac1.eval (.tmp t) = ac0.eval (.tmp t)) →  Hid (Hp [] wa wz [rP (dCall (s4_4, v4_4) = (x6_7, g6_7, (s6_7, v6_7))), rB b11 109 [.pointer (some ⟨b1_1, 0, none⟩), .bool ((false || decide (1073741824 < (n3_1 : Int))) || g6_7)], rB b1_1 117 [.string s6_7, .bool v6_7], rP (inNumV s3_1 v3_1 1 = (n4_4, s4_4, v4_4)), rB b5 50 [.int .i64 n3_1, .int .i64 n3_1, .int .i64 x6_7.id, .int .i64 x6_7.kind, .int .i64 x6_7.src, .int .i64 x6_7.dst, .int .i64 x6_7.car, .int .i64 x6_7.state, .int .i64 x6_7.owner, .int .i64 x6_7.born, .int .i64 0, .int .i64 0], rP (inNumV s2_4 v2_4 4 = (n3_1, s3_1, v3_1)), rP (inNumV s false 1 = (n2_4, s2_4, v2_4)), rB b2 50 [.int .i64 0, .int .i64 0, .int .i64 0, .int .i64 0, .int .i64 0, .int .i64 0, .int .i64 0, .int .i64 0, .int .i64 0, .int .i64 0, .int .i64 0, .int .i64 0]]) → QR .normal ac1 wz) : (regAt Try.f22 6).wp Try.prog QR ac0 wb := by
  refine wp_region_st mixedP ⟨[0, 1, 0, 0, 1, 2, 3, 4, 5, 6, 7], by kernel_rfl⟩ [[], [0], [], [], [3], [3, 4], [3, 4, 5], [2, 3, 4, 5, 6], [0, 1, 2, 3, 4, 5, 6, 7], [0, 1, 2, 3, 4, 5, 6, 7, 8], [0, 1, 2, 3, 4, 5, 6, 7, 8, 9]] (by kernel_rfl) (by kernel_rfl) 72 hz (by kernel_rfl) (fun (xx : CallV × Bool × ByteArray × Bool) jx => match xx with | (x6_7, g6_7, s6_7, v6_7) => nth [.pointer (some ⟨b5, 0, none⟩), .int .i64 n3_1, .pointer (some ⟨b11, 0, none⟩), .pointer (some ⟨b11, 0, none⟩), .pointer (some ⟨b11, 0, none⟩), .pointer (some ⟨b11, 0, none⟩), .pointer (some ⟨b1_1, 0, none⟩), .agg #[.int .i64 x6_7.id, .int .i64 x6_7.kind, .int .i64 x6_7.src, .int .i64 x6_7.dst, .int .i64 x6_7.car, .int .i64 x6_7.state, .int .i64 x6_7.owner, .int .i64 x6_7.born], .agg #[.int .i64 n3_1, .int .i64 x6_7.id, .int .i64 x6_7.kind, .int .i64 x6_7.src, .int .i64 x6_7.dst, .int .i64 x6_7.car, .int .i64 x6_7.state, .int .i64 x6_7.owner, .int .i64 x6_7.born, .int .i64 0, .int .i64 0], .pointer (some ⟨b5, 1, none⟩), undef] jx) (fun (LL : Nat → Bool) (xx : CallV × Bool × ByteArray × Bool) ww => match xx with | (x6_7, g6_7, s6_7, v6_7) => Hp [] wa ww (bif LL 7 then (bif LL 10 then [rP (dCall (s4_4, v4_4) = (x6_7, g6_7, (s6_7, v6_7))), rB b11 109 [.pointer (some ⟨b1_1, 0, none⟩), .bool ((false || decide (1073741824 < (n3_1 : Int))) || g6_7)], rB b1_1 117 [.string s6_7, .bool v6_7], rP (inNumV s3_1 v3_1 1 = (n4_4, s4_4, v4_4)), rB b5 50 [.int .i64 n3_1, .int .i64 n3_1, .int .i64 x6_7.id, .int .i64 x6_7.kind, .int .i64 x6_7.src, .int .i64 x6_7.dst, .int .i64 x6_7.car, .int .i64 x6_7.state, .int .i64 x6_7.owner, .int .i64 x6_7.born, .int .i64 0, .int .i64 0], rP (inNumV s2_4 v2_4 4 = (n3_1, s3_1, v3_1)), rP (inNumV s false 1 = (n2_4, s2_4, v2_4)), rB b2 50 [.int .i64 0, .int .i64 0, .int .i64 0, .int .i64 0, .int .i64 0, .int .i64 0, .int .i64 0, .int .i64 0, .int .i64 0, .int .i64 0, .int .i64 0, .int .i64 0]] else [rP (dCall (s4_4, v4_4) = (x6_7, g6_7, (s6_7, v6_7))), rB b11 109 [.pointer (some ⟨b1_1, 0, none⟩), .bool ((false || decide (1073741824 < (n3_1 : Int))) || g6_7)], rB b1_1 117 [.string s6_7, .bool v6_7], rP (inNumV s3_1 v3_1 1 = (n4_4, s4_4, v4_4)), rB b5 50 [.int .i64 n3_1, .int .i64 0, .int .i64 0, .int .i64 0, .int .i64 0, .int .i64 0, .int .i64 0, .int .i64 0, .int .i64 0, .int .i64 0, .int .i64 0, .int .i64 0], rP (inNumV s2_4 v2_4 4 = (n3_1, s3_1, v3_1)), rP (inNumV s false 1 = (n2_4, s2_4, v2_4)), rB b2 50 [.int .i64 0, .int .i64 0, .int .i64 0, .int .i64 0, .int .i64 0, .int .i64 0, .int .i64 0, .int .i64 0, .int .i64 0, .int .i64 0, .int .i64 0, .int .i64 0]]) else [rP (inNumV s3_1 v3_1 1 = (n4_4, s4_4, v4_4)), rB b5 50 [.int .i64 n3_1, .int .i64 0, .int .i64 0, .int .i64 0, .int .i64 0, .int .i64 0, .int .i64 0, .int .i64 0, .int .i64 0, .int .i64 0, .int .i64 0, .int .i64 0], rP (inNumV s2_4 v2_4 4 = (n3_1, s3_1, v3_1)), rB b11 109 [.pointer (some ⟨b1_1, 0, none⟩), .bool (false || decide (1073741824 < (n3_1 : Int)))], rB b1_1 117 [.string s4_4, .bool v4_4], rP (inNumV s false 1 = (n2_4, s2_4, v2_4)), rB b2 50 [.int .i64 0, .int .i64 0, .int .i64 0, .int .i64 0, .int .i64 0, .int .i64 0, .int .i64 0, .int .i64 0, .int .i64 0, .int .i64 0, .int .i64 0, .int .i64 0]])) (default, default, default, default) H.out.drew ?_ (steps_al ?_) ?_ ?_
  · intro L1 L2 xx ww hL sg
    have lh7 := hL 7 (by decide)
    have lh10 := hL 10 (by decide)
    simp only [lh7, lh10] at sg
    exact sg
  · refine al_cons ?_ (al_cons ?_ (al_cons ?_ (al_cons ?_ (al_cons ?_ (al_cons ?_ (al_cons ?_ (al_cons ?_ (al_cons ?_ (al_cons ?_ (al_cons ?_ (al_nil)))))))))))
    · intro LL xx ac wc sg hst hwant QQ hgo
      obtain ⟨x6_7, g6_7, s6_7, v6_7⟩ := xx
      have se5 : ac.eval (.tmp 5) = _ := ((sg.free 5 (by kernel_rfl)).trans so5)
      have sg5 := gt_of se5
      exact op_val hwant hgo hst _ (by simp only [execOp, nth]; go_simp <;> omega) rfl
    · intro LL xx ac wc sg hst hwant QQ hgo
      obtain ⟨x6_7, g6_7, s6_7, v6_7⟩ := xx
      rcases Bool.eq_false_or_eq_true (LL 7) with lh7 | lh7
      · skip
        have H := Lib.hid hst
        simp only [lh7, sg.des 10 rfl, cond_true, cond_false] at H
        refine hpA_load1 tyint H rfl (sg.slot 0 (sg.anc 0 rfl)) hwant (by (repeat (first | exact List.Mem.head _ | apply List.Mem.tail))) (by rfl) ?_
        exact hgo _ (x6_7, g6_7, s6_7, v6_7) _ (fun _ _ => rfl) rfl hst
      · skip
        have H := Lib.hid hst
        simp only [lh7, sg.des 10 rfl, cond_true, cond_false] at H
        refine hpA_load1 tyint H rfl (sg.slot 0 (sg.anc 0 rfl)) hwant (by (repeat (first | exact List.Mem.head _ | apply List.Mem.tail))) (by rfl) ?_
        exact hgo _ (x6_7, g6_7, s6_7, v6_7) _ (fun _ _ => rfl) rfl hst
    · intro LL xx ac wc sg hst hwant QQ hgo
      obtain ⟨x6_7, g6_7, s6_7, v6_7⟩ := xx
      exact op_val hwant hgo hst _ (exec_move rfl ((sg.free 4 (by kernel_rfl)).trans so4)) rfl
    · intro LL xx ac wc sg hst hwant QQ hgo
      obtain ⟨x6_7, g6_7, s6_7, v6_7⟩ := xx
      exact op_val hwant hgo hst _ (exec_move rfl ((sg.free 4 (by kernel_rfl)).trans so4)) rfl
    · intro LL xx ac wc sg hst hwant QQ hgo
      obtain ⟨x6_7, g6_7, s6_7, v6_7⟩ := xx
      have se30 : ac.eval (.tmp 30) = _ := (sg.slot 3 (sg.anc 3 rfl))
      have sg30 := gt_of se30
      (try simp only [nth] at se30 sg30)
      exact op_val hwant hgo hst _ (by simp only [execOp, nth]; go_simp <;> omega) rfl
    · intro LL xx ac wc sg hst hwant QQ hgo
      obtain ⟨x6_7, g6_7, s6_7, v6_7⟩ := xx
      have se31 : ac.eval (.tmp 31) = _ := (sg.slot 4 (sg.anc 4 rfl))
      have sg31 := gt_of se31
      (try simp only [nth] at se31 sg31)
      exact op_val hwant hgo hst _ (by simp only [execOp, nth]; go_simp <;> omega) rfl
    · intro LL xx ac wc sg hst hwant QQ hgo
      obtain ⟨x6_7, g6_7, s6_7, v6_7⟩ := xx
      have H := Lib.hid hst
      simp only [sg.des 7 rfl, sg.des 10 rfl, cond_true, cond_false] at H
      refine hpA_load1 tyP_pack_In H rfl (sg.slot 5 (sg.anc 5 rfl)) hwant (by (repeat (first | exact List.Mem.head _ | apply List.Mem.tail))) (by rfl) ?_
      exact hgo _ (x6_7, g6_7, s6_7, v6_7) _ (fun _ _ => rfl) rfl hst
    · intro LL xx ac wc sg hst hwant QQ hgo
      obtain ⟨_, _, _, _⟩ := xx
      have se29 : ac.eval (.tmp 29) = _ := (sg.slot 2 (sg.anc 2 rfl))
      have sg29 := gt_of se29
      have se33 : ac.eval (.tmp 33) = _ := (sg.slot 6 (sg.anc 6 rfl))
      have sg33 := gt_of se33
      (try simp only [nth] at se29 sg29 se33 sg33)
      have H := Lib.hid hst
      simp only [sg.self, sg.des 10 rfl, cond_true, cond_false] at H
      refine op_call hwant hgo 53 #[.pointer (some ⟨b11, 0, none⟩), .pointer (some ⟨b1_1, 0, none⟩)] (by simp only [execOp]; go_simp) (callRC b11 b1_1 (false || decide (1073741824 < (n3_1 : Int))) s4_4 v4_4 wc (show (rB b11 109 [.pointer (some ⟨b1_1, 0, none⟩), .bool (false || decide (1073741824 < (n3_1 : Int)))]).holds wc from H.out.holds _ (by (repeat (first | exact List.Mem.head _ | apply List.Mem.tail)))) (show (rB b1_1 117 [.string s4_4, .bool v4_4]).holds wc from H.out.holds _ (by (repeat (first | exact List.Mem.head _ | apply List.Mem.tail)))) (blk_ne H (i := 3) (j := 4) rfl rfl (by decide))) ?_
      rintro er wd ⟨x6_7, g6_7, s6_7, v6_7, rfl, hq1, hb1, hb2, hof⟩
      have HF := hp_front H 4 rfl
      replace HF := hp_front HF 4 rfl
      have H2 := hp_twice HF hb1 hb2 hof
      replace H2 := hp_fact H2 hq1
      exact ⟨_, (x6_7, g6_7, s6_7, v6_7), rfl, (sg.agree (x' := (x6_7, g6_7, s6_7, v6_7)) (n := 11) rfl (by (iterate 11 (refine ix_cons (by first | exact fun _ => rfl | exact no sg.self | exact no (sg.des _ rfl)) ?_)); exact ix_nil)), rfl, (by simp only [(show upd LL 7 7 = true from rfl), (show upd LL 7 10 = LL 10 from rfl), sg.des 10 rfl, cond_true, cond_false]; exact H2.out)⟩
    · intro LL xx ac wc sg hst hwant QQ hgo
      obtain ⟨x6_7, g6_7, s6_7, v6_7⟩ := xx
      have se28 : ac.eval (.tmp 28) = _ := (sg.slot 1 (sg.anc 1 rfl))
      have sg28 := gt_of se28
      have se34 : ac.eval (.tmp 34) = _ := (sg.slot 7 (sg.anc 7 rfl))
      have sg34 := gt_of se34
      (try simp only [nth] at se28 sg28 se34 sg34)
      exact op_val hwant hgo hst _ (by simp only [execOp, nth]; go_simp <;> omega) rfl
    · intro LL xx ac wc sg hst hwant QQ hgo
      obtain ⟨x6_7, g6_7, s6_7, v6_7⟩ := xx
      have se5 : ac.eval (.tmp 5) = _ := ((sg.free 5 (by kernel_rfl)).trans so5)
      have sg5 := gt_of se5
      exact op_val hwant hgo hst _ (by simp only [execOp, nth]; go_simp <;> omega) rfl
    · intro LL xx ac wc sg hst hwant QQ hgo
      obtain ⟨x6_7, g6_7, s6_7, v6_7⟩ := xx
      have H := Lib.hid hst
      simp only [sg.anc 7 rfl, sg.self, cond_true, cond_false] at H
      refine hpA_store tyapi_Change H rfl rfl (sg.slot 9 (sg.anc 9 rfl)) (sg.slot 8 (sg.anc 8 rfl)) rfl (by repeat (first | apply Put.head | apply Put.tail)) (by simp [List.length_cons]) (by simp [List.length_cons, Value.oneCell']) (by first | rfl | (simp only [spl]; rfl)) rfl ?_
      intro wd H2
      exact hgo _ (x6_7, g6_7, s6_7, v6_7) _ (sg.agree (x' := (x6_7, g6_7, s6_7, v6_7)) (n := 11) rfl (by (iterate 11 (refine ix_cons (by first | exact fun _ => rfl | exact no sg.self | exact no (sg.des _ rfl)) ?_)); exact ix_nil)) rfl (by simp only [(show upd LL 10 7 = LL 7 from rfl), sg.anc 7 rfl, (show upd LL 10 10 = true from rfl), cond_true, cond_false]; exact H2.out)
  · exact skips [] (by kernel_rfl) (fun _ h => by cases h)
  · intro xx ac1 wz hfr hsl hst
    obtain ⟨x6_7, g6_7, s6_7, v6_7⟩ := xx
    exact hfin x6_7 g6_7 s6_7 v6_7 ac1 wz (hfr.size.trans hz) hfr.defers (fr_keep hfr [27, 28, 29, 30, 31, 32, 33, 34, 35, 36] (by kernel_rfl)) (Lib.hid hst)
set_option maxHeartbeats 4000000 in
set_option maxRecDepth 20000 in
theorem toldC_r10 (s : ByteArray) (b2 : Nat) (b1_1 : Nat) (b11 : Nat) (n2_4 : Nat) (s2_4 : ByteArray) (v2_4 : Bool) (n3_1 : Nat) (s3_1 : ByteArray) (v3_1 : Bool) (b5 : Nat) (n4_4 : Nat) (s4_4 : ByteArray) (v4_4 : Bool) (x6_7 : CallV) (g6_7 : Bool) (s6_7 : ByteArray) (v6_7 : Bool) {wa wb : World} (H : Hid (Hp [] wa wb [rP (dCall (s4_4, v4_4) = (x6_7, g6_7, (s6_7, v6_7))), rB b11 109 [.pointer (some ⟨b1_1, 0, none⟩), .bool ((false || decide (1073741824 < (n3_1 : Int))) || g6_7)], rB b1_1 117 [.string s6_7, .bool v6_7], rP (inNumV s3_1 v3_1 1 = (n4_4, s4_4, v4_4)), rB b5 50 [.int .i64 n3_1, .int .i64 n3_1, .int .i64 x6_7.id, .int .i64 x6_7.kind, .int .i64 x6_7.src, .int .i64 x6_7.dst, .int .i64 x6_7.car, .int .i64 x6_7.state, .int .i64 x6_7.owner, .int .i64 x6_7.born, .int .i64 0, .int .i64 0], rP (inNumV s2_4 v2_4 4 = (n3_1, s3_1, v3_1)), rP (inNumV s false 1 = (n2_4, s2_4, v2_4)), rB b2 50 [.int .i64 0, .int .i64 0, .int .i64 0, .int .i64 0, .int .i64 0, .int .i64 0, .int .i64 0, .int .i64 0, .int .i64 0, .int .i64 0, .int .i64 0, .int .i64 0]])) (ac0 : Act) (hz : ac0.tmps.size = 72) (so0 : ac0.eval (.tmp 0) = .string s) (so4 : ac0.eval (.tmp 4) = .pointer (some ⟨b11, 0, none⟩)) (so6 : ac0.eval (.tmp 6) = .string ((tellV (⟨n3_1, (⟨n3_1, x6_7, 0, 0⟩ : ChgV)⟩ : NoteV)).1)) (so7 : ac0.eval (.tmp 7) = .int .i64 ((tellV (⟨n3_1, (⟨n3_1, x6_7, 0, 0⟩ : ChgV)⟩ : NoteV)).2)) {QR : Exit → Act → World → Prop} (hfin : ∀ (ac1 : Act) (wz : World), ac1.tmps.size = 72 → ac1.defers = ac0.defers → (∀ t, ([58, 59, 60, 61, 62, 63, 64, 65, 66, 67, 68, 69] : List Nat).contains t = false → ac1.eval (.tmp t) = ac0.eval (.tmp t)) → ac1.eval (.tmp 69) = .bool (((((tellV (⟨n3_1, (⟨n3_1, x6_7, 0, 0⟩ : ChgV)⟩ : NoteV)).2) != 0) || (!(((tellV (⟨n3_1, (⟨n3_1, x6_7, 0, 0⟩ : ChgV)⟩ : NoteV)).1).toList == s.toList))) || (!((!((false || decide (1073741824 < (n3_1 : Int))) || g6_7)) && ((!v6_7) && s6_7.toList.isEmpty)))) →  Hid (Hp [] wa wz [rP (dCall (s4_4, v4_4) = (x6_7, g6_7, (s6_7, v6_7))), rB b11 109 [.pointer (some ⟨b1_1, 0, none⟩), .bool ((false || decide (1073741824 < (n3_1 : Int))) || g6_7)], rB b1_1 117 [.string s6_7, .bool v6_7], rP (inNumV s3_1 v3_1 1 = (n4_4, s4_4, v4_4)), rB b5 50 [.int .i64 n3_1, .int .i64 n3_1, .int .i64 x6_7.id, .int .i64 x6_7.kind, .int .i64 x6_7.src, .int .i64 x6_7.dst, .int .i64 x6_7.car, .int .i64 x6_7.state, .int .i64 x6_7.owner, .int .i64 x6_7.born, .int .i64 0, .int .i64 0], rP (inNumV s2_4 v2_4 4 = (n3_1, s3_1, v3_1)), rP (inNumV s false 1 = (n2_4, s2_4, v2_4)), rB b2 50 [.int .i64 0, .int .i64 0, .int .i64 0, .int .i64 0, .int .i64 0, .int .i64 0, .int .i64 0, .int .i64 0, .int .i64 0, .int .i64 0, .int .i64 0, .int .i64 0]]) → QR .normal ac1 wz) : (regAt Try.f22 10).wp Try.prog QR ac0 wb := by
  refine wp_region_sq (by kernel_rfl) 72 hz (by kernel_rfl) (fun (xx : Unit) jx => nth [.int .i64 ((tellV (⟨n3_1, (⟨n3_1, x6_7, 0, 0⟩ : ChgV)⟩ : NoteV)).2), .bool (((tellV (⟨n3_1, (⟨n3_1, x6_7, 0, 0⟩ : ChgV)⟩ : NoteV)).2) != 0), .bool (((tellV (⟨n3_1, (⟨n3_1, x6_7, 0, 0⟩ : ChgV)⟩ : NoteV)).2) != 0), bif !(((tellV (⟨n3_1, (⟨n3_1, x6_7, 0, 0⟩ : ChgV)⟩ : NoteV)).2) != 0) then .string ((tellV (⟨n3_1, (⟨n3_1, x6_7, 0, 0⟩ : ChgV)⟩ : NoteV)).1) else undef, bif !(((tellV (⟨n3_1, (⟨n3_1, x6_7, 0, 0⟩ : ChgV)⟩ : NoteV)).2) != 0) then .string s else undef, bif !(((tellV (⟨n3_1, (⟨n3_1, x6_7, 0, 0⟩ : ChgV)⟩ : NoteV)).2) != 0) then .bool (!(((tellV (⟨n3_1, (⟨n3_1, x6_7, 0, 0⟩ : ChgV)⟩ : NoteV)).1).toList == s.toList)) else undef, .bool ((((tellV (⟨n3_1, (⟨n3_1, x6_7, 0, 0⟩ : ChgV)⟩ : NoteV)).2) != 0) || (!(((tellV (⟨n3_1, (⟨n3_1, x6_7, 0, 0⟩ : ChgV)⟩ : NoteV)).1).toList == s.toList))), .bool ((((tellV (⟨n3_1, (⟨n3_1, x6_7, 0, 0⟩ : ChgV)⟩ : NoteV)).2) != 0) || (!(((tellV (⟨n3_1, (⟨n3_1, x6_7, 0, 0⟩ : ChgV)⟩ : NoteV)).1).toList == s.toList))), bif !((((tellV (⟨n3_1, (⟨n3_1, x6_7, 0, 0⟩ : ChgV)⟩ : NoteV)).2) != 0) || (!(((tellV (⟨n3_1, (⟨n3_1, x6_7, 0, 0⟩ : ChgV)⟩ : NoteV)).1).toList == s.toList))) then .pointer (some ⟨b11, 0, none⟩) else undef, bif !((((tellV (⟨n3_1, (⟨n3_1, x6_7, 0, 0⟩ : ChgV)⟩ : NoteV)).2) != 0) || (!(((tellV (⟨n3_1, (⟨n3_1, x6_7, 0, 0⟩ : ChgV)⟩ : NoteV)).1).toList == s.toList))) then .bool ((!((false || decide (1073741824 < (n3_1 : Int))) || g6_7)) && ((!v6_7) && s6_7.toList.isEmpty)) else undef, bif !((((tellV (⟨n3_1, (⟨n3_1, x6_7, 0, 0⟩ : ChgV)⟩ : NoteV)).2) != 0) || (!(((tellV (⟨n3_1, (⟨n3_1, x6_7, 0, 0⟩ : ChgV)⟩ : NoteV)).1).toList == s.toList))) then .bool (!((!((false || decide (1073741824 < (n3_1 : Int))) || g6_7)) && ((!v6_7) && s6_7.toList.isEmpty))) else undef, .bool (((((tellV (⟨n3_1, (⟨n3_1, x6_7, 0, 0⟩ : ChgV)⟩ : NoteV)).2) != 0) || (!(((tellV (⟨n3_1, (⟨n3_1, x6_7, 0, 0⟩ : ChgV)⟩ : NoteV)).1).toList == s.toList))) || (!((!((false || decide (1073741824 < (n3_1 : Int))) || g6_7)) && ((!v6_7) && s6_7.toList.isEmpty))))] jx) (fun (LL : Nat → Bool) (xx : Unit) ww => Hp [] wa ww [rP (dCall (s4_4, v4_4) = (x6_7, g6_7, (s6_7, v6_7))), rB b11 109 [.pointer (some ⟨b1_1, 0, none⟩), .bool ((false || decide (1073741824 < (n3_1 : Int))) || g6_7)], rB b1_1 117 [.string s6_7, .bool v6_7], rP (inNumV s3_1 v3_1 1 = (n4_4, s4_4, v4_4)), rB b5 50 [.int .i64 n3_1, .int .i64 n3_1, .int .i64 x6_7.id, .int .i64 x6_7.kind, .int .i64 x6_7.src, .int .i64 x6_7.dst, .int .i64 x6_7.car, .int .i64 x6_7.state, .int .i64 x6_7.owner, .int .i64 x6_7.born, .int .i64 0, .int .i64 0], rP (inNumV s2_4 v2_4 4 = (n3_1, s3_1, v3_1)), rP (inNumV s false 1 = (n2_4, s2_4, v2_4)), rB b2 50 [.int .i64 0, .int .i64 0, .int .i64 0, .int .i64 0, .int .i64 0, .int .i64 0, .int .i64 0, .int .i64 0, .int .i64 0, .int .i64 0, .int .i64 0, .int .i64 0]]) () H.out ?_ (steps_al ?_) ?_ ?_
  · exact fun _ _ _ _ _ h => h
  · refine al_cons ?_ (al_cons ?_ (al_cons ?_ (al_cons ?_ (al_cons ?_ (al_cons ?_ (al_cons ?_ (al_cons ?_ (al_cons ?_ (al_cons ?_ (al_cons ?_ (al_cons ?_ (al_nil))))))))))))
    · intro LL xx ac wc sg hst hwant QQ hgo
      exact op_val hwant hgo hst _ (exec_move rfl ((sg.free 7 (by kernel_rfl)).trans so7)) rfl
    · intro LL xx ac wc sg hst hwant QQ hgo
      have se58 : ac.eval (.tmp 58) = _ := (sg.slot 0 (sg.anc 0 rfl))
      have sg58 := gt_of se58
      (try simp only [nth] at se58 sg58)
      exact op_val hwant hgo hst _ (by simp only [execOp, nth]; go_simp <;> omega) rfl
    · intro LL xx ac wc sg hst hwant QQ hgo
      exact op_val hwant hgo hst _ (exec_move rfl (sg.slot 1 (sg.anc 1 rfl))) rfl
    · intro LL xx ac wc sg hst hwant QQ hgo
      have hG : (!(((tellV (⟨n3_1, (⟨n3_1, x6_7, 0, 0⟩ : ChgV)⟩ : NoteV)).2) != 0)) = true := (want_f rfl rfl (sg.slot 2 (sg.anc 2 rfl))).symm.trans hwant
      exact op_val hwant hgo hst _ (exec_move rfl ((sg.free 6 (by kernel_rfl)).trans so6)) (cI hG)
    · intro LL xx ac wc sg hst hwant QQ hgo
      have hG : (!(((tellV (⟨n3_1, (⟨n3_1, x6_7, 0, 0⟩ : ChgV)⟩ : NoteV)).2) != 0)) = true := (want_f rfl rfl (sg.slot 2 (sg.anc 2 rfl))).symm.trans hwant
      exact op_val hwant hgo hst _ (exec_move rfl ((sg.free 0 (by kernel_rfl)).trans so0)) (cI hG)
    · intro LL xx ac wc sg hst hwant QQ hgo
      have hG : (!(((tellV (⟨n3_1, (⟨n3_1, x6_7, 0, 0⟩ : ChgV)⟩ : NoteV)).2) != 0)) = true := (want_f rfl rfl (sg.slot 2 (sg.anc 2 rfl))).symm.trans hwant
      have se61 : ac.eval (.tmp 61) = _ := (cT (sg.slot 3 (sg.anc 3 rfl)) hG)
      have sg61 := gt_of se61
      have se62 : ac.eval (.tmp 62) = _ := (cT (sg.slot 4 (sg.anc 4 rfl)) hG)
      have sg62 := gt_of se62
      (try simp only [nth] at se61 sg61 se62 sg62)
      exact op_val hwant hgo hst _ (by simp only [execOp, nth]; go_simp <;> omega) (cI hG)
    · intro LL xx ac wc sg hst hwant QQ hgo
      exact op_val hwant hgo hst (.bool ((((tellV (⟨n3_1, (⟨n3_1, x6_7, 0, 0⟩ : ChgV)⟩ : NoteV)).2) != 0) || (!(((tellV (⟨n3_1, (⟨n3_1, x6_7, 0, 0⟩ : ChgV)⟩ : NoteV)).1).toList == s.toList)))) (exec_or (Y := !(((tellV (⟨n3_1, (⟨n3_1, x6_7, 0, 0⟩ : ChgV)⟩ : NoteV)).1).toList == s.toList)) rfl (sg.slot 2 (sg.anc 2 rfl)) (fun qq => cT (sg.slot 5 (sg.anc 5 rfl)) (bk qq))) rfl
    · intro LL xx ac wc sg hst hwant QQ hgo
      exact op_val hwant hgo hst _ (exec_move rfl (sg.slot 6 (sg.anc 6 rfl))) rfl
    · intro LL xx ac wc sg hst hwant QQ hgo
      have hG : (!((((tellV (⟨n3_1, (⟨n3_1, x6_7, 0, 0⟩ : ChgV)⟩ : NoteV)).2) != 0) || (!(((tellV (⟨n3_1, (⟨n3_1, x6_7, 0, 0⟩ : ChgV)⟩ : NoteV)).1).toList == s.toList)))) = true := (want_f rfl rfl (sg.slot 7 (sg.anc 7 rfl))).symm.trans hwant
      exact op_val hwant hgo hst _ (exec_move rfl ((sg.free 4 (by kernel_rfl)).trans so4)) (cI hG)
    · intro LL xx ac wc sg hst hwant QQ hgo
      have hG : (!((((tellV (⟨n3_1, (⟨n3_1, x6_7, 0, 0⟩ : ChgV)⟩ : NoteV)).2) != 0) || (!(((tellV (⟨n3_1, (⟨n3_1, x6_7, 0, 0⟩ : ChgV)⟩ : NoteV)).1).toList == s.toList)))) = true := (want_f rfl rfl (sg.slot 7 (sg.anc 7 rfl))).symm.trans hwant
      have se66 : ac.eval (.tmp 66) = _ := (cT (sg.slot 8 (sg.anc 8 rfl)) hG)
      have sg66 := gt_of se66
      (try simp only [nth] at se66 sg66)
      have H := Lib.hid hst
      refine op_call hwant hgo 54 #[.pointer (some ⟨b11, 0, none⟩)] (by simp only [execOp]; go_simp) (endC b11 b1_1 ((false || decide (1073741824 < (n3_1 : Int))) || g6_7) s6_7 v6_7 wc (show (rB b11 109 [.pointer (some ⟨b1_1, 0, none⟩), .bool ((false || decide (1073741824 < (n3_1 : Int))) || g6_7)]).holds wc from H.out.holds _ (by (repeat (first | exact List.Mem.head _ | apply List.Mem.tail)))) (show (rB b1_1 117 [.string s6_7, .bool v6_7]).holds wc from H.out.holds _ (by (repeat (first | exact List.Mem.head _ | apply List.Mem.tail)))) (blk_ne H (i := 1) (j := 2) rfl rfl (by decide))) ?_
      rintro er wd ⟨rfl, hof⟩
      exact ⟨_, (), rfl, fun _ _ => rfl, (cI hG), Hp.quiet hst hof⟩
    · intro LL xx ac wc sg hst hwant QQ hgo
      have hG : (!((((tellV (⟨n3_1, (⟨n3_1, x6_7, 0, 0⟩ : ChgV)⟩ : NoteV)).2) != 0) || (!(((tellV (⟨n3_1, (⟨n3_1, x6_7, 0, 0⟩ : ChgV)⟩ : NoteV)).1).toList == s.toList)))) = true := (want_f rfl rfl (sg.slot 7 (sg.anc 7 rfl))).symm.trans hwant
      have se67 : ac.eval (.tmp 67) = _ := (cT (sg.slot 9 (sg.anc 9 rfl)) hG)
      have sg67 := gt_of se67
      (try simp only [nth] at se67 sg67)
      exact op_val hwant hgo hst _ (by simp only [execOp, nth]; go_simp <;> omega) (cI hG)
    · intro LL xx ac wc sg hst hwant QQ hgo
      exact op_val hwant hgo hst (.bool (((((tellV (⟨n3_1, (⟨n3_1, x6_7, 0, 0⟩ : ChgV)⟩ : NoteV)).2) != 0) || (!(((tellV (⟨n3_1, (⟨n3_1, x6_7, 0, 0⟩ : ChgV)⟩ : NoteV)).1).toList == s.toList))) || (!((!((false || decide (1073741824 < (n3_1 : Int))) || g6_7)) && ((!v6_7) && s6_7.toList.isEmpty))))) (exec_or (Y := !((!((false || decide (1073741824 < (n3_1 : Int))) || g6_7)) && ((!v6_7) && s6_7.toList.isEmpty))) rfl (sg.slot 7 (sg.anc 7 rfl)) (fun qq => cT (sg.slot 10 (sg.anc 10 rfl)) (bk qq))) rfl
  · refine skips [3, 4, 5, 8, 9, 10] (by kernel_rfl) ?_
    refine List.forall_mem_cons.2 ⟨?_, List.forall_mem_cons.2 ⟨?_, List.forall_mem_cons.2 ⟨?_, List.forall_mem_cons.2 ⟨?_, List.forall_mem_cons.2 ⟨?_, List.forall_mem_cons.2 ⟨?_, fun _ h => by cases h⟩⟩⟩⟩⟩⟩
    · intro oo hop LL xx ac sg hwant
      cases Option.some.inj hop
      have hG : (!(((tellV (⟨n3_1, (⟨n3_1, x6_7, 0, 0⟩ : ChgV)⟩ : NoteV)).2) != 0)) = false := (want_f rfl rfl (sg.slot 2 (sg.anc 2 rfl))).symm.trans hwant
      exact ⟨cF hG, fun _ h => h⟩
    · intro oo hop LL xx ac sg hwant
      cases Option.some.inj hop
      have hG : (!(((tellV (⟨n3_1, (⟨n3_1, x6_7, 0, 0⟩ : ChgV)⟩ : NoteV)).2) != 0)) = false := (want_f rfl rfl (sg.slot 2 (sg.anc 2 rfl))).symm.trans hwant
      exact ⟨cF hG, fun _ h => h⟩
    · intro oo hop LL xx ac sg hwant
      cases Option.some.inj hop
      have hG : (!(((tellV (⟨n3_1, (⟨n3_1, x6_7, 0, 0⟩ : ChgV)⟩ : NoteV)).2) != 0)) = false := (want_f rfl rfl (sg.slot 2 (sg.anc 2 rfl))).symm.trans hwant
      exact ⟨cF hG, fun _ h => h⟩
    · intro oo hop LL xx ac sg hwant
      cases Option.some.inj hop
      have hG : (!((((tellV (⟨n3_1, (⟨n3_1, x6_7, 0, 0⟩ : ChgV)⟩ : NoteV)).2) != 0) || (!(((tellV (⟨n3_1, (⟨n3_1, x6_7, 0, 0⟩ : ChgV)⟩ : NoteV)).1).toList == s.toList)))) = false := (want_f rfl rfl (sg.slot 7 (sg.anc 7 rfl))).symm.trans hwant
      exact ⟨cF hG, fun _ h => h⟩
    · intro oo hop LL xx ac sg hwant
      cases Option.some.inj hop
      have hG : (!((((tellV (⟨n3_1, (⟨n3_1, x6_7, 0, 0⟩ : ChgV)⟩ : NoteV)).2) != 0) || (!(((tellV (⟨n3_1, (⟨n3_1, x6_7, 0, 0⟩ : ChgV)⟩ : NoteV)).1).toList == s.toList)))) = false := (want_f rfl rfl (sg.slot 7 (sg.anc 7 rfl))).symm.trans hwant
      exact ⟨cF hG, fun _ h => h⟩
    · intro oo hop LL xx ac sg hwant
      cases Option.some.inj hop
      have hG : (!((((tellV (⟨n3_1, (⟨n3_1, x6_7, 0, 0⟩ : ChgV)⟩ : NoteV)).2) != 0) || (!(((tellV (⟨n3_1, (⟨n3_1, x6_7, 0, 0⟩ : ChgV)⟩ : NoteV)).1).toList == s.toList)))) = false := (want_f rfl rfl (sg.slot 7 (sg.anc 7 rfl))).symm.trans hwant
      exact ⟨cF hG, fun _ h => h⟩
  · intro xx ac1 wz hfr hsl hst
    exact hfin ac1 wz (hfr.size.trans hz) hfr.defers (fr_keep hfr [58, 59, 60, 61, 62, 63, 64, 65, 66, 67, 68, 69] (by kernel_rfl)) (hsl 11 (by decide)) (Lib.hid hst)
set_option maxHeartbeats 4000000 in
set_option maxRecDepth 20000 in
theorem toldC_r8 (s : ByteArray) (b2 : Nat) (b1_1 : Nat) (b11 : Nat) (n2_4 : Nat) (s2_4 : ByteArray) (v2_4 : Bool) (n3_1 : Nat) (s3_1 : ByteArray) (v3_1 : Bool) (b5 : Nat) (n4_4 : Nat) (s4_4 : ByteArray) (v4_4 : Bool) {wa wb : World} (H : Hid (Hp [] wa wb [rP (inNumV s3_1 v3_1 1 = (n4_4, s4_4, v4_4)), rB b5 50 [.int .i64 n3_1, .int .i64 0, .int .i64 0, .int .i64 0, .int .i64 0, .int .i64 0, .int .i64 0, .int .i64 0, .int .i64 0, .int .i64 0, .int .i64 0, .int .i64 0], rP (inNumV s2_4 v2_4 4 = (n3_1, s3_1, v3_1)), rB b11 109 [.pointer (some ⟨b1_1, 0, none⟩), .bool (false || decide (1073741824 < (n3_1 : Int)))], rB b1_1 117 [.string s4_4, .bool v4_4], rP (inNumV s false 1 = (n2_4, s2_4, v2_4)), rB b2 50 [.int .i64 0, .int .i64 0, .int .i64 0, .int .i64 0, .int .i64 0, .int .i64 0, .int .i64 0, .int .i64 0, .int .i64 0, .int .i64 0, .int .i64 0, .int .i64 0]])) (ac0 : Act) (hz : ac0.tmps.size = 72) (so4 : ac0.eval (.tmp 4) = .pointer (some ⟨b11, 0, none⟩)) (so5 : ac0.eval (.tmp 5) = .pointer (some ⟨b5, 0, none⟩)) {QR : Exit → Act → World → Prop} (hfin : ∀ (n8_6 : Nat) (s8_6 : ByteArray) (v8_6 : Bool) (n8_11 : Nat) (s8_11 : ByteArray) (v8_11 : Bool) (ac1 : Act) (wz : World), ac1.tmps.size = 72 → ac1.defers = ac0.defers → (∀ t, ([39, 40, 41, 42, 43, 44, 45, 46, 47, 48, 49, 50, 51, 52] : List Nat).contains t = false → ac1.eval (.tmp t) = ac0.eval (.tmp t)) →  Hid (Hp [] wa wz [rP (inNumV s8_6 v8_6 1 = (n8_11, s8_11, v8_11)), rP (inNumV s4_4 v4_4 1 = (n8_6, s8_6, v8_6)), rP (inNumV s3_1 v3_1 1 = (n4_4, s4_4, v4_4)), rB b5 50 [.int .i64 n3_1, .int .i64 n3_1, .int .i64 0, .int .i64 0, .int .i64 0, .int .i64 0, .int .i64 0, .int .i64 0, .int .i64 0, .int .i64 0, .int .i64 n8_6, .int .i64 n8_11], rP (inNumV s2_4 v2_4 4 = (n3_1, s3_1, v3_1)), rB b11 109 [.pointer (some ⟨b1_1, 0, none⟩), .bool (false || decide (1073741824 < (n3_1 : Int)))], rB b1_1 117 [.string s8_11, .bool v8_11], rP (inNumV s false 1 = (n2_4, s2_4, v2_4)), rB b2 50 [.int .i64 0, .int .i64 0, .int .i64 0, .int .i64 0, .int .i64 0, .int .i64 0, .int .i64 0, .int .i64 0, .int .i64 0, .int .i64 0, .int .i64 0, .int .i64 0]]) → QR .normal ac1 wz) : (regAt Try.f22 8).wp Try.prog QR ac0 wb := by
  refine wp_region_st mixedP ⟨[0, 1, 0, 1, 2, 3, 4, 0, 1, 2, 3, 5, 6, 7, 8], by kernel_rfl⟩ [[], [0], [], [2], [2, 3], [2, 3, 4], [2, 3, 4, 5], [], [7], [7, 8], [7, 8, 9], [2, 3, 4, 5, 6, 7, 8, 9, 10], [0, 1, 2, 3, 4, 5, 6, 7, 8, 9, 10, 11], [0, 1, 2, 3, 4, 5, 6, 7, 8, 9, 10, 11, 12], [0, 1, 2, 3, 4, 5, 6, 7, 8, 9, 10, 11, 12, 13]] (by kernel_rfl) (by kernel_rfl) 72 hz (by kernel_rfl) (fun (xx : Nat × ByteArray × Bool × Nat × ByteArray × Bool) jx => match xx with | (n8_6, s8_6, v8_6, n8_11, s8_11, v8_11) => nth [.pointer (some ⟨b5, 0, none⟩), .int .i64 n3_1, .pointer (some ⟨b11, 0, none⟩), .pointer (some ⟨b11, 0, none⟩), .pointer (some ⟨b11, 0, none⟩), .pointer (some ⟨b1_1, 0, none⟩), .int .i64 n8_6, .pointer (some ⟨b11, 0, none⟩), .pointer (some ⟨b11, 0, none⟩), .pointer (some ⟨b11, 0, none⟩), .pointer (some ⟨b1_1, 0, none⟩), .int .i64 n8_11, .agg #[.int .i64 n3_1, .int .i64 0, .int .i64 0, .int .i64 0, .int .i64 0, .int .i64 0, .int .i64 0, .int .i64 0, .int .i64 0, .int .i64 n8_6, .int .i64 n8_11], .pointer (some ⟨b5, 1, none⟩), undef] jx) (fun (LL : Nat → Bool) (xx : Nat × ByteArray × Bool × Nat × ByteArray × Bool) ww => match xx with | (n8_6, s8_6, v8_6, n8_11, s8_11, v8_11) => Hp [] wa ww (bif LL 6 then (bif LL 11 then (bif LL 14 then [rP (inNumV s8_6 v8_6 1 = (n8_11, s8_11, v8_11)), rP (inNumV s4_4 v4_4 1 = (n8_6, s8_6, v8_6)), rP (inNumV s3_1 v3_1 1 = (n4_4, s4_4, v4_4)), rB b5 50 [.int .i64 n3_1, .int .i64 n3_1, .int .i64 0, .int .i64 0, .int .i64 0, .int .i64 0, .int .i64 0, .int .i64 0, .int .i64 0, .int .i64 0, .int .i64 n8_6, .int .i64 n8_11], rP (inNumV s2_4 v2_4 4 = (n3_1, s3_1, v3_1)), rB b11 109 [.pointer (some ⟨b1_1, 0, none⟩), .bool (false || decide (1073741824 < (n3_1 : Int)))], rB b1_1 117 [.string s8_11, .bool v8_11], rP (inNumV s false 1 = (n2_4, s2_4, v2_4)), rB b2 50 [.int .i64 0, .int .i64 0, .int .i64 0, .int .i64 0, .int .i64 0, .int .i64 0, .int .i64 0, .int .i64 0, .int .i64 0, .int .i64 0, .int .i64 0, .int .i64 0]] else [rP (inNumV s8_6 v8_6 1 = (n8_11, s8_11, v8_11)), rP (inNumV s4_4 v4_4 1 = (n8_6, s8_6, v8_6)), rP (inNumV s3_1 v3_1 1 = (n4_4, s4_4, v4_4)), rB b5 50 [.int .i64 n3_1, .int .i64 0, .int .i64 0, .int .i64 0, .int .i64 0, .int .i64 0, .int .i64 0, .int .i64 0, .int .i64 0, .int .i64 0, .int .i64 0, .int .i64 0], rP (inNumV s2_4 v2_4 4 = (n3_1, s3_1, v3_1)), rB b11 109 [.pointer (some ⟨b1_1, 0, none⟩), .bool (false || decide (1073741824 < (n3_1 : Int)))], rB b1_1 117 [.string s8_11, .bool v8_11], rP (inNumV s false 1 = (n2_4, s2_4, v2_4)), rB b2 50 [.int .i64 0, .int .i64 0, .int .i64 0, .int .i64 0, .int .i64 0, .int .i64 0, .int .i64 0, .int .i64 0, .int .i64 0, .int .i64 0, .int .i64 0, .int .i64 0]]) else [rP (inNumV s4_4 v4_4 1 = (n8_6, s8_6, v8_6)), rP (inNumV s3_1 v3_1 1 = (n4_4, s4_4, v4_4)), rB b5 50 [.int .i64 n3_1, .int .i64 0, .int .i64 0, .int .i64 0, .int .i64 0, .int .i64 0, .int .i64 0, .int .i64 0, .int .i64 0, .int .i64 0, .int .i64 0, .int .i64 0], rP (inNumV s2_4 v2_4 4 = (n3_1, s3_1, v3_1)), rB b11 109 [.pointer (some ⟨b1_1, 0, none⟩), .bool (false || decide (1073741824 < (n3_1 : Int)))], rB b1_1 117 [.string s8_6, .bool v8_6], rP (inNumV s false 1 = (n2_4, s2_4, v2_4)), rB b2 50 [.int .i64 0, .int .i64 0, .int .i64 0, .int .i64 0, .int .i64 0, .int .i64 0, .int .i64 0, .int .i64 0, .int .i64 0, .int .i64 0, .int .i64 0, .int .i64 0]]) else [rP (inNumV s3_1 v3_1 1 = (n4_4, s4_4, v4_4)), rB b5 50 [.int .i64 n3_1, .int .i64 0, .int .i64 0, .int .i64 0, .int .i64 0, .int .i64 0, .int .i64 0, .int .i64 0, .int .i64 0, .int .i64 0, .int .i64 0, .int .i64 0], rP (inNumV s2_4 v2_4 4 = (n3_1, s3_1, v3_1)), rB b11 109 [.pointer (some ⟨b1_1, 0, none⟩), .bool (false || decide (1073741824 < (n3_1 : Int)))], rB b1_1 117 [.string s4_4, .bool v4_4], rP (inNumV s false 1 = (n2_4, s2_4, v2_4)), rB b2 50 [.int .i64 0, .int .i64 0, .int .i64 0, .int .i64 0, .int .i64 0, .int .i64 0, .int .i64 0, .int .i64 0, .int .i64 0, .int .i64 0, .int .i64 0, .int .i64 0]])) (default, default, default, default, default, default) H.out.drew ?_ (steps_al ?_) ?_ ?_
  · intro L1 L2 xx ww hL sg
    have lh6 := hL 6 (by decide)
    have lh11 := hL 11 (by decide)
    have lh14 := hL 14 (by decide)
    simp only [lh6, lh11, lh14] at sg
    exact sg
  · refine al_cons ?_ (al_cons ?_ (al_cons ?_ (al_cons ?_ (al_cons ?_ (al_cons ?_ (al_cons ?_ (al_cons ?_ (al_cons ?_ (al_cons ?_ (al_cons ?_ (al_cons ?_ (al_cons ?_ (al_cons ?_ (al_cons ?_ (al_nil)))))))))))))))
    · intro LL xx ac wc sg hst hwant QQ hgo
      obtain ⟨n8_6, s8_6, v8_6, n8_11, s8_11, v8_11⟩ := xx
      have se5 : ac.eval (.tmp 5) = _ := ((sg.free 5 (by kernel_rfl)).trans so5)
      have sg5 := gt_of se5
      exact op_val hwant hgo hst _ (by simp only [execOp, nth]; go_simp <;> omega) rfl
    · intro LL xx ac wc sg hst hwant QQ hgo
      obtain ⟨n8_6, s8_6, v8_6, n8_11, s8_11, v8_11⟩ := xx
      rcases Bool.eq_false_or_eq_true (LL 6) with lh6 | lh6
      · skip
        rcases Bool.eq_false_or_eq_true (LL 11) with lh11 | lh11
        · skip
          have H := Lib.hid hst
          simp only [lh6, lh11, sg.des 14 rfl, cond_true, cond_false] at H
          refine hpA_load1 tyint H rfl (sg.slot 0 (sg.anc 0 rfl)) hwant (by (repeat (first | exact List.Mem.head _ | apply List.Mem.tail))) (by rfl) ?_
          exact hgo _ (n8_6, s8_6, v8_6, n8_11, s8_11, v8_11) _ (fun _ _ => rfl) rfl hst
        · skip
          have H := Lib.hid hst
          simp only [lh6, lh11, sg.des 14 rfl, cond_true, cond_false] at H
          refine hpA_load1 tyint H rfl (sg.slot 0 (sg.anc 0 rfl)) hwant (by (repeat (first | exact List.Mem.head _ | apply List.Mem.tail))) (by rfl) ?_
          exact hgo _ (n8_6, s8_6, v8_6, n8_11, s8_11, v8_11) _ (fun _ _ => rfl) rfl hst
      · skip
        rcases Bool.eq_false_or_eq_true (LL 11) with lh11 | lh11
        · skip
          exact absurd (sg.down 11 6 lh11 rfl) (by rw [lh6]; decide)
        · skip
          have H := Lib.hid hst
          simp only [lh6, lh11, sg.des 14 rfl, cond_true, cond_false] at H
          refine hpA_load1 tyint H rfl (sg.slot 0 (sg.anc 0 rfl)) hwant (by (repeat (first | exact List.Mem.head _ | apply List.Mem.tail))) (by rfl) ?_
          exact hgo _ (n8_6, s8_6, v8_6, n8_11, s8_11, v8_11) _ (fun _ _ => rfl) rfl hst
    · intro LL xx ac wc sg hst hwant QQ hgo
      obtain ⟨n8_6, s8_6, v8_6, n8_11, s8_11, v8_11⟩ := xx
      exact op_val hwant hgo hst _ (exec_move rfl ((sg.free 4 (by kernel_rfl)).trans so4)) rfl
    · intro LL xx ac wc sg hst hwant QQ hgo
      obtain ⟨n8_6, s8_6, v8_6, n8_11, s8_11, v8_11⟩ := xx
      have se41 : ac.eval (.tmp 41) = _ := (sg.slot 2 (sg.anc 2 rfl))
      have sg41 := gt_of se41
      (try simp only [nth] at se41 sg41)
      exact op_val hwant hgo hst _ (by simp only [execOp, nth]; go_simp <;> omega) rfl
    · intro LL xx ac wc sg hst hwant QQ hgo
      obtain ⟨n8_6, s8_6, v8_6, n8_11, s8_11, v8_11⟩ := xx
      have se42 : ac.eval (.tmp 42) = _ := (sg.slot 3 (sg.anc 3 rfl))
      have sg42 := gt_of se42
      (try simp only [nth] at se42 sg42)
      exact op_val hwant hgo hst _ (by simp only [execOp, nth]; go_simp <;> omega) rfl
    · intro LL xx ac wc sg hst hwant QQ hgo
      obtain ⟨n8_6, s8_6, v8_6, n8_11, s8_11, v8_11⟩ := xx
      have H := Lib.hid hst
      simp only [sg.des 6 rfl, sg.des 11 rfl, sg.des 14 rfl, cond_true, cond_false] at H
      refine hpA_load1 tyP_pack_In H rfl (sg.slot 4 (sg.anc 4 rfl)) hwant (by (repeat (first | exact List.Mem.head _ | apply List.Mem.tail))) (by rfl) ?_
      exact hgo _ (n8_6, s8_6, v8_6, n8_11, s8_11, v8_11) _ (fun _ _ => rfl) rfl hst
    · intro LL xx ac wc sg hst hwant QQ hgo
      obtain ⟨_, _, _, n8_11, s8_11, v8_11⟩ := xx
      have se44 : ac.eval (.tmp 44) = _ := (sg.slot 5 (sg.anc 5 rfl))
      have sg44 := gt_of se44
      (try simp only [nth] at se44 sg44)
      have H := Lib.hid hst
      simp only [sg.self, sg.des 11 rfl, sg.des 14 rfl, cond_true, cond_false] at H
      refine op_call hwant hgo 41 #[.pointer (some ⟨b1_1, 0, none⟩), .int .i64 1] (by simp only [execOp]; go_simp) (inNumXH H (i := 4) (n := 1) rfl) ?_
      rintro er wd ⟨n8_6, s8_6, v8_6, rfl, hq1, H2⟩
      replace H2 := hp_fact H2 hq1
      exact ⟨_, (n8_6, s8_6, v8_6, n8_11, s8_11, v8_11), rfl, (sg.agree (x' := (n8_6, s8_6, v8_6, n8_11, s8_11, v8_11)) (n := 15) rfl (by (iterate 15 (refine ix_cons (by first | exact fun _ => rfl | exact no sg.self | exact no (sg.des _ rfl)) ?_)); exact ix_nil)), rfl, (by simp only [(show upd LL 6 6 = true from rfl), (show upd LL 6 11 = LL 11 from rfl), sg.des 11 rfl, (show upd LL 6 14 = LL 14 from rfl), sg.des 14 rfl, cond_true, cond_false]; exact H2.out)⟩
    · intro LL xx ac wc sg hst hwant QQ hgo
      obtain ⟨n8_6, s8_6, v8_6, n8_11, s8_11, v8_11⟩ := xx
      exact op_val hwant hgo hst _ (exec_move rfl ((sg.free 4 (by kernel_rfl)).trans so4)) rfl
    · intro LL xx ac wc sg hst hwant QQ hgo
      obtain ⟨n8_6, s8_6, v8_6, n8_11, s8_11, v8_11⟩ := xx
      have se46 : ac.eval (.tmp 46) = _ := (sg.slot 7 (sg.anc 7 rfl))
      have sg46 := gt_of se46
      (try simp only [nth] at se46 sg46)
      exact op_val hwant hgo hst _ (by simp only [execOp, nth]; go_simp <;> omega) rfl
    · intro LL xx ac wc sg hst hwant QQ hgo
      obtain ⟨n8_6, s8_6, v8_6, n8_11, s8_11, v8_11⟩ := xx
      have se47 : ac.eval (.tmp 47) = _ := (sg.slot 8 (sg.anc 8 rfl))
      have sg47 := gt_of se47
      (try simp only [nth] at se47 sg47)
      exact op_val hwant hgo hst _ (by simp only [execOp, nth]; go_simp <;> omega) rfl
    · intro LL xx ac wc sg hst hwant QQ hgo
      obtain ⟨n8_6, s8_6, v8_6, n8_11, s8_11, v8_11⟩ := xx
      rcases Bool.eq_false_or_eq_true (LL 6) with lh6 | lh6
      · skip
        have H := Lib.hid hst
        simp only [lh6, sg.des 11 rfl, sg.des 14 rfl, cond_true, cond_false] at H
        refine hpA_load1 tyP_pack_In H rfl (sg.slot 9 (sg.anc 9 rfl)) hwant (by (repeat (first | exact List.Mem.head _ | apply List.Mem.tail))) (by rfl) ?_
        exact hgo _ (n8_6, s8_6, v8_6, n8_11, s8_11, v8_11) _ (fun _ _ => rfl) rfl hst
      · skip
        have H := Lib.hid hst
        simp only [lh6, sg.des 11 rfl, sg.des 14 rfl, cond_true, cond_false] at H
        refine hpA_load1 tyP_pack_In H rfl (sg.slot 9 (sg.anc 9 rfl)) hwant (by (repeat (first | exact List.Mem.head _ | apply List.Mem.tail))) (by rfl) ?_
        exact hgo _ (n8_6, s8_6, v8_6, n8_11, s8_11, v8_11) _ (fun _ _ => rfl) rfl hst
    · intro LL xx ac wc sg hst hwant QQ hgo
      obtain ⟨n8_6, s8_6, v8_6, _, _, _⟩ := xx
      have se49 : ac.eval (.tmp 49) = _ := (sg.slot 10 (sg.anc 10 rfl))
      have sg49 := gt_of se49
      (try simp only [nth] at se49 sg49)
      have H := Lib.hid hst
      simp only [sg.anc 6 rfl, sg.self, sg.des 14 rfl, cond_true, cond_false] at H
      refine op_call hwant hgo 41 #[.pointer (some ⟨b1_1, 0, none⟩), .int .i64 1] (by simp only [execOp]; go_simp) (inNumXH H (i := 5) (n := 1) rfl) ?_
      rintro er wd ⟨n8_11, s8_11, v8_11, rfl, hq1, H2⟩
      replace H2 := hp_fact H2 hq1
      exact ⟨_, (n8_6, s8_6, v8_6, n8_11, s8_11, v8_11), rfl, (sg.agree (x' := (n8_6, s8_6, v8_6, n8_11, s8_11, v8_11)) (n := 15) rfl (by (iterate 15 (refine ix_cons (by first | exact fun _ => rfl | exact no sg.self | exact no (sg.des _ rfl)) ?_)); exact ix_nil)), rfl, (by simp only [(show upd LL 11 6 = LL 6 from rfl), sg.anc 6 rfl, (show upd LL 11 11 = true from rfl), (show upd LL 11 14 = LL 14 from rfl), sg.des 14 rfl, cond_true, cond_false]; exact H2.out)⟩
    · intro LL xx ac wc sg hst hwant QQ hgo
      obtain ⟨n8_6, s8_6, v8_6, n8_11, s8_11, v8_11⟩ := xx
      have se40 : ac.eval (.tmp 40) = _ := (sg.slot 1 (sg.anc 1 rfl))
      have sg40 := gt_of se40
      have se45 : ac.eval (.tmp 45) = _ := (sg.slot 6 (sg.anc 6 rfl))
      have sg45 := gt_of se45
      have se50 : ac.eval (.tmp 50) = _ := (sg.slot 11 (sg.anc 11 rfl))
      have sg50 := gt_of se50
      (try simp only [nth] at se40 sg40 se45 sg45 se50 sg50)
      exact op_val hwant hgo hst _ (by simp only [execOp, nth]; go_simp <;> omega) rfl
    · intro LL xx ac wc sg hst hwant QQ hgo
      obtain ⟨n8_6, s8_6, v8_6, n8_11, s8_11, v8_11⟩ := xx
      have se5 : ac.eval (.tmp 5) = _ := ((sg.free 5 (by kernel_rfl)).trans so5)
      have sg5 := gt_of se5
      exact op_val hwant hgo hst _ (by simp only [execOp, nth]; go_simp <;> omega) rfl
    · intro LL xx ac wc sg hst hwant QQ hgo
      obtain ⟨n8_6, s8_6, v8_6, n8_11, s8_11, v8_11⟩ := xx
      have H := Lib.hid hst
      simp only [sg.anc 6 rfl, sg.anc 11 rfl, sg.self, cond_true, cond_false] at H
      refine hpA_store tyapi_Change H rfl rfl (sg.slot 13 (sg.anc 13 rfl)) (sg.slot 12 (sg.anc 12 rfl)) rfl (by repeat (first | apply Put.head | apply Put.tail)) (by simp [List.length_cons]) (by simp [List.length_cons, Value.oneCell']) (by first | rfl | (simp only [spl]; rfl)) rfl ?_
      intro wd H2
      exact hgo _ (n8_6, s8_6, v8_6, n8_11, s8_11, v8_11) _ (sg.agree (x' := (n8_6, s8_6, v8_6, n8_11, s8_11, v8_11)) (n := 15) rfl (by (iterate 15 (refine ix_cons (by first | exact fun _ => rfl | exact no sg.self | exact no (sg.des _ rfl)) ?_)); exact ix_nil)) rfl (by simp only [(show upd LL 14 6 = LL 6 from rfl), sg.anc 6 rfl, (show upd LL 14 11 = LL 11 from rfl), sg.anc 11 rfl, (show upd LL 14 14 = true from rfl), cond_true, cond_false]; exact H2.out)
  · exact skips [] (by kernel_rfl) (fun _ h => by cases h)
  · intro xx ac1 wz hfr hsl hst
    obtain ⟨n8_6, s8_6, v8_6, n8_11, s8_11, v8_11⟩ := xx
    exact hfin n8_6 s8_6 v8_6 n8_11 s8_11 v8_11 ac1 wz (hfr.size.trans hz) hfr.defers (fr_keep hfr [39, 40, 41, 42, 43, 44, 45, 46, 47, 48, 49, 50, 51, 52] (by kernel_rfl)) (Lib.hid hst)
set_option maxHeartbeats 4000000 in
set_option maxRecDepth 20000 in
theorem toldC_r10x1 (s : ByteArray) (b2 : Nat) (b1_1 : Nat) (b11 : Nat) (n2_4 : Nat) (s2_4 : ByteArray) (v2_4 : Bool) (n3_1 : Nat) (s3_1 : ByteArray) (v3_1 : Bool) (b5 : Nat) (n4_4 : Nat) (s4_4 : ByteArray) (v4_4 : Bool) (n8_6 : Nat) (s8_6 : ByteArray) (v8_6 : Bool) (n8_11 : Nat) (s8_11 : ByteArray) (v8_11 : Bool) {wa wb : World} (H : Hid (Hp [] wa wb [rP (inNumV s8_6 v8_6 1 = (n8_11, s8_11, v8_11)), rP (inNumV s4_4 v4_4 1 = (n8_6, s8_6, v8_6)), rP (inNumV s3_1 v3_1 1 = (n4_4, s4_4, v4_4)), rB b5 50 [.int .i64 n3_1, .int .i64 n3_1, .int .i64 0, .int .i64 0, .int .i64 0, .int .i64 0, .int .i64 0, .int .i64 0, .int .i64 0, .int .i64 0, .int .i64 n8_6, .int .i64 n8_11], rP (inNumV s2_4 v2_4 4 = (n3_1, s3_1, v3_1)), rB b11 109 [.pointer (some ⟨b1_1, 0, none⟩), .bool (false || decide (1073741824 < (n3_1 : Int)))], rB b1_1 117 [.string s8_11, .bool v8_11], rP (inNumV s false 1 = (n2_4, s2_4, v2_4)), rB b2 50 [.int .i64 0, .int .i64 0, .int .i64 0, .int .i64 0, .int .i64 0, .int .i64 0, .int .i64 0, .int .i64 0, .int .i64 0, .int .i64 0, .int .i64 0, .int .i64 0]])) (ac0 : Act) (hz : ac0.tmps.size = 72) (so0 : ac0.eval (.tmp 0) = .string s) (so4 : ac0.eval (.tmp 4) = .pointer (some ⟨b11, 0, none⟩)) (so6 : ac0.eval (.tmp 6) = .string ((tellV (⟨n3_1, (⟨n3_1, (⟨0, 0, 0, 0, 0, 0, 0, 0⟩ : CallV), n8_6, n8_11⟩ : ChgV)⟩ : NoteV)).1)) (so7 : ac0.eval (.tmp 7) = .int .i64 ((tellV (⟨n3_1, (⟨n3_1, (⟨0, 0, 0, 0, 0, 0, 0, 0⟩ : CallV), n8_6, n8_11⟩ : ChgV)⟩ : NoteV)).2)) {QR : Exit → Act → World → Prop} (hfin : ∀ (ac1 : Act) (wz : World), ac1.tmps.size = 72 → ac1.defers = ac0.defers → (∀ t, ([58, 59, 60, 61, 62, 63, 64, 65, 66, 67, 68, 69] : List Nat).contains t = false → ac1.eval (.tmp t) = ac0.eval (.tmp t)) → ac1.eval (.tmp 69) = .bool (((((tellV (⟨n3_1, (⟨n3_1, (⟨0, 0, 0, 0, 0, 0, 0, 0⟩ : CallV), n8_6, n8_11⟩ : ChgV)⟩ : NoteV)).2) != 0) || (!(((tellV (⟨n3_1, (⟨n3_1, (⟨0, 0, 0, 0, 0, 0, 0, 0⟩ : CallV), n8_6, n8_11⟩ : ChgV)⟩ : NoteV)).1).toList == s.toList))) || (!((!(false || decide (1073741824 < (n3_1 : Int)))) && ((!v8_11) && s8_11.toList.isEmpty)))) →  Hid (Hp [] wa wz [rP (inNumV s8_6 v8_6 1 = (n8_11, s8_11, v8_11)), rP (inNumV s4_4 v4_4 1 = (n8_6, s8_6, v8_6)), rP (inNumV s3_1 v3_1 1 = (n4_4, s4_4, v4_4)), rB b5 50 [.int .i64 n3_1, .int .i64 n3_1, .int .i64 0, .int .i64 0, .int .i64 0, .int .i64 0, .int .i64 0, .int .i64 0, .int .i64 0, .int .i64 0, .int .i64 n8_6, .int .i64 n8_11], rP (inNumV s2_4 v2_4 4 = (n3_1, s3_1, v3_1)), rB b11 109 [.pointer (some ⟨b1_1, 0, none⟩), .bool (false || decide (1073741824 < (n3_1 : Int)))], rB b1_1 117 [.string s8_11, .bool v8_11], rP (inNumV s false 1 = (n2_4, s2_4, v2_4)), rB b2 50 [.int .i64 0, .int .i64 0, .int .i64 0, .int .i64 0, .int .i64 0, .int .i64 0, .int .i64 0, .int .i64 0, .int .i64 0, .int .i64 0, .int .i64 0, .int .i64 0]]) → QR .normal ac1 wz) : (regAt Try.f22 10).wp Try.prog QR ac0 wb := by
  refine wp_region_sq (by kernel_rfl) 72 hz (by kernel_rfl) (fun (xx : Unit) jx => nth [.int .i64 ((tellV (⟨n3_1, (⟨n3_1, (⟨0, 0, 0, 0, 0, 0, 0, 0⟩ : CallV), n8_6, n8_11⟩ : ChgV)⟩ : NoteV)).2), .bool (((tellV (⟨n3_1, (⟨n3_1, (⟨0, 0, 0, 0, 0, 0, 0, 0⟩ : CallV), n8_6, n8_11⟩ : ChgV)⟩ : NoteV)).2) != 0), .bool (((tellV (⟨n3_1, (⟨n3_1, (⟨0, 0, 0, 0, 0, 0, 0, 0⟩ : CallV), n8_6, n8_11⟩ : ChgV)⟩ : NoteV)).2) != 0), bif !(((tellV (⟨n3_1, (⟨n3_1, (⟨0, 0, 0, 0, 0, 0, 0, 0⟩ : CallV), n8_6, n8_11⟩ : ChgV)⟩ : NoteV)).2) != 0) then .string ((tellV (⟨n3_1, (⟨n3_1, (⟨0, 0, 0, 0, 0, 0, 0, 0⟩ : CallV), n8_6, n8_11⟩ : ChgV)⟩ : NoteV)).1) else undef, bif !(((tellV (⟨n3_1, (⟨n3_1, (⟨0, 0, 0, 0, 0, 0, 0, 0⟩ : CallV), n8_6, n8_11⟩ : ChgV)⟩ : NoteV)).2) != 0) then .string s else undef, bif !(((tellV (⟨n3_1, (⟨n3_1, (⟨0, 0, 0, 0, 0, 0, 0, 0⟩ : CallV), n8_6, n8_11⟩ : ChgV)⟩ : NoteV)).2) != 0) then .bool (!(((tellV (⟨n3_1, (⟨n3_1, (⟨0, 0, 0, 0, 0, 0, 0, 0⟩ : CallV), n8_6, n8_11⟩ : ChgV)⟩ : NoteV)).1).toList == s.toList)) else undef, .bool ((((tellV (⟨n3_1, (⟨n3_1, (⟨0, 0, 0, 0, 0, 0, 0, 0⟩ : CallV), n8_6, n8_11⟩ : ChgV)⟩ : NoteV)).2) != 0) || (!(((tellV (⟨n3_1, (⟨n3_1, (⟨0, 0, 0, 0, 0, 0, 0, 0⟩ : CallV), n8_6, n8_11⟩ : ChgV)⟩ : NoteV)).1).toList == s.toList))), .bool ((((tellV (⟨n3_1, (⟨n3_1, (⟨0, 0, 0, 0, 0, 0, 0, 0⟩ : CallV), n8_6, n8_11⟩ : ChgV)⟩ : NoteV)).2) != 0) || (!(((tellV (⟨n3_1, (⟨n3_1, (⟨0, 0, 0, 0, 0, 0, 0, 0⟩ : CallV), n8_6, n8_11⟩ : ChgV)⟩ : NoteV)).1).toList == s.toList))), bif !((((tellV (⟨n3_1, (⟨n3_1, (⟨0, 0, 0, 0, 0, 0, 0, 0⟩ : CallV), n8_6, n8_11⟩ : ChgV)⟩ : NoteV)).2) != 0) || (!(((tellV (⟨n3_1, (⟨n3_1, (⟨0, 0, 0, 0, 0, 0, 0, 0⟩ : CallV), n8_6, n8_11⟩ : ChgV)⟩ : NoteV)).1).toList == s.toList))) then .pointer (some ⟨b11, 0, none⟩) else undef, bif !((((tellV (⟨n3_1, (⟨n3_1, (⟨0, 0, 0, 0, 0, 0, 0, 0⟩ : CallV), n8_6, n8_11⟩ : ChgV)⟩ : NoteV)).2) != 0) || (!(((tellV (⟨n3_1, (⟨n3_1, (⟨0, 0, 0, 0, 0, 0, 0, 0⟩ : CallV), n8_6, n8_11⟩ : ChgV)⟩ : NoteV)).1).toList == s.toList))) then .bool ((!(false || decide (1073741824 < (n3_1 : Int)))) && ((!v8_11) && s8_11.toList.isEmpty)) else undef, bif !((((tellV (⟨n3_1, (⟨n3_1, (⟨0, 0, 0, 0, 0, 0, 0, 0⟩ : CallV), n8_6, n8_11⟩ : ChgV)⟩ : NoteV)).2) != 0) || (!(((tellV (⟨n3_1, (⟨n3_1, (⟨0, 0, 0, 0, 0, 0, 0, 0⟩ : CallV), n8_6, n8_11⟩ : ChgV)⟩ : NoteV)).1).toList == s.toList))) then .bool (!((!(false || decide (1073741824 < (n3_1 : Int)))) && ((!v8_11) && s8_11.toList.isEmpty))) else undef, .bool (((((tellV (⟨n3_1, (⟨n3_1, (⟨0, 0, 0, 0, 0, 0, 0, 0⟩ : CallV), n8_6, n8_11⟩ : ChgV)⟩ : NoteV)).2) != 0) || (!(((tellV (⟨n3_1, (⟨n3_1, (⟨0, 0, 0, 0, 0, 0, 0, 0⟩ : CallV), n8_6, n8_11⟩ : ChgV)⟩ : NoteV)).1).toList == s.toList))) || (!((!(false || decide (1073741824 < (n3_1 : Int)))) && ((!v8_11) && s8_11.toList.isEmpty))))] jx) (fun (LL : Nat → Bool) (xx : Unit) ww => Hp [] wa ww [rP (inNumV s8_6 v8_6 1 = (n8_11, s8_11, v8_11)), rP (inNumV s4_4 v4_4 1 = (n8_6, s8_6, v8_6)), rP (inNumV s3_1 v3_1 1 = (n4_4, s4_4, v4_4)), rB b5 50 [.int .i64 n3_1, .int .i64 n3_1, .int .i64 0, .int .i64 0, .int .i64 0, .int .i64 0, .int .i64 0, .int .i64 0, .int .i64 0, .int .i64 0, .int .i64 n8_6, .int .i64 n8_11], rP (inNumV s2_4 v2_4 4 = (n3_1, s3_1, v3_1)), rB b11 109 [.pointer (some ⟨b1_1, 0, none⟩), .bool (false || decide (1073741824 < (n3_1 : Int)))], rB b1_1 117 [.string s8_11, .bool v8_11], rP (inNumV s false 1 = (n2_4, s2_4, v2_4)), rB b2 50 [.int .i64 0, .int .i64 0, .int .i64 0, .int .i64 0, .int .i64 0, .int .i64 0, .int .i64 0, .int .i64 0, .int .i64 0, .int .i64 0, .int .i64 0, .int .i64 0]]) () H.out ?_ (steps_al ?_) ?_ ?_
  · exact fun _ _ _ _ _ h => h
  · refine al_cons ?_ (al_cons ?_ (al_cons ?_ (al_cons ?_ (al_cons ?_ (al_cons ?_ (al_cons ?_ (al_cons ?_ (al_cons ?_ (al_cons ?_ (al_cons ?_ (al_cons ?_ (al_nil))))))))))))
    · intro LL xx ac wc sg hst hwant QQ hgo
      exact op_val hwant hgo hst _ (exec_move rfl ((sg.free 7 (by kernel_rfl)).trans so7)) rfl
    · intro LL xx ac wc sg hst hwant QQ hgo
      have se58 : ac.eval (.tmp 58) = _ := (sg.slot 0 (sg.anc 0 rfl))
      have sg58 := gt_of se58
      (try simp only [nth] at se58 sg58)
      exact op_val hwant hgo hst _ (by simp only [execOp, nth]; go_simp <;> omega) rfl
    · intro LL xx ac wc sg hst hwant QQ hgo
      exact op_val hwant hgo hst _ (exec_move rfl (sg.slot 1 (sg.anc 1 rfl))) rfl
    · intro LL xx ac wc sg hst hwant QQ hgo
      have hG : (!(((tellV (⟨n3_1, (⟨n3_1, (⟨0, 0, 0, 0, 0, 0, 0, 0⟩ : CallV), n8_6, n8_11⟩ : ChgV)⟩ : NoteV)).2) != 0)) = true := (want_f rfl rfl (sg.slot 2 (sg.anc 2 rfl))).symm.trans hwant
      exact op_val hwant hgo hst _ (exec_move rfl ((sg.free 6 (by kernel_rfl)).trans so6)) (cI hG)
    · intro LL xx ac wc sg hst hwant QQ hgo
      have hG : (!(((tellV (⟨n3_1, (⟨n3_1, (⟨0, 0, 0, 0, 0, 0, 0, 0⟩ : CallV), n8_6, n8_11⟩ : ChgV)⟩ : NoteV)).2) != 0)) = true := (want_f rfl rfl (sg.slot 2 (sg.anc 2 rfl))).symm.trans hwant
      exact op_val hwant hgo hst _ (exec_move rfl ((sg.free 0 (by kernel_rfl)).trans so0)) (cI hG)
    · intro LL xx ac wc sg hst hwant QQ hgo
      have hG : (!(((tellV (⟨n3_1, (⟨n3_1, (⟨0, 0, 0, 0, 0, 0, 0, 0⟩ : CallV), n8_6, n8_11⟩ : ChgV)⟩ : NoteV)).2) != 0)) = true := (want_f rfl rfl (sg.slot 2 (sg.anc 2 rfl))).symm.trans hwant
      have se61 : ac.eval (.tmp 61) = _ := (cT (sg.slot 3 (sg.anc 3 rfl)) hG)
      have sg61 := gt_of se61
      have se62 : ac.eval (.tmp 62) = _ := (cT (sg.slot 4 (sg.anc 4 rfl)) hG)
      have sg62 := gt_of se62
      (try simp only [nth] at se61 sg61 se62 sg62)
      exact op_val hwant hgo hst _ (by simp only [execOp, nth]; go_simp <;> omega) (cI hG)
    · intro LL xx ac wc sg hst hwant QQ hgo
      exact op_val hwant hgo hst (.bool ((((tellV (⟨n3_1, (⟨n3_1, (⟨0, 0, 0, 0, 0, 0, 0, 0⟩ : CallV), n8_6, n8_11⟩ : ChgV)⟩ : NoteV)).2) != 0) || (!(((tellV (⟨n3_1, (⟨n3_1, (⟨0, 0, 0, 0, 0, 0, 0, 0⟩ : CallV), n8_6, n8_11⟩ : ChgV)⟩ : NoteV)).1).toList == s.toList)))) (exec_or (Y := !(((tellV (⟨n3_1, (⟨n3_1, (⟨0, 0, 0, 0, 0, 0, 0, 0⟩ : CallV), n8_6, n8_11⟩ : ChgV)⟩ : NoteV)).1).toList == s.toList)) rfl (sg.slot 2 (sg.anc 2 rfl)) (fun qq => cT (sg.slot 5 (sg.anc 5 rfl)) (bk qq))) rfl
    · intro LL xx ac wc sg hst hwant QQ hgo
      exact op_val hwant hgo hst _ (exec_move rfl (sg.slot 6 (sg.anc 6 rfl))) rfl
    · intro LL xx ac wc sg hst hwant QQ hgo
      have hG : (!((((tellV (⟨n3_1, (⟨n3_1, (⟨0, 0, 0, 0, 0, 0, 0, 0⟩ : CallV), n8_6, n8_11⟩ : ChgV)⟩ : NoteV)).2) != 0) || (!(((tellV (⟨n3_1, (⟨n3_1, (⟨0, 0, 0, 0, 0, 0, 0, 0⟩ : CallV), n8_6, n8_11⟩ : ChgV)⟩ : NoteV)).1).toList == s.toList)))) = true := (want_f rfl rfl (sg.slot 7 (sg.anc 7 rfl))).symm.trans hwant
      exact op_val hwant hgo hst _ (exec_move rfl ((sg.free 4 (by kernel_rfl)).trans so4)) (cI hG)
    · intro LL xx ac wc sg hst hwant QQ hgo
      have hG : (!((((tellV (⟨n3_1, (⟨n3_1, (⟨0, 0, 0, 0, 0, 0, 0, 0⟩ : CallV), n8_6, n8_11⟩ : ChgV)⟩ : NoteV)).2) != 0) || (!(((tellV (⟨n3_1, (⟨n3_1, (⟨0, 0, 0, 0, 0, 0, 0, 0⟩ : CallV), n8_6, n8_11⟩ : ChgV)⟩ : NoteV)).1).toList == s.toList)))) = true := (want_f rfl rfl (sg.slot 7 (sg.anc 7 rfl))).symm.trans hwant
      have se66 : ac.eval (.tmp 66) = _ := (cT (sg.slot 8 (sg.anc 8 rfl)) hG)
      have sg66 := gt_of se66
      (try simp only [nth] at se66 sg66)
      have H := Lib.hid hst
      refine op_call hwant hgo 54 #[.pointer (some ⟨b11, 0, none⟩)] (by simp only [execOp]; go_simp) (endC b11 b1_1 (false || decide (1073741824 < (n3_1 : Int))) s8_11 v8_11 wc (show (rB b11 109 [.pointer (some ⟨b1_1, 0, none⟩), .bool (false || decide (1073741824 < (n3_1 : Int)))]).holds wc from H.out.holds _ (by (repeat (first | exact List.Mem.head _ | apply List.Mem.tail)))) (show (rB b1_1 117 [.string s8_11, .bool v8_11]).holds wc from H.out.holds _ (by (repeat (first | exact List.Mem.head _ | apply List.Mem.tail)))) (blk_ne H (i := 5) (j := 6) rfl rfl (by decide))) ?_
      rintro er wd ⟨rfl, hof⟩
      exact ⟨_, (), rfl, fun _ _ => rfl, (cI hG), Hp.quiet hst hof⟩
    · intro LL xx ac wc sg hst hwant QQ hgo
      have hG : (!((((tellV (⟨n3_1, (⟨n3_1, (⟨0, 0, 0, 0, 0, 0, 0, 0⟩ : CallV), n8_6, n8_11⟩ : ChgV)⟩ : NoteV)).2) != 0) || (!(((tellV (⟨n3_1, (⟨n3_1, (⟨0, 0, 0, 0, 0, 0, 0, 0⟩ : CallV), n8_6, n8_11⟩ : ChgV)⟩ : NoteV)).1).toList == s.toList)))) = true := (want_f rfl rfl (sg.slot 7 (sg.anc 7 rfl))).symm.trans hwant
      have se67 : ac.eval (.tmp 67) = _ := (cT (sg.slot 9 (sg.anc 9 rfl)) hG)
      have sg67 := gt_of se67
      (try simp only [nth] at se67 sg67)
      exact op_val hwant hgo hst _ (by simp only [execOp, nth]; go_simp <;> omega) (cI hG)
    · intro LL xx ac wc sg hst hwant QQ hgo
      exact op_val hwant hgo hst (.bool (((((tellV (⟨n3_1, (⟨n3_1, (⟨0, 0, 0, 0, 0, 0, 0, 0⟩ : CallV), n8_6, n8_11⟩ : ChgV)⟩ : NoteV)).2) != 0) || (!(((tellV (⟨n3_1, (⟨n3_1, (⟨0, 0, 0, 0, 0, 0, 0, 0⟩ : CallV), n8_6, n8_11⟩ : ChgV)⟩ : NoteV)).1).toList == s.toList))) || (!((!(false || decide (1073741824 < (n3_1 : Int)))) && ((!v8_11) && s8_11.toList.isEmpty))))) (exec_or (Y := !((!(false || decide (1073741824 < (n3_1 : Int)))) && ((!v8_11) && s8_11.toList.isEmpty))) rfl (sg.slot 7 (sg.anc 7 rfl)) (fun qq => cT (sg.slot 10 (sg.anc 10 rfl)) (bk qq))) rfl
  · refine skips [3, 4, 5, 8, 9, 10] (by kernel_rfl) ?_
    refine List.forall_mem_cons.2 ⟨?_, List.forall_mem_cons.2 ⟨?_, List.forall_mem_cons.2 ⟨?_, List.forall_mem_cons.2 ⟨?_, List.forall_mem_cons.2 ⟨?_, List.forall_mem_cons.2 ⟨?_, fun _ h => by cases h⟩⟩⟩⟩⟩⟩
    · intro oo hop LL xx ac sg hwant
      cases Option.some.inj hop
      have hG : (!(((tellV (⟨n3_1, (⟨n3_1, (⟨0, 0, 0, 0, 0, 0, 0, 0⟩ : CallV), n8_6, n8_11⟩ : ChgV)⟩ : NoteV)).2) != 0)) = false := (want_f rfl rfl (sg.slot 2 (sg.anc 2 rfl))).symm.trans hwant
      exact ⟨cF hG, fun _ h => h⟩
    · intro oo hop LL xx ac sg hwant
      cases Option.some.inj hop
      have hG : (!(((tellV (⟨n3_1, (⟨n3_1, (⟨0, 0, 0, 0, 0, 0, 0, 0⟩ : CallV), n8_6, n8_11⟩ : ChgV)⟩ : NoteV)).2) != 0)) = false := (want_f rfl rfl (sg.slot 2 (sg.anc 2 rfl))).symm.trans hwant
      exact ⟨cF hG, fun _ h => h⟩
    · intro oo hop LL xx ac sg hwant
      cases Option.some.inj hop
      have hG : (!(((tellV (⟨n3_1, (⟨n3_1, (⟨0, 0, 0, 0, 0, 0, 0, 0⟩ : CallV), n8_6, n8_11⟩ : ChgV)⟩ : NoteV)).2) != 0)) = false := (want_f rfl rfl (sg.slot 2 (sg.anc 2 rfl))).symm.trans hwant
      exact ⟨cF hG, fun _ h => h⟩
    · intro oo hop LL xx ac sg hwant
      cases Option.some.inj hop
      have hG : (!((((tellV (⟨n3_1, (⟨n3_1, (⟨0, 0, 0, 0, 0, 0, 0, 0⟩ : CallV), n8_6, n8_11⟩ : ChgV)⟩ : NoteV)).2) != 0) || (!(((tellV (⟨n3_1, (⟨n3_1, (⟨0, 0, 0, 0, 0, 0, 0, 0⟩ : CallV), n8_6, n8_11⟩ : ChgV)⟩ : NoteV)).1).toList == s.toList)))) = false := (want_f rfl rfl (sg.slot 7 (sg.anc 7 rfl))).symm.trans hwant
      exact ⟨cF hG, fun _ h => h⟩
    · intro oo hop LL xx ac sg hwant
      cases Option.some.inj hop
      have hG : (!((((tellV (⟨n3_1, (⟨n3_1, (⟨0, 0, 0, 0, 0, 0, 0, 0⟩ : CallV), n8_6, n8_11⟩ : ChgV)⟩ : NoteV)).2) != 0) || (!(((tellV (⟨n3_1, (⟨n3_1, (⟨0, 0, 0, 0, 0, 0, 0, 0⟩ : CallV), n8_6, n8_11⟩ : ChgV)⟩ : NoteV)).1).toList == s.toList)))) = false := (want_f rfl rfl (sg.slot 7 (sg.anc 7 rfl))).symm.trans hwant
      exact ⟨cF hG, fun _ h => h⟩
    · intro oo hop LL xx ac sg hwant
      cases Option.some.inj hop
      have hG : (!((((tellV (⟨n3_1, (⟨n3_1, (⟨0, 0, 0, 0, 0, 0, 0, 0⟩ : CallV), n8_6, n8_11⟩ : ChgV)⟩ : NoteV)).2) != 0) || (!(((tellV (⟨n3_1, (⟨n3_1, (⟨0, 0, 0, 0, 0, 0, 0, 0⟩ : CallV), n8_6, n8_11⟩ : ChgV)⟩ : NoteV)).1).toList == s.toList)))) = false := (want_f rfl rfl (sg.slot 7 (sg.anc 7 rfl))).symm.trans hwant
      exact ⟨cF hG, fun _ h => h⟩
  · intro xx ac1 wz hfr hsl hst
    exact hfin ac1 wz (hfr.size.trans hz) hfr.defers (fr_keep hfr [58, 59, 60, 61, 62, 63, 64, 65, 66, 67, 68, 69] (by kernel_rfl)) (hsl 11 (by decide)) (Lib.hid hst)
set_option maxHeartbeats 4000000 in
set_option maxRecDepth 20000 in
theorem toldC_r10x2 (s : ByteArray) (b2 : Nat) (b1_1 : Nat) (b11 : Nat) (n2_4 : Nat) (s2_4 : ByteArray) (v2_4 : Bool) (n3_1 : Nat) (s3_1 : ByteArray) (v3_1 : Bool) (b5 : Nat) (n4_4 : Nat) (s4_4 : ByteArray) (v4_4 : Bool) {wa wb : World} (H : Hid (Hp [] wa wb [rP (inNumV s3_1 v3_1 1 = (n4_4, s4_4, v4_4)), rB b5 50 [.int .i64 n3_1, .int .i64 0, .int .i64 0, .int .i64 0, .int .i64 0, .int .i64 0, .int .i64 0, .int .i64 0, .int .i64 0, .int .i64 0, .int .i64 0, .int .i64 0], rP (inNumV s2_4 v2_4 4 = (n3_1, s3_1, v3_1)), rB b11 109 [.pointer (some ⟨b1_1, 0, none⟩), .bool (false || decide (1073741824 < (n3_1 : Int)))], rB b1_1 117 [.string s4_4, .bool v4_4], rP (inNumV s false 1 = (n2_4, s2_4, v2_4)), rB b2 50 [.int .i64 0, .int .i64 0, .int .i64 0, .int .i64 0, .int .i64 0, .int .i64 0, .int .i64 0, .int .i64 0, .int .i64 0, .int .i64 0, .int .i64 0, .int .i64 0]])) (ac0 : Act) (hz : ac0.tmps.size = 72) (so0 : ac0.eval (.tmp 0) = .string s) (so4 : ac0.eval (.tmp 4) = .pointer (some ⟨b11, 0, none⟩)) (so6 : ac0.eval (.tmp 6) = .string ((tellV (⟨n3_1, (⟨0, (⟨0, 0, 0, 0, 0, 0, 0, 0⟩ : CallV), 0, 0⟩ : ChgV)⟩ : NoteV)).1)) (so7 : ac0.eval (.tmp 7) = .int .i64 ((tellV (⟨n3_1, (⟨0, (⟨0, 0, 0, 0, 0, 0, 0, 0⟩ : CallV), 0, 0⟩ : ChgV)⟩ : NoteV)).2)) {QR : Exit → Act → World → Prop} (hfin : ∀ (ac1 : Act) (wz : World), ac1.tmps.size = 72 → ac1.defers = ac0.defers → (∀ t, ([58, 59, 60, 61, 62, 63, 64, 65, 66, 67, 68, 69] : List Nat).contains t = false → ac1.eval (.tmp t) = ac0.eval (.tmp t)) → ac1.eval (.tmp 69) = .bool (((((tellV (⟨n3_1, (⟨0, (⟨0, 0, 0, 0, 0, 0, 0, 0⟩ : CallV), 0, 0⟩ : ChgV)⟩ : NoteV)).2) != 0) || (!(((tellV (⟨n3_1, (⟨0, (⟨0, 0, 0, 0, 0, 0, 0, 0⟩ : CallV), 0, 0⟩ : ChgV)⟩ : NoteV)).1).toList == s.toList))) || (!((!(false || decide (1073741824 < (n3_1 : Int)))) && ((!v4_4) && s4_4.toList.isEmpty)))) →  Hid (Hp [] wa wz [rP (inNumV s3_1 v3_1 1 = (n4_4, s4_4, v4_4)), rB b5 50 [.int .i64 n3_1, .int .i64 0, .int .i64 0, .int .i64 0, .int .i64 0, .int .i64 0, .int .i64 0, .int .i64 0, .int .i64 0, .int .i64 0, .int .i64 0, .int .i64 0], rP (inNumV s2_4 v2_4 4 = (n3_1, s3_1, v3_1)), rB b11 109 [.pointer (some ⟨b1_1, 0, none⟩), .bool (false || decide (1073741824 < (n3_1 : Int)))], rB b1_1 117 [.string s4_4, .bool v4_4], rP (inNumV s false 1 = (n2_4, s2_4, v2_4)), rB b2 50 [.int .i64 0, .int .i64 0, .int .i64 0, .int .i64 0, .int .i64 0, .int .i64 0, .int .i64 0, .int .i64 0, .int .i64 0, .int .i64 0, .int .i64 0, .int .i64 0]]) → QR .normal ac1 wz) : (regAt Try.f22 10).wp Try.prog QR ac0 wb := by
  refine wp_region_sq (by kernel_rfl) 72 hz (by kernel_rfl) (fun (xx : Unit) jx => nth [.int .i64 ((tellV (⟨n3_1, (⟨0, (⟨0, 0, 0, 0, 0, 0, 0, 0⟩ : CallV), 0, 0⟩ : ChgV)⟩ : NoteV)).2), .bool (((tellV (⟨n3_1, (⟨0, (⟨0, 0, 0, 0, 0, 0, 0, 0⟩ : CallV), 0, 0⟩ : ChgV)⟩ : NoteV)).2) != 0), .bool (((tellV (⟨n3_1, (⟨0, (⟨0, 0, 0, 0, 0, 0, 0, 0⟩ : CallV), 0, 0⟩ : ChgV)⟩ : NoteV)).2) != 0), bif !(((tellV (⟨n3_1, (⟨0, (⟨0, 0, 0, 0, 0, 0, 0, 0⟩ : CallV), 0, 0⟩ : ChgV)⟩ : NoteV)).2) != 0) then .string ((tellV (⟨n3_1, (⟨0, (⟨0, 0, 0, 0, 0, 0, 0, 0⟩ : CallV), 0, 0⟩ : ChgV)⟩ : NoteV)).1) else undef, bif !(((tellV (⟨n3_1, (⟨0, (⟨0, 0, 0, 0, 0, 0, 0, 0⟩ : CallV), 0, 0⟩ : ChgV)⟩ : NoteV)).2) != 0) then .string s else undef, bif !(((tellV (⟨n3_1, (⟨0, (⟨0, 0, 0, 0, 0, 0, 0, 0⟩ : CallV), 0, 0⟩ : ChgV)⟩ : NoteV)).2) != 0) then .bool (!(((tellV (⟨n3_1, (⟨0, (⟨0, 0, 0, 0, 0, 0, 0, 0⟩ : CallV), 0, 0⟩ : ChgV)⟩ : NoteV)).1).toList == s.toList)) else undef, .bool ((((tellV (⟨n3_1, (⟨0, (⟨0, 0, 0, 0, 0, 0, 0, 0⟩ : CallV), 0, 0⟩ : ChgV)⟩ : NoteV)).2) != 0) || (!(((tellV (⟨n3_1, (⟨0, (⟨0, 0, 0, 0, 0, 0, 0, 0⟩ : CallV), 0, 0⟩ : ChgV)⟩ : NoteV)).1).toList == s.toList))), .bool ((((tellV (⟨n3_1, (⟨0, (⟨0, 0, 0, 0, 0, 0, 0, 0⟩ : CallV), 0, 0⟩ : ChgV)⟩ : NoteV)).2) != 0) || (!(((tellV (⟨n3_1, (⟨0, (⟨0, 0, 0, 0, 0, 0, 0, 0⟩ : CallV), 0, 0⟩ : ChgV)⟩ : NoteV)).1).toList == s.toList))), bif !((((tellV (⟨n3_1, (⟨0, (⟨0, 0, 0, 0, 0, 0, 0, 0⟩ : CallV), 0, 0⟩ : ChgV)⟩ : NoteV)).2) != 0) || (!(((tellV (⟨n3_1, (⟨0, (⟨0, 0, 0, 0, 0, 0, 0, 0⟩ : CallV), 0, 0⟩ : ChgV)⟩ : NoteV)).1).toList == s.toList))) then .pointer (some ⟨b11, 0, none⟩) else undef, bif !((((tellV (⟨n3_1, (⟨0, (⟨0, 0, 0, 0, 0, 0, 0, 0⟩ : CallV), 0, 0⟩ : ChgV)⟩ : NoteV)).2) != 0) || (!(((tellV (⟨n3_1, (⟨0, (⟨0, 0, 0, 0, 0, 0, 0, 0⟩ : CallV), 0, 0⟩ : ChgV)⟩ : NoteV)).1).toList == s.toList))) then .bool ((!(false || decide (1073741824 < (n3_1 : Int)))) && ((!v4_4) && s4_4.toList.isEmpty)) else undef, bif !((((tellV (⟨n3_1, (⟨0, (⟨0, 0, 0, 0, 0, 0, 0, 0⟩ : CallV), 0, 0⟩ : ChgV)⟩ : NoteV)).2) != 0) || (!(((tellV (⟨n3_1, (⟨0, (⟨0, 0, 0, 0, 0, 0, 0, 0⟩ : CallV), 0, 0⟩ : ChgV)⟩ : NoteV)).1).toList == s.toList))) then .bool (!((!(false || decide (1073741824 < (n3_1 : Int)))) && ((!v4_4) && s4_4.toList.isEmpty))) else undef, .bool (((((tellV (⟨n3_1, (⟨0, (⟨0, 0, 0, 0, 0, 0, 0, 0⟩ : CallV), 0, 0⟩ : ChgV)⟩ : NoteV)).2) != 0) || (!(((tellV (⟨n3_1, (⟨0, (⟨0, 0, 0, 0, 0, 0, 0, 0⟩ : CallV), 0, 0⟩ : ChgV)⟩ : NoteV)).1).toList == s.toList))) || (!((!(false || decide (1073741824 < (n3_1 : Int)))) && ((!v4_4) && s4_4.toList.isEmpty))))] jx) (fun (LL : Nat → Bool) (xx : Unit) ww => Hp [] wa ww [rP (inNumV s3_1 v3_1 1 = (n4_4, s4_4, v4_4)), rB b5 50 [.int .i64 n3_1, .int .i64 0, .int .i64 0, .int .i64 0, .int .i64 0, .int .i64 0, .int .i64 0, .int .i64 0, .int .i64 0, .int .i64 0, .int .i64 0, .int .i64 0], rP (inNumV s2_4 v2_4 4 = (n3_1, s3_1, v3_1)), rB b11 109 [.pointer (some ⟨b1_1, 0, none⟩), .bool (false || decide (1073741824 < (n3_1 : Int)))], rB b1_1 117 [.string s4_4, .bool v4_4], rP (inNumV s false 1 = (n2_4, s2_4, v2_4)), rB b2 50 [.int .i64 0, .int .i64 0, .int .i64 0, .int .i64 0, .int .i64 0, .int .i64 0, .int .i64 0, .int .i64 0, .int .i64 0, .int .i64 0, .int .i64 0, .int .i64 0]]) () H.out ?_ (steps_al ?_) ?_ ?_
  · exact fun _ _ _ _ _ h => h
  · refine al_cons ?_ (al_cons ?_ (al_cons ?_ (al_cons ?_ (al_cons ?_ (al_cons ?_ (al_cons ?_ (al_cons ?_ (al_cons ?_ (al_cons ?_ (al_cons ?_ (al_cons ?_ (al_nil))))))))))))
    · intro LL xx ac wc sg hst hwant QQ hgo
      exact op_val hwant hgo hst _ (exec_move rfl ((sg.free 7 (by kernel_rfl)).trans so7)) rfl
    · intro LL xx ac wc sg hst hwant QQ hgo
      have se58 : ac.eval (.tmp 58) = _ := (sg.slot 0 (sg.anc 0 rfl))
      have sg58 := gt_of se58
      (try simp only [nth] at se58 sg58)
      exact op_val hwant hgo hst _ (by simp only [execOp, nth]; go_simp <;> omega) rfl
    · intro LL xx ac wc sg hst hwant QQ hgo
      exact op_val hwant hgo hst _ (exec_move rfl (sg.slot 1 (sg.anc 1 rfl))) rfl
    · intro LL xx ac wc sg hst hwant QQ hgo
      have hG : (!(((tellV (⟨n3_1, (⟨0, (⟨0, 0, 0, 0, 0, 0, 0, 0⟩ : CallV), 0, 0⟩ : ChgV)⟩ : NoteV)).2) != 0)) = true := (want_f rfl rfl (sg.slot 2 (sg.anc 2 rfl))).symm.trans hwant
      exact op_val hwant hgo hst _ (exec_move rfl ((sg.free 6 (by kernel_rfl)).trans so6)) (cI hG)
    · intro LL xx ac wc sg hst hwant QQ hgo
      have hG : (!(((tellV (⟨n3_1, (⟨0, (⟨0, 0, 0, 0, 0, 0, 0, 0⟩ : CallV), 0, 0⟩ : ChgV)⟩ : NoteV)).2) != 0)) = true := (want_f rfl rfl (sg.slot 2 (sg.anc 2 rfl))).symm.trans hwant
      exact op_val hwant hgo hst _ (exec_move rfl ((sg.free 0 (by kernel_rfl)).trans so0)) (cI hG)
    · intro LL xx ac wc sg hst hwant QQ hgo
      have hG : (!(((tellV (⟨n3_1, (⟨0, (⟨0, 0, 0, 0, 0, 0, 0, 0⟩ : CallV), 0, 0⟩ : ChgV)⟩ : NoteV)).2) != 0)) = true := (want_f rfl rfl (sg.slot 2 (sg.anc 2 rfl))).symm.trans hwant
      have se61 : ac.eval (.tmp 61) = _ := (cT (sg.slot 3 (sg.anc 3 rfl)) hG)
      have sg61 := gt_of se61
      have se62 : ac.eval (.tmp 62) = _ := (cT (sg.slot 4 (sg.anc 4 rfl)) hG)
      have sg62 := gt_of se62
      (try simp only [nth] at se61 sg61 se62 sg62)
      exact op_val hwant hgo hst _ (by simp only [execOp, nth]; go_simp <;> omega) (cI hG)
    · intro LL xx ac wc sg hst hwant QQ hgo
      exact op_val hwant hgo hst (.bool ((((tellV (⟨n3_1, (⟨0, (⟨0, 0, 0, 0, 0, 0, 0, 0⟩ : CallV), 0, 0⟩ : ChgV)⟩ : NoteV)).2) != 0) || (!(((tellV (⟨n3_1, (⟨0, (⟨0, 0, 0, 0, 0, 0, 0, 0⟩ : CallV), 0, 0⟩ : ChgV)⟩ : NoteV)).1).toList == s.toList)))) (exec_or (Y := !(((tellV (⟨n3_1, (⟨0, (⟨0, 0, 0, 0, 0, 0, 0, 0⟩ : CallV), 0, 0⟩ : ChgV)⟩ : NoteV)).1).toList == s.toList)) rfl (sg.slot 2 (sg.anc 2 rfl)) (fun qq => cT (sg.slot 5 (sg.anc 5 rfl)) (bk qq))) rfl
    · intro LL xx ac wc sg hst hwant QQ hgo
      exact op_val hwant hgo hst _ (exec_move rfl (sg.slot 6 (sg.anc 6 rfl))) rfl
    · intro LL xx ac wc sg hst hwant QQ hgo
      have hG : (!((((tellV (⟨n3_1, (⟨0, (⟨0, 0, 0, 0, 0, 0, 0, 0⟩ : CallV), 0, 0⟩ : ChgV)⟩ : NoteV)).2) != 0) || (!(((tellV (⟨n3_1, (⟨0, (⟨0, 0, 0, 0, 0, 0, 0, 0⟩ : CallV), 0, 0⟩ : ChgV)⟩ : NoteV)).1).toList == s.toList)))) = true := (want_f rfl rfl (sg.slot 7 (sg.anc 7 rfl))).symm.trans hwant
      exact op_val hwant hgo hst _ (exec_move rfl ((sg.free 4 (by kernel_rfl)).trans so4)) (cI hG)
    · intro LL xx ac wc sg hst hwant QQ hgo
      have hG : (!((((tellV (⟨n3_1, (⟨0, (⟨0, 0, 0, 0, 0, 0, 0, 0⟩ : CallV), 0, 0⟩ : ChgV)⟩ : NoteV)).2) != 0) || (!(((tellV (⟨n3_1, (⟨0, (⟨0, 0, 0, 0, 0, 0, 0, 0⟩ : CallV), 0, 0⟩ : ChgV)⟩ : NoteV)).1).toList == s.toList)))) = true := (want_f rfl rfl (sg.slot 7 (sg.anc 7 rfl))).symm.trans hwant
      have se66 : ac.eval (.tmp 66) = _ := (cT (sg.slot 8 (sg.anc 8 rfl)) hG)
      have sg66 := gt_of se66
      (try simp only [nth] at se66 sg66)
      have H := Lib.hid hst
      refine op_call hwant hgo 54 #[.pointer (some ⟨b11, 0, none⟩)] (by simp only [execOp]; go_simp) (endC b11 b1_1 (false || decide (1073741824 < (n3_1 : Int))) s4_4 v4_4 wc (show (rB b11 109 [.pointer (some ⟨b1_1, 0, none⟩), .bool (false || decide (1073741824 < (n3_1 : Int)))]).holds wc from H.out.holds _ (by (repeat (first | exact List.Mem.head _ | apply List.Mem.tail)))) (show (rB b1_1 117 [.string s4_4, .bool v4_4]).holds wc from H.out.holds _ (by (repeat (first | exact List.Mem.head _ | apply List.Mem.tail)))) (blk_ne H (i := 3) (j := 4) rfl rfl (by decide))) ?_
      rintro er wd ⟨rfl, hof⟩
      exact ⟨_, (), rfl, fun _ _ => rfl, (cI hG), Hp.quiet hst hof⟩
    · intro LL xx ac wc sg hst hwant QQ hgo
      have hG : (!((((tellV (⟨n3_1, (⟨0, (⟨0, 0, 0, 0, 0, 0, 0, 0⟩ : CallV), 0, 0⟩ : ChgV)⟩ : NoteV)).2) != 0) || (!(((tellV (⟨n3_1, (⟨0, (⟨0, 0, 0, 0, 0, 0, 0, 0⟩ : CallV), 0, 0⟩ : ChgV)⟩ : NoteV)).1).toList == s.toList)))) = true := (want_f rfl rfl (sg.slot 7 (sg.anc 7 rfl))).symm.trans hwant
      have se67 : ac.eval (.tmp 67) = _ := (cT (sg.slot 9 (sg.anc 9 rfl)) hG)
      have sg67 := gt_of se67
      (try simp only [nth] at se67 sg67)
      exact op_val hwant hgo hst _ (by simp only [execOp, nth]; go_simp <;> omega) (cI hG)
    · intro LL xx ac wc sg hst hwant QQ hgo
      exact op_val hwant hgo hst (.bool (((((tellV (⟨n3_1, (⟨0, (⟨0, 0, 0, 0, 0, 0, 0, 0⟩ : CallV), 0, 0⟩ : ChgV)⟩ : NoteV)).2) != 0) || (!(((tellV (⟨n3_1, (⟨0, (⟨0, 0, 0, 0, 0, 0, 0, 0⟩ : CallV), 0, 0⟩ : ChgV)⟩ : NoteV)).1).toList == s.toList))) || (!((!(false || decide (1073741824 < (n3_1 : Int)))) && ((!v4_4) && s4_4.toList.isEmpty))))) (exec_or (Y := !((!(false || decide (1073741824 < (n3_1 : Int)))) && ((!v4_4) && s4_4.toList.isEmpty))) rfl (sg.slot 7 (sg.anc 7 rfl)) (fun qq => cT (sg.slot 10 (sg.anc 10 rfl)) (bk qq))) rfl
  · refine skips [3, 4, 5, 8, 9, 10] (by kernel_rfl) ?_
    refine List.forall_mem_cons.2 ⟨?_, List.forall_mem_cons.2 ⟨?_, List.forall_mem_cons.2 ⟨?_, List.forall_mem_cons.2 ⟨?_, List.forall_mem_cons.2 ⟨?_, List.forall_mem_cons.2 ⟨?_, fun _ h => by cases h⟩⟩⟩⟩⟩⟩
    · intro oo hop LL xx ac sg hwant
      cases Option.some.inj hop
      have hG : (!(((tellV (⟨n3_1, (⟨0, (⟨0, 0, 0, 0, 0, 0, 0, 0⟩ : CallV), 0, 0⟩ : ChgV)⟩ : NoteV)).2) != 0)) = false := (want_f rfl rfl (sg.slot 2 (sg.anc 2 rfl))).symm.trans hwant
      exact ⟨cF hG, fun _ h => h⟩
    · intro oo hop LL xx ac sg hwant
      cases Option.some.inj hop
      have hG : (!(((tellV (⟨n3_1, (⟨0, (⟨0, 0, 0, 0, 0, 0, 0, 0⟩ : CallV), 0, 0⟩ : ChgV)⟩ : NoteV)).2) != 0)) = false := (want_f rfl rfl (sg.slot 2 (sg.anc 2 rfl))).symm.trans hwant
      exact ⟨cF hG, fun _ h => h⟩
    · intro oo hop LL xx ac sg hwant
      cases Option.some.inj hop
      have hG : (!(((tellV (⟨n3_1, (⟨0, (⟨0, 0, 0, 0, 0, 0, 0, 0⟩ : CallV), 0, 0⟩ : ChgV)⟩ : NoteV)).2) != 0)) = false := (want_f rfl rfl (sg.slot 2 (sg.anc 2 rfl))).symm.trans hwant
      exact ⟨cF hG, fun _ h => h⟩
    · intro oo hop LL xx ac sg hwant
      cases Option.some.inj hop
      have hG : (!((((tellV (⟨n3_1, (⟨0, (⟨0, 0, 0, 0, 0, 0, 0, 0⟩ : CallV), 0, 0⟩ : ChgV)⟩ : NoteV)).2) != 0) || (!(((tellV (⟨n3_1, (⟨0, (⟨0, 0, 0, 0, 0, 0, 0, 0⟩ : CallV), 0, 0⟩ : ChgV)⟩ : NoteV)).1).toList == s.toList)))) = false := (want_f rfl rfl (sg.slot 7 (sg.anc 7 rfl))).symm.trans hwant
      exact ⟨cF hG, fun _ h => h⟩
    · intro oo hop LL xx ac sg hwant
      cases Option.some.inj hop
      have hG : (!((((tellV (⟨n3_1, (⟨0, (⟨0, 0, 0, 0, 0, 0, 0, 0⟩ : CallV), 0, 0⟩ : ChgV)⟩ : NoteV)).2) != 0) || (!(((tellV (⟨n3_1, (⟨0, (⟨0, 0, 0, 0, 0, 0, 0, 0⟩ : CallV), 0, 0⟩ : ChgV)⟩ : NoteV)).1).toList == s.toList)))) = false := (want_f rfl rfl (sg.slot 7 (sg.anc 7 rfl))).symm.trans hwant
      exact ⟨cF hG, fun _ h => h⟩
    · intro oo hop LL xx ac sg hwant
      cases Option.some.inj hop
      have hG : (!((((tellV (⟨n3_1, (⟨0, (⟨0, 0, 0, 0, 0, 0, 0, 0⟩ : CallV), 0, 0⟩ : ChgV)⟩ : NoteV)).2) != 0) || (!(((tellV (⟨n3_1, (⟨0, (⟨0, 0, 0, 0, 0, 0, 0, 0⟩ : CallV), 0, 0⟩ : ChgV)⟩ : NoteV)).1).toList == s.toList)))) = false := (want_f rfl rfl (sg.slot 7 (sg.anc 7 rfl))).symm.trans hwant
      exact ⟨cF hG, fun _ h => h⟩
  · intro xx ac1 wz hfr hsl hst
    exact hfin ac1 wz (hfr.size.trans hz) hfr.defers (fr_keep hfr [58, 59, 60, 61, 62, 63, 64, 65, 66, 67, 68, 69] (by kernel_rfl)) (hsl 11 (by decide)) (Lib.hid hst)
set_option maxHeartbeats 16000000 in
set_option maxRecDepth 20000 in
theorem toldC (s : ByteArray) (w : World) : Calls Try.prog 22 #[.string s] w fun e w' => e = .returned (.tuple #[.agg #[.int .i64 (((toldV s).1).index), .int .i64 ((((toldV s).1).chg).index), .int .i64 (((((toldV s).1).chg).call).id), .int .i64 (((((toldV s).1).chg).call).kind), .int .i64 (((((toldV s).1).chg).call).src), .int .i64 (((((toldV s).1).chg).call).dst), .int .i64 (((((toldV s).1).chg).call).car), .int .i64 (((((toldV s).1).chg).call).state), .int .i64 (((((toldV s).1).chg).call).owner), .int .i64 (((((toldV s).1).chg).call).born), .int .i64 ((((toldV s).1).chg).car), .int .i64 ((((toldV s).1).chg).mode)], .int .i64 (toldV s).2]) ∧ Off [] w w' := by
 have H := Lib.hid (Hp.start [] w)
 refine wStart (args := [.string s]) Try.func22 rfl rfl rfl H ?_
 clear H
 show Wk 72 _ _ [(0, .string s)] _ _
 refine wSeqK fun KK1 hK1 => ?_
 refine wReg ?_
 refine wAl rfl rfl tynote_Notice fun b2 => ?_
 refine p_toldC rfl ?_
 refine wN ?_
 refine tN (wKK hK1 ?_)
 refine wSeqK fun KK2 hK2 => ?_
 refine wReg ?_
 refine p_toldC rfl ?_
 refine wC (l := [.string s]) Try.func40 rfl (by kernel_rfl) (fun wc H => inOfH H (s := s)) rfl rfl rfl rfl ?_
 intro wc H
 rintro er wd ⟨b1_1, rfl, H2⟩
 refine ⟨_, rfl, wkAt H2 ?_⟩
 clear H H2
 refine wE (.agg #[.pointer (some ⟨b1_1, 0, none⟩), .bool false]) rfl rfl rfl (fun aa ww hs _ => by have e9 := hs 9 _ rfl; have g9 := gt_of e9; simp only [execOp]; go_simp <;> omega) ?_
 refine wBx rfl rfl rfl fun b11 => ?_
 refine p_toldC rfl ?_
 refine wN ?_
 refine tN (wKK hK2 ?_)
 refine wSeqK fun KK3 hK3 => ?_
 refine wReg ?_
 iterate 3 refine p_toldC rfl ?_
 refine wLd rfl tyP_pack_In 0 rfl rfl ?_
 refine wC (l := [.pointer (some ⟨b1_1, 0, none⟩), .int .i64 1]) Try.func41 rfl (by kernel_rfl) (fun wc H => inNumXH H (i := 1) (n := 1) rfl) rfl rfl rfl rfl ?_
 intro wc H
 rintro er wd ⟨n2_4, s2_4, v2_4, rfl, hq1, H2⟩
 replace H2 := hp_fact H2 hq1
 refine ⟨_, rfl, wkAt H2 ?_⟩
 clear H H2
 refine wN ?_
 refine tN (wKK hK3 ?_)
 refine wSeqK fun KK4 hK4 => ?_
 refine wReg ?_
 refine p_toldC rfl ?_
 refine wC (l := [.pointer (some ⟨b11, 0, none⟩)]) Try.func52 rfl (by kernel_rfl) (fun wc H => countC b11 b1_1 false s2_4 v2_4 wc (show (rB b11 109 [.pointer (some ⟨b1_1, 0, none⟩), .bool false]).holds wc from H.out.holds _ (by (repeat (first | exact List.Mem.head _ | apply List.Mem.tail)))) (show (rB b1_1 117 [.string s2_4, .bool v2_4]).holds wc from H.out.holds _ (by (repeat (first | exact List.Mem.head _ | apply List.Mem.tail)))) (blk_ne H (i := 1) (j := 2) rfl rfl (by decide))) rfl rfl rfl rfl ?_
 intro wc H
 rintro er wd ⟨n3_1, s3_1, v3_1, rfl, hq1, hb1, hb2, hof⟩
 have HF := hp_front H 2 rfl
 replace HF := hp_front HF 2 rfl
 have H2 := hp_twice HF hb1 hb2 hof
 replace H2 := hp_fact H2 hq1
 refine ⟨_, rfl, wkAt H2 ?_⟩
 clear H H2 hof
 refine wE (.agg #[.int .i64 n3_1, .int .i64 0, .int .i64 0, .int .i64 0, .int .i64 0, .int .i64 0, .int .i64 0, .int .i64 0, .int .i64 0, .int .i64 0, .int .i64 0, .int .i64 0]) rfl rfl rfl (fun aa ww hs _ => by have e18 := hs 18 _ rfl; have g18 := gt_of e18; simp only [execOp]; go_simp <;> omega) ?_
 refine wAl rfl rfl tynote_Notice fun b5 => ?_
 refine wSr rfl tynote_Notice 0 rfl rfl rfl rfl [.int .i64 n3_1, .int .i64 0, .int .i64 0, .int .i64 0, .int .i64 0, .int .i64 0, .int .i64 0, .int .i64 0, .int .i64 0, .int .i64 0, .int .i64 0, .int .i64 0] (by first | rfl | (simp only [spl]; rfl)) ?_
 refine wN ?_
 refine tN (wKK hK4 ?_)
 refine wSeqK fun KK5 hK5 => ?_
 refine wSeqK fun KK6 hK6 => ?_
 refine wReg ?_
 iterate 3 refine p_toldC rfl ?_
 refine wLd rfl tyP_pack_In 2 rfl rfl ?_
 refine wC (l := [.pointer (some ⟨b1_1, 0, none⟩), .int .i64 1]) Try.func41 rfl (by kernel_rfl) (fun wc H => inNumXH H (i := 3) (n := 1) rfl) rfl rfl rfl rfl ?_
 intro wc H
 rintro er wd ⟨n4_4, s4_4, v4_4, rfl, hq1, H2⟩
 replace H2 := hp_fact H2 hq1
 refine ⟨_, rfl, wkAt H2 ?_⟩
 clear H H2
 refine wN ?_
 refine tN (wKK hK6 ?_)
 refine wBlk ?_
 refine wSeqK fun KK7 hK7 => ?_
 refine wReg ?_
 iterate 2 refine p_toldC rfl ?_
 refine wN ?_
 refine tN (wKK hK7 ?_)
 refine wCond (E := (n4_4 : Int) == 1) rfl (fun z1 => ?_) (fun z1 => ?_)
 · skip
   have z1o : ((n4_4 : Int) != 1) = false := eqq_t z1
   intro aa ww nn dd hs H
   refine toldC_r6 s b2 b1_1 b11 n2_4 s2_4 v2_4 n3_1 s3_1 v3_1 b5 n4_4 s4_4 v4_4 H aa nn (hs 4 _ rfl) (hs 5 _ rfl) ?_
   intro x6_7 g6_7 s6_7 v6_7 ab wv nn2 dd2 kp H2
   refine wIn nn2 (dd2.trans dd) (Sat.cons (Sat.cons (Sat.cons (Sat.cons (Sat.cons (Sat.cons (Sat.cons (sat_nil ab) ((kp 25 rfl).trans (hs 25 _ rfl))) ((kp 24 rfl).trans (hs 24 _ rfl))) ((kp 5 rfl).trans (hs 5 _ rfl))) ((kp 4 rfl).trans (hs 4 _ rfl))) ((kp 3 rfl).trans (hs 3 _ rfl))) ((kp 2 rfl).trans (hs 2 _ rfl))) ((kp 0 rfl).trans (hs 0 _ rfl))) H2 ?_
   clear hs H kp H2 dd dd2 nn nn2
   refine bN (tN (wKK hK5 ?_))
   refine wSeqK fun KK8 hK8 => ?_
   refine wSeqK fun KK9 hK9 => ?_
   refine wReg ?_
   refine wLr rfl tynote_Notice 4 rfl [.int .i64 n3_1, .int .i64 n3_1, .int .i64 x6_7.id, .int .i64 x6_7.kind, .int .i64 x6_7.src, .int .i64 x6_7.dst, .int .i64 x6_7.car, .int .i64 x6_7.state, .int .i64 x6_7.owner, .int .i64 x6_7.born, .int .i64 0, .int .i64 0] rfl rfl ?_
   refine wQ (l := [.agg #[.int .i64 n3_1, .int .i64 n3_1, .int .i64 x6_7.id, .int .i64 x6_7.kind, .int .i64 x6_7.src, .int .i64 x6_7.dst, .int .i64 x6_7.car, .int .i64 x6_7.state, .int .i64 x6_7.owner, .int .i64 x6_7.born, .int .i64 0, .int .i64 0]]) Try.func19 rfl (by kernel_rfl) (.tuple #[.string ((tellV (⟨n3_1, (⟨n3_1, x6_7, 0, 0⟩ : ChgV)⟩ : NoteV)).1), .int .i64 ((tellV (⟨n3_1, (⟨n3_1, x6_7, 0, 0⟩ : ChgV)⟩ : NoteV)).2)]) (fun wc H => tellC (⟨n3_1, (⟨n3_1, x6_7, 0, 0⟩ : ChgV)⟩ : NoteV) wc) rfl rfl rfl rfl ?_
   iterate 5 refine p_toldC rfl ?_
   refine wN ?_
   refine tN (wKK hK9 ?_)
   refine wSeqK fun KK10 hK10 => ?_
   intro aa ww nn dd hs H
   refine toldC_r10 s b2 b1_1 b11 n2_4 s2_4 v2_4 n3_1 s3_1 v3_1 b5 n4_4 s4_4 v4_4 x6_7 g6_7 s6_7 v6_7 H aa nn (hs 0 _ rfl) (hs 4 _ rfl) (hs 6 _ rfl) (hs 7 _ rfl) ?_
   intro ab wv nn2 dd2 kp o69 H2
   refine wIn nn2 (dd2.trans dd) (Sat.cons (Sat.cons (Sat.cons (Sat.cons (Sat.cons (Sat.cons (Sat.cons (Sat.cons (Sat.cons (Sat.cons (sat_nil ab) ((kp 25 rfl).trans (hs 25 _ rfl))) ((kp 24 rfl).trans (hs 24 _ rfl))) ((kp 7 rfl).trans (hs 7 _ rfl))) ((kp 6 rfl).trans (hs 6 _ rfl))) ((kp 5 rfl).trans (hs 5 _ rfl))) ((kp 4 rfl).trans (hs 4 _ rfl))) ((kp 3 rfl).trans (hs 3 _ rfl))) ((kp 2 rfl).trans (hs 2 _ rfl))) ((kp 0 rfl).trans (hs 0 _ rfl))) o69) H2 ?_
   clear hs H kp H2 dd dd2 nn nn2 o69
   refine tN (wKK hK10 ?_)
   refine wCond (E := ((((tellV (⟨n3_1, (⟨n3_1, x6_7, 0, 0⟩ : ChgV)⟩ : NoteV)).2) != 0) || (!(((tellV (⟨n3_1, (⟨n3_1, x6_7, 0, 0⟩ : ChgV)⟩ : NoteV)).1).toList == s.toList))) || (!((!((false || decide (1073741824 < (n3_1 : Int))) || g6_7)) && ((!v6_7) && s6_7.toList.isEmpty)))) rfl (fun z2 => ?_) (fun z2 => ?_)
   · skip
     refine wSeqK fun KK11 hK11 => ?_
     refine wReg ?_
     refine wE (.agg #[.int .i64 0, .int .i64 0, .int .i64 0, .int .i64 0, .int .i64 0, .int .i64 0, .int .i64 0, .int .i64 0, .int .i64 0, .int .i64 0, .int .i64 0, .int .i64 0]) rfl rfl rfl (fun aa ww hs _ => by simp only [execOp]; go_simp <;> omega) ?_
     refine wSr rfl tynote_Notice 7 rfl rfl rfl rfl [.int .i64 0, .int .i64 0, .int .i64 0, .int .i64 0, .int .i64 0, .int .i64 0, .int .i64 0, .int .i64 0, .int .i64 0, .int .i64 0, .int .i64 0, .int .i64 0] (by first | rfl | (simp only [spl]; rfl)) ?_
     refine p_toldC rfl ?_
     refine wN ?_
     refine tN (wKK hK11 ?_)
     refine wRet ?_
     refine tR ?_
     exact wRct tynote_Notice rfl rfl rfl 7 rfl rfl (fun ww H => (by have q0 := hp_told H (p := dCall (s4_4, v4_4) = (x6_7, g6_7, (s6_7, v6_7))) (by (repeat (first | exact List.Mem.head _ | apply List.Mem.tail))); have q1 := hp_told H (p := inNumV s3_1 v3_1 1 = (n4_4, s4_4, v4_4)) (by (repeat (first | exact List.Mem.head _ | apply List.Mem.tail))); have q2 := hp_told H (p := inNumV s2_4 v2_4 4 = (n3_1, s3_1, v3_1)) (by (repeat (first | exact List.Mem.head _ | apply List.Mem.tail))); have q3 := hp_told H (p := inNumV s false 1 = (n2_4, s2_4, v2_4)) (by (repeat (first | exact List.Mem.head _ | apply List.Mem.tail))); have ht := told_of (readN_call q3 q2 q1 z1 q0) (by simpa only [Bool.false_or, zeroC, zeroG] using z2); rw [ht]; exact ⟨rfl, H.out.off⟩))
   · skip
     have z2l : ((((tellV (⟨n3_1, (⟨n3_1, x6_7, 0, 0⟩ : ChgV)⟩ : NoteV)).2) != 0) || (!(((tellV (⟨n3_1, (⟨n3_1, x6_7, 0, 0⟩ : ChgV)⟩ : NoteV)).1).toList == s.toList))) = false := Reg.ol z2
     have z2ll : (((tellV (⟨n3_1, (⟨n3_1, x6_7, 0, 0⟩ : ChgV)⟩ : NoteV)).2) != 0) = false := Reg.ol z2l
     have z2llo : (((tellV (⟨n3_1, (⟨n3_1, x6_7, 0, 0⟩ : ChgV)⟩ : NoteV)).2) == 0) = true := neq_f z2ll
     have z2lr : (!(((tellV (⟨n3_1, (⟨n3_1, x6_7, 0, 0⟩ : ChgV)⟩ : NoteV)).1).toList == s.toList)) = false := Reg.orr z2l
     have z2lrn : (((tellV (⟨n3_1, (⟨n3_1, x6_7, 0, 0⟩ : ChgV)⟩ : NoteV)).1).toList == s.toList) = true := Reg.bt z2lr
     have z2lrno : (((tellV (⟨n3_1, (⟨n3_1, x6_7, 0, 0⟩ : ChgV)⟩ : NoteV)).1).toList != s.toList) = false := eqq_t z2lrn
     have z2r : (!((!((false || decide (1073741824 < (n3_1 : Int))) || g6_7)) && ((!v6_7) && s6_7.toList.isEmpty))) = false := Reg.orr z2
     have z2rn : ((!((false || decide (1073741824 < (n3_1 : Int))) || g6_7)) && ((!v6_7) && s6_7.toList.isEmpty)) = true := Reg.bt z2r
     refine wSk ?_
     refine tN (wKK hK8 ?_)
     refine wSeqK fun KK12 hK12 => ?_
     refine wReg ?_
     refine wLr rfl tynote_Notice 4 rfl [.int .i64 n3_1, .int .i64 n3_1, .int .i64 x6_7.id, .int .i64 x6_7.kind, .int .i64 x6_7.src, .int .i64 x6_7.dst, .int .i64 x6_7.car, .int .i64 x6_7.state, .int .i64 x6_7.owner, .int .i64 x6_7.born, .int .i64 0, .int .i64 0] rfl rfl ?_
     refine wSr rfl tynote_Notice 7 rfl rfl rfl rfl [.int .i64 n3_1, .int .i64 n3_1, .int .i64 x6_7.id, .int .i64 x6_7.kind, .int .i64 x6_7.src, .int .i64 x6_7.dst, .int .i64 x6_7.car, .int .i64 x6_7.state, .int .i64 x6_7.owner, .int .i64 x6_7.born, .int .i64 0, .int .i64 0] (by first | rfl | (simp only [spl]; rfl)) ?_
     refine p_toldC rfl ?_
     refine wN ?_
     refine tN (wKK hK12 ?_)
     refine wRet ?_
     exact wRct tynote_Notice rfl rfl rfl 7 rfl rfl (fun ww H => (by have q0 := hp_told H (p := dCall (s4_4, v4_4) = (x6_7, g6_7, (s6_7, v6_7))) (by (repeat (first | exact List.Mem.head _ | apply List.Mem.tail))); have q1 := hp_told H (p := inNumV s3_1 v3_1 1 = (n4_4, s4_4, v4_4)) (by (repeat (first | exact List.Mem.head _ | apply List.Mem.tail))); have q2 := hp_told H (p := inNumV s2_4 v2_4 4 = (n3_1, s3_1, v3_1)) (by (repeat (first | exact List.Mem.head _ | apply List.Mem.tail))); have q3 := hp_told H (p := inNumV s false 1 = (n2_4, s2_4, v2_4)) (by (repeat (first | exact List.Mem.head _ | apply List.Mem.tail))); have ht := told_of (readN_call q3 q2 q1 z1 q0) (by simpa only [Bool.false_or, zeroC, zeroG] using z2); rw [ht]; exact ⟨rfl, H.out.off⟩))
 · skip
   have z1o : ((n4_4 : Int) != 1) = true := eqq_f z1
   refine wSeqK fun KK13 hK13 => ?_
   refine wReg ?_
   iterate 2 refine p_toldC rfl ?_
   refine wN ?_
   refine tN (wKK hK13 ?_)
   refine wCond (E := (n4_4 : Int) == 2) rfl (fun z3 => ?_) (fun z3 => ?_)
   · skip
     have z3o : ((n4_4 : Int) != 2) = false := eqq_t z3
     intro aa ww nn dd hs H
     refine toldC_r8 s b2 b1_1 b11 n2_4 s2_4 v2_4 n3_1 s3_1 v3_1 b5 n4_4 s4_4 v4_4 H aa nn (hs 4 _ rfl) (hs 5 _ rfl) ?_
     intro n8_6 s8_6 v8_6 n8_11 s8_11 v8_11 ab wv nn2 dd2 kp H2
     refine wIn nn2 (dd2.trans dd) (Sat.cons (Sat.cons (Sat.cons (Sat.cons (Sat.cons (Sat.cons (Sat.cons (Sat.cons (sat_nil ab) ((kp 37 rfl).trans (hs 37 _ rfl))) ((kp 25 rfl).trans (hs 25 _ rfl))) ((kp 24 rfl).trans (hs 24 _ rfl))) ((kp 5 rfl).trans (hs 5 _ rfl))) ((kp 4 rfl).trans (hs 4 _ rfl))) ((kp 3 rfl).trans (hs 3 _ rfl))) ((kp 2 rfl).trans (hs 2 _ rfl))) ((kp 0 rfl).trans (hs 0 _ rfl))) H2 ?_
     clear hs H kp H2 dd dd2 nn nn2
     refine bN (tN (wKK hK5 ?_))
     refine wSeqK fun KK14 hK14 => ?_
     refine wSeqK fun KK15 hK15 => ?_
     refine wReg ?_
     refine wLr rfl tynote_Notice 3 rfl [.int .i64 n3_1, .int .i64 n3_1, .int .i64 0, .int .i64 0, .int .i64 0, .int .i64 0, .int .i64 0, .int .i64 0, .int .i64 0, .int .i64 0, .int .i64 n8_6, .int .i64 n8_11] rfl rfl ?_
     refine wQ (l := [.agg #[.int .i64 n3_1, .int .i64 n3_1, .int .i64 0, .int .i64 0, .int .i64 0, .int .i64 0, .int .i64 0, .int .i64 0, .int .i64 0, .int .i64 0, .int .i64 n8_6, .int .i64 n8_11]]) Try.func19 rfl (by kernel_rfl) (.tuple #[.string ((tellV (⟨n3_1, (⟨n3_1, (⟨0, 0, 0, 0, 0, 0, 0, 0⟩ : CallV), n8_6, n8_11⟩ : ChgV)⟩ : NoteV)).1), .int .i64 ((tellV (⟨n3_1, (⟨n3_1, (⟨0, 0, 0, 0, 0, 0, 0, 0⟩ : CallV), n8_6, n8_11⟩ : ChgV)⟩ : NoteV)).2)]) (fun wc H => tellC (⟨n3_1, (⟨n3_1, (⟨0, 0, 0, 0, 0, 0, 0, 0⟩ : CallV), n8_6, n8_11⟩ : ChgV)⟩ : NoteV) wc) rfl rfl rfl rfl ?_
     iterate 5 refine p_toldC rfl ?_
     refine wN ?_
     refine tN (wKK hK15 ?_)
     refine wSeqK fun KK16 hK16 => ?_
     intro aa ww nn dd hs H
     refine toldC_r10x1 s b2 b1_1 b11 n2_4 s2_4 v2_4 n3_1 s3_1 v3_1 b5 n4_4 s4_4 v4_4 n8_6 s8_6 v8_6 n8_11 s8_11 v8_11 H aa nn (hs 0 _ rfl) (hs 4 _ rfl) (hs 6 _ rfl) (hs 7 _ rfl) ?_
     intro ab wv nn2 dd2 kp o69 H2
     refine wIn nn2 (dd2.trans dd) (Sat.cons (Sat.cons (Sat.cons (Sat.cons (Sat.cons (Sat.cons (Sat.cons (Sat.cons (Sat.cons (Sat.cons (Sat.cons (sat_nil ab) ((kp 37 rfl).trans (hs 37 _ rfl))) ((kp 25 rfl).trans (hs 25 _ rfl))) ((kp 24 rfl).trans (hs 24 _ rfl))) ((kp 7 rfl).trans (hs 7 _ rfl))) ((kp 6 rfl).trans (hs 6 _ rfl))) ((kp 5 rfl).trans (hs 5 _ rfl))) ((kp 4 rfl).trans (hs 4 _ rfl))) ((kp 3 rfl).trans (hs 3 _ rfl))) ((kp 2 rfl).trans (hs 2 _ rfl))) ((kp 0 rfl).trans (hs 0 _ rfl))) o69) H2 ?_
     clear hs H kp H2 dd dd2 nn nn2 o69
     refine tN (wKK hK16 ?_)
     refine wCond (E := ((((tellV (⟨n3_1, (⟨n3_1, (⟨0, 0, 0, 0, 0, 0, 0, 0⟩ : CallV), n8_6, n8_11⟩ : ChgV)⟩ : NoteV)).2) != 0) || (!(((tellV (⟨n3_1, (⟨n3_1, (⟨0, 0, 0, 0, 0, 0, 0, 0⟩ : CallV), n8_6, n8_11⟩ : ChgV)⟩ : NoteV)).1).toList == s.toList))) || (!((!(false || decide (1073741824 < (n3_1 : Int)))) && ((!v8_11) && s8_11.toList.isEmpty)))) rfl (fun z4 => ?_) (fun z4 => ?_)
     · skip
       refine wSeqK fun KK17 hK17 => ?_
       refine wReg ?_
       refine wE (.agg #[.int .i64 0, .int .i64 0, .int .i64 0, .int .i64 0, .int .i64 0, .int .i64 0, .int .i64 0, .int .i64 0, .int .i64 0, .int .i64 0, .int .i64 0, .int .i64 0]) rfl rfl rfl (fun aa ww hs _ => by simp only [execOp]; go_simp <;> omega) ?_
       refine wSr rfl tynote_Notice 8 rfl rfl rfl rfl [.int .i64 0, .int .i64 0, .int .i64 0, .int .i64 0, .int .i64 0, .int .i64 0, .int .i64 0, .int .i64 0, .int .i64 0, .int .i64 0, .int .i64 0, .int .i64 0] (by first | rfl | (simp only [spl]; rfl)) ?_
       refine p_toldC rfl ?_
       refine wN ?_
       refine tN (wKK hK17 ?_)
       refine wRet ?_
       refine tR ?_
       exact wRct tynote_Notice rfl rfl rfl 8 rfl rfl (fun ww H => (by have q0 := hp_told H (p := inNumV s8_6 v8_6 1 = (n8_11, s8_11, v8_11)) (by (repeat (first | exact List.Mem.head _ | apply List.Mem.tail))); have q1 := hp_told H (p := inNumV s4_4 v4_4 1 = (n8_6, s8_6, v8_6)) (by (repeat (first | exact List.Mem.head _ | apply List.Mem.tail))); have q2 := hp_told H (p := inNumV s3_1 v3_1 1 = (n4_4, s4_4, v4_4)) (by (repeat (first | exact List.Mem.head _ | apply List.Mem.tail))); have q3 := hp_told H (p := inNumV s2_4 v2_4 4 = (n3_1, s3_1, v3_1)) (by (repeat (first | exact List.Mem.head _ | apply List.Mem.tail))); have q4 := hp_told H (p := inNumV s false 1 = (n2_4, s2_4, v2_4)) (by (repeat (first | exact List.Mem.head _ | apply List.Mem.tail))); have ht := told_of (readN_car q4 q3 q2 z3 q1 q0) (by simpa only [Bool.false_or, zeroC, zeroG] using z4); rw [ht]; exact ⟨rfl, H.out.off⟩))
     · skip
       have z4l : ((((tellV (⟨n3_1, (⟨n3_1, (⟨0, 0, 0, 0, 0, 0, 0, 0⟩ : CallV), n8_6, n8_11⟩ : ChgV)⟩ : NoteV)).2) != 0) || (!(((tellV (⟨n3_1, (⟨n3_1, (⟨0, 0, 0, 0, 0, 0, 0, 0⟩ : CallV), n8_6, n8_11⟩ : ChgV)⟩ : NoteV)).1).toList == s.toList))) = false := Reg.ol z4
       have z4ll : (((tellV (⟨n3_1, (⟨n3_1, (⟨0, 0, 0, 0, 0, 0, 0, 0⟩ : CallV), n8_6, n8_11⟩ : ChgV)⟩ : NoteV)).2) != 0) = false := Reg.ol z4l
       have z4llo : (((tellV (⟨n3_1, (⟨n3_1, (⟨0, 0, 0, 0, 0, 0, 0, 0⟩ : CallV), n8_6, n8_11⟩ : ChgV)⟩ : NoteV)).2) == 0) = true := neq_f z4ll
       have z4lr : (!(((tellV (⟨n3_1, (⟨n3_1, (⟨0, 0, 0, 0, 0, 0, 0, 0⟩ : CallV), n8_6, n8_11⟩ : ChgV)⟩ : NoteV)).1).toList == s.toList)) = false := Reg.orr z4l
       have z4lrn : (((tellV (⟨n3_1, (⟨n3_1, (⟨0, 0, 0, 0, 0, 0, 0, 0⟩ : CallV), n8_6, n8_11⟩ : ChgV)⟩ : NoteV)).1).toList == s.toList) = true := Reg.bt z4lr
       have z4lrno : (((tellV (⟨n3_1, (⟨n3_1, (⟨0, 0, 0, 0, 0, 0, 0, 0⟩ : CallV), n8_6, n8_11⟩ : ChgV)⟩ : NoteV)).1).toList != s.toList) = false := eqq_t z4lrn
       have z4r : (!((!(false || decide (1073741824 < (n3_1 : Int)))) && ((!v8_11) && s8_11.toList.isEmpty))) = false := Reg.orr z4
       have z4rn : ((!(false || decide (1073741824 < (n3_1 : Int)))) && ((!v8_11) && s8_11.toList.isEmpty)) = true := Reg.bt z4r
       refine wSk ?_
       refine tN (wKK hK14 ?_)
       refine wSeqK fun KK18 hK18 => ?_
       refine wReg ?_
       refine wLr rfl tynote_Notice 3 rfl [.int .i64 n3_1, .int .i64 n3_1, .int .i64 0, .int .i64 0, .int .i64 0, .int .i64 0, .int .i64 0, .int .i64 0, .int .i64 0, .int .i64 0, .int .i64 n8_6, .int .i64 n8_11] rfl rfl ?_
       refine wSr rfl tynote_Notice 8 rfl rfl rfl rfl [.int .i64 n3_1, .int .i64 n3_1, .int .i64 0, .int .i64 0, .int .i64 0, .int .i64 0, .int .i64 0, .int .i64 0, .int .i64 0, .int .i64 0, .int .i64 n8_6, .int .i64 n8_11] (by first | rfl | (simp only [spl]; rfl)) ?_
       refine p_toldC rfl ?_
       refine wN ?_
       refine tN (wKK hK18 ?_)
       refine wRet ?_
       exact wRct tynote_Notice rfl rfl rfl 8 rfl rfl (fun ww H => (by have q0 := hp_told H (p := inNumV s8_6 v8_6 1 = (n8_11, s8_11, v8_11)) (by (repeat (first | exact List.Mem.head _ | apply List.Mem.tail))); have q1 := hp_told H (p := inNumV s4_4 v4_4 1 = (n8_6, s8_6, v8_6)) (by (repeat (first | exact List.Mem.head _ | apply List.Mem.tail))); have q2 := hp_told H (p := inNumV s3_1 v3_1 1 = (n4_4, s4_4, v4_4)) (by (repeat (first | exact List.Mem.head _ | apply List.Mem.tail))); have q3 := hp_told H (p := inNumV s2_4 v2_4 4 = (n3_1, s3_1, v3_1)) (by (repeat (first | exact List.Mem.head _ | apply List.Mem.tail))); have q4 := hp_told H (p := inNumV s false 1 = (n2_4, s2_4, v2_4)) (by (repeat (first | exact List.Mem.head _ | apply List.Mem.tail))); have ht := told_of (readN_car q4 q3 q2 z3 q1 q0) (by simpa only [Bool.false_or, zeroC, zeroG] using z4); rw [ht]; exact ⟨rfl, H.out.off⟩))
   · skip
     have z3o : ((n4_4 : Int) != 2) = true := eqq_f z3
     refine wSk ?_
     refine bN (tN (wKK hK5 ?_))
     refine wSeqK fun KK19 hK19 => ?_
     refine wSeqK fun KK20 hK20 => ?_
     refine wReg ?_
     refine wLr rfl tynote_Notice 1 rfl [.int .i64 n3_1, .int .i64 0, .int .i64 0, .int .i64 0, .int .i64 0, .int .i64 0, .int .i64 0, .int .i64 0, .int .i64 0, .int .i64 0, .int .i64 0, .int .i64 0] rfl rfl ?_
     refine wQ (l := [.agg #[.int .i64 n3_1, .int .i64 0, .int .i64 0, .int .i64 0, .int .i64 0, .int .i64 0, .int .i64 0, .int .i64 0, .int .i64 0, .int .i64 0, .int .i64 0, .int .i64 0]]) Try.func19 rfl (by kernel_rfl) (.tuple #[.string ((tellV (⟨n3_1, (⟨0, (⟨0, 0, 0, 0, 0, 0, 0, 0⟩ : CallV), 0, 0⟩ : ChgV)⟩ : NoteV)).1), .int .i64 ((tellV (⟨n3_1, (⟨0, (⟨0, 0, 0, 0, 0, 0, 0, 0⟩ : CallV), 0, 0⟩ : ChgV)⟩ : NoteV)).2)]) (fun wc H => tellC (⟨n3_1, (⟨0, (⟨0, 0, 0, 0, 0, 0, 0, 0⟩ : CallV), 0, 0⟩ : ChgV)⟩ : NoteV) wc) rfl rfl rfl rfl ?_
     iterate 5 refine p_toldC rfl ?_
     refine wN ?_
     refine tN (wKK hK20 ?_)
     refine wSeqK fun KK21 hK21 => ?_
     intro aa ww nn dd hs H
     refine toldC_r10x2 s b2 b1_1 b11 n2_4 s2_4 v2_4 n3_1 s3_1 v3_1 b5 n4_4 s4_4 v4_4 H aa nn (hs 0 _ rfl) (hs 4 _ rfl) (hs 6 _ rfl) (hs 7 _ rfl) ?_
     intro ab wv nn2 dd2 kp o69 H2
     refine wIn nn2 (dd2.trans dd) (Sat.cons (Sat.cons (Sat.cons (Sat.cons (Sat.cons (Sat.cons (Sat.cons (Sat.cons (Sat.cons (Sat.cons (Sat.cons (sat_nil ab) ((kp 37 rfl).trans (hs 37 _ rfl))) ((kp 25 rfl).trans (hs 25 _ rfl))) ((kp 24 rfl).trans (hs 24 _ rfl))) ((kp 7 rfl).trans (hs 7 _ rfl))) ((kp 6 rfl).trans (hs 6 _ rfl))) ((kp 5 rfl).trans (hs 5 _ rfl))) ((kp 4 rfl).trans (hs 4 _ rfl))) ((kp 3 rfl).trans (hs 3 _ rfl))) ((kp 2 rfl).trans (hs 2 _ rfl))) ((kp 0 rfl).trans (hs 0 _ rfl))) o69) H2 ?_
     clear hs H kp H2 dd dd2 nn nn2 o69
     refine tN (wKK hK21 ?_)
     refine wCond (E := ((((tellV (⟨n3_1, (⟨0, (⟨0, 0, 0, 0, 0, 0, 0, 0⟩ : CallV), 0, 0⟩ : ChgV)⟩ : NoteV)).2) != 0) || (!(((tellV (⟨n3_1, (⟨0, (⟨0, 0, 0, 0, 0, 0, 0, 0⟩ : CallV), 0, 0⟩ : ChgV)⟩ : NoteV)).1).toList == s.toList))) || (!((!(false || decide (1073741824 < (n3_1 : Int)))) && ((!v4_4) && s4_4.toList.isEmpty)))) rfl (fun z5 => ?_) (fun z5 => ?_)
     · skip
       refine wSeqK fun KK22 hK22 => ?_
       refine wReg ?_
       refine wE (.agg #[.int .i64 0, .int .i64 0, .int .i64 0, .int .i64 0, .int .i64 0, .int .i64 0, .int .i64 0, .int .i64 0, .int .i64 0, .int .i64 0, .int .i64 0, .int .i64 0]) rfl rfl rfl (fun aa ww hs _ => by simp only [execOp]; go_simp <;> omega) ?_
       refine wSr rfl tynote_Notice 6 rfl rfl rfl rfl [.int .i64 0, .int .i64 0, .int .i64 0, .int .i64 0, .int .i64 0, .int .i64 0, .int .i64 0, .int .i64 0, .int .i64 0, .int .i64 0, .int .i64 0, .int .i64 0] (by first | rfl | (simp only [spl]; rfl)) ?_
       refine p_toldC rfl ?_
       refine wN ?_
       refine tN (wKK hK22 ?_)
       refine wRet ?_
       refine tR ?_
       exact wRct tynote_Notice rfl rfl rfl 6 rfl rfl (fun ww H => (by have q0 := hp_told H (p := inNumV s3_1 v3_1 1 = (n4_4, s4_4, v4_4)) (by (repeat (first | exact List.Mem.head _ | apply List.Mem.tail))); have q1 := hp_told H (p := inNumV s2_4 v2_4 4 = (n3_1, s3_1, v3_1)) (by (repeat (first | exact List.Mem.head _ | apply List.Mem.tail))); have q2 := hp_told H (p := inNumV s false 1 = (n2_4, s2_4, v2_4)) (by (repeat (first | exact List.Mem.head _ | apply List.Mem.tail))); have ht := told_of (readN_gap q2 q1 q0 z1 z3) (by simpa only [Bool.false_or, zeroC, zeroG] using z5); rw [ht]; exact ⟨rfl, H.out.off⟩))
     · skip
       have z5l : ((((tellV (⟨n3_1, (⟨0, (⟨0, 0, 0, 0, 0, 0, 0, 0⟩ : CallV), 0, 0⟩ : ChgV)⟩ : NoteV)).2) != 0) || (!(((tellV (⟨n3_1, (⟨0, (⟨0, 0, 0, 0, 0, 0, 0, 0⟩ : CallV), 0, 0⟩ : ChgV)⟩ : NoteV)).1).toList == s.toList))) = false := Reg.ol z5
       have z5ll : (((tellV (⟨n3_1, (⟨0, (⟨0, 0, 0, 0, 0, 0, 0, 0⟩ : CallV), 0, 0⟩ : ChgV)⟩ : NoteV)).2) != 0) = false := Reg.ol z5l
       have z5llo : (((tellV (⟨n3_1, (⟨0, (⟨0, 0, 0, 0, 0, 0, 0, 0⟩ : CallV), 0, 0⟩ : ChgV)⟩ : NoteV)).2) == 0) = true := neq_f z5ll
       have z5lr : (!(((tellV (⟨n3_1, (⟨0, (⟨0, 0, 0, 0, 0, 0, 0, 0⟩ : CallV), 0, 0⟩ : ChgV)⟩ : NoteV)).1).toList == s.toList)) = false := Reg.orr z5l
       have z5lrn : (((tellV (⟨n3_1, (⟨0, (⟨0, 0, 0, 0, 0, 0, 0, 0⟩ : CallV), 0, 0⟩ : ChgV)⟩ : NoteV)).1).toList == s.toList) = true := Reg.bt z5lr
       have z5lrno : (((tellV (⟨n3_1, (⟨0, (⟨0, 0, 0, 0, 0, 0, 0, 0⟩ : CallV), 0, 0⟩ : ChgV)⟩ : NoteV)).1).toList != s.toList) = false := eqq_t z5lrn
       have z5r : (!((!(false || decide (1073741824 < (n3_1 : Int)))) && ((!v4_4) && s4_4.toList.isEmpty))) = false := Reg.orr z5
       have z5rn : ((!(false || decide (1073741824 < (n3_1 : Int)))) && ((!v4_4) && s4_4.toList.isEmpty)) = true := Reg.bt z5r
       refine wSk ?_
       refine tN (wKK hK19 ?_)
       refine wSeqK fun KK23 hK23 => ?_
       refine wReg ?_
       refine wLr rfl tynote_Notice 1 rfl [.int .i64 n3_1, .int .i64 0, .int .i64 0, .int .i64 0, .int .i64 0, .int .i64 0, .int .i64 0, .int .i64 0, .int .i64 0, .int .i64 0, .int .i64 0, .int .i64 0] rfl rfl ?_
       refine wSr rfl tynote_Notice 6 rfl rfl rfl rfl [.int .i64 n3_1, .int .i64 0, .int .i64 0, .int .i64 0, .int .i64 0, .int .i64 0, .int .i64 0, .int .i64 0, .int .i64 0, .int .i64 0, .int .i64 0, .int .i64 0] (by first | rfl | (simp only [spl]; rfl)) ?_
       refine p_toldC rfl ?_
       refine wN ?_
       refine tN (wKK hK23 ?_)
       refine wRet ?_
       exact wRct tynote_Notice rfl rfl rfl 6 rfl rfl (fun ww H => (by have q0 := hp_told H (p := inNumV s3_1 v3_1 1 = (n4_4, s4_4, v4_4)) (by (repeat (first | exact List.Mem.head _ | apply List.Mem.tail))); have q1 := hp_told H (p := inNumV s2_4 v2_4 4 = (n3_1, s3_1, v3_1)) (by (repeat (first | exact List.Mem.head _ | apply List.Mem.tail))); have q2 := hp_told H (p := inNumV s false 1 = (n2_4, s2_4, v2_4)) (by (repeat (first | exact List.Mem.head _ | apply List.Mem.tail))); have ht := told_of (readN_gap q2 q1 q0 z1 z3) (by simpa only [Bool.false_or, zeroC, zeroG] using z5); rw [ht]; exact ⟨rfl, H.out.off⟩))
def isAnsV (s : ByteArray) : Bool := (!s.toList.isEmpty) && (nums s).headD 0 == 128
theorem isAnsC (s : ByteArray) (w : World) : Calls Try.prog 21 #[.string s] w fun e w' => e = .returned (.bool (isAnsV s)) ∧ w = w' := by
  rcases Bool.eq_false_or_eq_true s.toList.isEmpty with e | e
  · go_enter Try.func21, Try.ntmps21
    go_wp2
    go_ret
    exact ⟨by simp [isAnsV, e], rfl⟩
  · have hs : 0 < s.size := by
      rw [ByteArray.toList_eq] at e
      cases hx : s.size with
      | zero =>
        have h2 : s.data.toList = [] := List.length_eq_zero_iff.1 hx
        rw [h2] at e
        cases e
      | succ n => omega
    go_enter Try.func21, Try.ntmps21
    go_wp2
    go_ret
    refine ⟨congrArg (fun z => Ending.returned (.bool z)) ?_, rfl⟩
    have h0 : (nums s)[0]? = some s[0].toNat := by
      unfold nums
      rw [List.getElem?_map, List.getElem?_eq_getElem (show 0 < s.data.toList.length from hs)]
      rfl
    unfold isAnsV
    rw [e]
    cases hn : nums s with
    | nil => rw [hn] at h0; cases h0
    | cons c l =>
      rw [hn] at h0
      have h1 : c = s[0].toNat := Option.some.inj h0
      rw [← h1]
      rw [Bool.eq_iff_iff]
      simp
      omega
end Go.Proofs.Ytloemjhhedkhiaa.Nt
