/- Layer 15: what readers read. -/
import Derived.Test.YtloemjhhedkhiaaProg
import Derived.Below
import Derived.WalkKit
import Derived.KernelRfl
import Derived.RowKit3
import Derived.Deep.LoopGhost
import Derived.Deep.QuietTactic
import Derived.BigQuiet
import Derived.WideLaws
import Derived.Deep.DeepCutAuto
import Derived.Deep.CutBlock
import Derived.Lib.Hide
import Derived.Laws.BitsLemmas
import Derived.Laws.Bits64
import Derived.Laws.BitsAllLaws
import Derived.IntWalk
import Derived.Outline
import Derived.WalkSpells
import Derived.Test.YtloemjhhedkhiaaMem
import Derived.Test.YtloemjhhedkhiaaNw2
namespace Go.Proofs.Ytloemjhhedkhiaa.Nt
open Go.RowKit Go.Proofs.Ytloemjhhedkhiaa.Mem Go.Proofs.Ytloemjhhedkhiaa.Pk Go.Proofs.Ytloemjhhedkhiaa.Reg Go.Proofs.Ytloemjhhedkhiaa.Wk
set_option linter.unusedVariables false
set_option linter.unusedSimpArgs false

instance : Inhabited CallV := ⟨zeroC⟩
theorem inNumXH {S : List Nat} {w0 w : World} {R : List Res} (H : Hid (Hp S w0 w R)) {b : Nat} {s : ByteArray} {bad : Bool} {n : Int} {i : Nat} (hi : R[i]? = some (rB b 117 [.string s, .bool bad])) :
    Calls Try.prog 41 #[.pointer (some ⟨b, 0, none⟩), .int .i64 n] w fun e w' => ∃ (m : Nat) (s2 : ByteArray) (b2 : Bool), e = .returned (.int .i64 (m : Int)) ∧ inNumV s bad n = (m, s2, b2) ∧ Hid (Hp S w0 w' (R.set i (rB b 117 [.string s2, .bool b2]))) := by
  refine (inNumH H hi).mono ?_
  rintro e w' ⟨rfl, H2⟩
  exact ⟨_, _, _, rfl, rfl, H2⟩
theorem blk_ne {S : List Nat} {w0 w : World} {R : List Res} (H : Hid (Hp S w0 w R)) {b1 b2 : Nat} {t1 t2 : TypeId} {c1 c2 : List Value} {i j : Nat} (hi : R[i]? = some (rB b1 t1 c1)) (hj : R[j]? = some (rB b2 t2 c2)) (hij : i ≠ j) : b1 ≠ b2 := fun e => Hp.two H.out hi hj hij rfl b1 (by simp [rB]) (by simp [rB, e])
theorem hp_one {S : List Nat} {w0 w w' : World} {R : List Res} (H : Hid (Hp S w0 w R)) {b : Nat} {t : TypeId} {c d : List Value} {i : Nat} (hi : R[i]? = some (rB b t c)) (hb : Blk w' b d.toArray t) (ho : Off [b] w w') : Hid (Hp S w0 w' (R.set i (rB b t d))) :=
  Lib.hid (H.out.step i hi _ ho (by simp [rB]) hb (by simp only [rB, List.mem_singleton]; rintro k rfl; exact ⟨.inl rfl, hb.lt⟩))
theorem hp_twice_new {S : List Nat} {w0 w w' : World} {R : List Res} {b1 b2 : Nat} {t1 t2 : TypeId} {c1 c2 d1 d2 : List Value} {r : Res} (H : Hid (Hp S w0 w (rB b1 t1 c1 :: rB b2 t2 c2 :: R))) (h1 : Blk w' b1 d1.toArray t1) (h2 : Blk w' b2 d2.toArray t2) (ho : Off [b1, b2] w w') (hr : r.holds w') (hro : r.ro = true) (hf : ∀ k ∈ r.foot, w.heap.size ≤ k ∧ k < w'.heap.size) :
    Hid (Hp S w0 w' (r :: rB b1 t1 d1 :: rB b2 t2 d2 :: R)) := by
  have H2 := hp_twice H h1 h2 ho
  have lt1 := H.out.lt _ (List.mem_cons_self ..) b1 (by simp [rB])
  have lt2 := H.out.lt (rB b2 t2 c2) (by simp) b2 (by simp [rB])
  refine Lib.hid ⟨H2.out.off, fun q hq => ?_, fun q hq k hk => ?_, fun q hq hqo k hk => ?_, List.pairwise_cons.2 ⟨fun q hq _ k hk hk' => ?_, H2.out.sep⟩⟩
  · rcases List.mem_cons.1 hq with rfl | hq
    · exact hr
    · exact H2.out.holds q hq
  · rcases List.mem_cons.1 hq with rfl | hq
    · exact (hf k hk).2
    · exact H2.out.lt q hq k hk
  · rcases List.mem_cons.1 hq with rfl | hq
    · rw [hro] at hqo; cases hqo
    · exact H2.out.newf q hq hqo k hk
  · have h3 := (hf k hk).1
    simp only [List.mem_cons] at hq
    rcases hq with rfl | rfl | hq
    · simp only [rB, List.mem_singleton] at hk'; omega
    · simp only [rB, List.mem_singleton] at hk'; omega
    · have := H.out.lt q (by simp [hq]) k hk'; omega
theorem give_A {a : Option Addr} {c e k : Nat} {rows : List (List Value)} {w w' : World} (h : (rA a c e k rows).holds w') (hf : ∀ q ∈ footA a, w.heap.size ≤ q) : (rS a c k rows).holds w' ∧ ∀ q ∈ (rS a c k rows).foot, w.heap.size ≤ q :=
  ⟨⟨rows_owns h.1 rfl h.2.len, h.2⟩, fun q hq => hf q (by
    cases rows with
    | nil => cases hq
    | cons r l => exact hq)⟩
theorem fresh2 {w0 w : World} {R : List Res} {b1 b2 : Nat} (H : Hid (Hp [b1, b2] w0 w R)) {t1 t2 : TypeId} {c1 c2 : List Value} {a : Option Addr} {c e k : Nat} {rows : List (List Value)} {i j l : Nat} (hi : R[i]? = some (rB b1 t1 c1)) (hj : R[j]? = some (rB b2 t2 c2)) (hl : R[l]? = some (rA a c e k rows)) (h1 : l ≠ i) (h2 : l ≠ j) : ∀ q ∈ footA a, w0.heap.size ≤ q := fun q hq => by
  rcases H.out.newf _ (List.mem_of_getElem? hl) rfl q hq with h | h
  · simp only [List.mem_cons, List.not_mem_nil, or_false] at h
    rcases h with rfl | rfl
    · exact absurd (by simp [rB]) (Hp.two H.out hl hi h1 rfl q hq)
    · exact absurd (by simp [rB]) (Hp.two H.out hl hj h2 rfl q hq)
  · exact h
theorem rS_none (w : World) : (rS none 0 8 (([] : List CallV).map callRow)).holds w ∧ ∀ q ∈ (rS none 0 8 (([] : List CallV).map callRow)).foot, w.heap.size ≤ q := ⟨⟨.inl ⟨rfl, rfl⟩, Wf.nil _⟩, by intro q hq; cases hq⟩
/-- a list of calls that is read -/
def readCalls (st : ByteArray × Bool) : List CallV × Bool × (ByteArray × Bool) :=
  let g := inNumV st.1 st.2 2
  let h := dCalls g.1 (g.2.1, bif decide (64 < (g.1 : Int)) then true else g.2.2)
  (if h.2.2.2 = true then [] else h.1, h.2)
theorem read_by (s : ByteArray) : readV s = (
  let a := inNumV s false 1
  let b := inNumV a.2.1 a.2.2 4
  let c := inNumV b.2.1 b.2.2 1
  let d := inNumV c.2.1 c.2.2 4
  let e := inNumV d.2.1 d.2.2 4
  let f := inNumV e.2.1 e.2.2 4
  let h := readCalls (f.2.1, f.2.2)
  (a.1, ⟨b.1, c.1, d.1, e.1, f.1, h.1⟩, ((decide (1073741824 < (b.1 : Int)) || decide (1073741824 < (d.1 : Int))) || decide (1073741824 < (e.1 : Int))) || h.2.1, h.2.2)) := by
  simp only [readV, readCalls]
theorem elCall : ElI Try.prog 62 25 8 64 := ElI.of (by kernel_rfl) (by kernel_rfl) (by decide)
theorem dcalls_bad (n : Nat) (s : ByteArray) : dCalls n (s, true) = ([], false, (s, true)) := by
  cases n <;> rfl
theorem dcalls_step {n : Nat} {s s2 : ByteArray} {x : CallV} {bg b2 : Bool} (h : dCall (s, false) = (x, bg, (s2, b2))) : dCalls (n + 1) (s, false) = (x :: (dCalls n (s2, b2)).1, bg || (dCalls n (s2, b2)).2.1, (dCalls n (s2, b2)).2.2) := by
  simp only [dCalls, Bool.false_eq_true, if_false]
  rw [h]
/-- k calls are read: what is still to come -/
def Sofar (n k : Nat) (st0 : ByteArray × Bool) (ys : List CallV) (bg : Bool) (st : ByteArray × Bool) : Prop := k ≤ n ∧ ys.length = k ∧ dCalls n st0 = (ys ++ (dCalls (n - k) st).1, bg || (dCalls (n - k) st).2.1, (dCalls (n - k) st).2.2)
theorem sofar_start (n : Nat) (st : ByteArray × Bool) : Sofar n 0 st [] false st := ⟨Nat.zero_le _, rfl, by simp⟩
theorem sofar_next {n k : Nat} {st0 : ByteArray × Bool} {ys : List CallV} {bg g2 b2 : Bool} {s s2 : ByteArray} {x : CallV} (h : Sofar n k st0 ys bg (s, false)) (hk : k < n) (hd : dCall (s, false) = (x, g2, (s2, b2))) : Sofar n (k + 1) st0 (ys ++ [x]) (bg || g2) (s2, b2) := by
  obtain ⟨h1, h2, h3⟩ := h
  refine ⟨hk, by simp [h2], ?_⟩
  rw [h3, show n - k = (n - (k + 1)) + 1 by omega, dcalls_step hd]
  simp [Bool.or_assoc]
theorem sofar_bad {n k : Nat} {st0 : ByteArray × Bool} {ys : List CallV} {bg : Bool} {s : ByteArray} (h : Sofar n k st0 ys bg (s, true)) : dCalls n st0 = (ys, bg, (s, true)) := by
  rw [h.2.2, dcalls_bad]
  simp
theorem sofar_all {n : Nat} {st0 : ByteArray × Bool} {ys : List CallV} {bg : Bool} {st : ByteArray × Bool} (h : Sofar n n st0 ys bg st) : dCalls n st0 = (ys, bg, st) := by
  rw [h.2.2, Nat.sub_self]
  simp [dCalls]
theorem tyP_pack_In : TyI Try.prog 83 1 false [.pointer none] := ⟨by kernel_rfl, by kernel_rfl, by kernel_rfl⟩
theorem tybool : TyI Try.prog 4 1 false [.bool false] := ⟨by kernel_rfl, by kernel_rfl, by kernel_rfl⟩
theorem tyP_int : TyI Try.prog 121 1 false [.pointer none] := ⟨by kernel_rfl, by kernel_rfl, by kernel_rfl⟩
theorem tynote_reader : TyI Try.prog 109 2 true [.pointer none, .bool false] := ⟨by kernel_rfl, by kernel_rfl, by kernel_rfl⟩
def tab_countC : Wk.Tab := [(109, 0, 0)]
theorem p_countC {ops : Array Oper} {rest : List Oper} {o : Oper} {w0 : World} {Q : Exit → Act → World → Prop} {S : List Nat} {R : List Res} {K K' : Wk.Env} {N : Nat} (h : Wk.stp tab_countC N ops K o = some K') (n : Wk.Wk N S w0 K' R (wpList Try.prog ops Q rest)) : Wk.Wk N S w0 K R (wpList Try.prog ops Q (o :: rest)) := Wk.wP (T := tab_countC) (by kernel_rfl) h n
set_option maxRecDepth 20000 in
theorem countC_r2 (br : Nat) (bi : Nat) (big : Bool) (s : ByteArray) (bad : Bool) (n1_4 : Nat) (s1_4 : ByteArray) (v1_4 : Bool) {wa wb : World} (H : Hid (Hp [br, bi] wa wb [rP (inNumV s bad 4 = (n1_4, s1_4, v1_4)), rB br 109 [.pointer (some ⟨bi, 0, none⟩), .bool big], rB bi 117 [.string s1_4, .bool v1_4]])) (ac0 : Act) (hz : ac0.tmps.size = 21) (so0 : ac0.eval (.tmp 0) = .pointer (some ⟨br, 0, none⟩)) (so3 : ac0.eval (.tmp 3) = .int .i64 n1_4) {QR : Exit → Act → World → Prop} (hfin : ∀ (ac1 : Act) (wz : World), ac1.tmps.size = 21 → ac1.defers = ac0.defers → (∀ t, ([9, 10, 11, 12, 13, 14, 15, 16, 17, 18, 19] : List Nat).contains t = false → ac1.eval (.tmp t) = ac0.eval (.tmp t)) →  Hid (Hp [br, bi] wa wz [rP (inNumV s bad 4 = (n1_4, s1_4, v1_4)), rB br 109 [.pointer (some ⟨bi, 0, none⟩), .bool (big || (decide (1073741824 < (n1_4 : Int))))], rB bi 117 [.string s1_4, .bool v1_4]]) → QR .normal ac1 wz) : (regAt Try.f52 2).wp Try.prog QR ac0 wb := by
  refine wp_region_sq (by kernel_rfl) 21 hz (by kernel_rfl) (fun (xx : Unit) jx => nth [.pointer (some ⟨br, 0, none⟩), .pointer (some ⟨br, 0, none⟩), .pointer (some ⟨br, 0, none⟩), .pointer (some ⟨br, 1, none⟩), .bool big, .bool big, bif !big then .int .i64 n1_4 else undef, bif !big then .bool (decide (1073741824 < (n1_4 : Int))) else undef, .bool (big || (decide (1073741824 < (n1_4 : Int)))), .pointer (some ⟨br, 0, none⟩), .pointer (some ⟨br, 1, none⟩), undef] jx) (fun (LL : Nat → Bool) (xx : Unit) ww => Hp [br, bi] wa ww (bif LL 11 then [rP (inNumV s bad 4 = (n1_4, s1_4, v1_4)), rB br 109 [.pointer (some ⟨bi, 0, none⟩), .bool (big || (decide (1073741824 < (n1_4 : Int))))], rB bi 117 [.string s1_4, .bool v1_4]] else [rP (inNumV s bad 4 = (n1_4, s1_4, v1_4)), rB br 109 [.pointer (some ⟨bi, 0, none⟩), .bool big], rB bi 117 [.string s1_4, .bool v1_4]])) () H.out ?_ (steps_al ?_) ?_ ?_
  · intro L1 L2 xx ww hL sg
    have lh11 := hL 11 (by decide)
    simp only [lh11] at sg
    exact sg
  · refine al_cons ?_ (al_cons ?_ (al_cons ?_ (al_cons ?_ (al_cons ?_ (al_cons ?_ (al_cons ?_ (al_cons ?_ (al_cons ?_ (al_cons ?_ (al_cons ?_ (al_cons ?_ (al_nil))))))))))))
    · intro LL xx ac wc sg hst hwant QQ hgo
      exact op_val hwant hgo hst _ (exec_move rfl ((sg.free 0 (by kernel_rfl)).trans so0)) rfl
    · intro LL xx ac wc sg hst hwant QQ hgo
      exact op_val hwant hgo hst _ (exec_move rfl ((sg.free 0 (by kernel_rfl)).trans so0)) rfl
    · intro LL xx ac wc sg hst hwant QQ hgo
      have se10 : ac.eval (.tmp 10) = _ := (sg.slot 1 (sg.anc 1 rfl))
      have sg10 := gt_of se10
      (try simp only [nth] at se10 sg10)
      exact op_val hwant hgo hst _ (by simp only [execOp, nth]; go_simp <;> omega) rfl
    · intro LL xx ac wc sg hst hwant QQ hgo
      have se11 : ac.eval (.tmp 11) = _ := (sg.slot 2 (sg.anc 2 rfl))
      have sg11 := gt_of se11
      (try simp only [nth] at se11 sg11)
      exact op_val hwant hgo hst _ (by simp only [execOp, nth]; go_simp <;> omega) rfl
    · intro LL xx ac wc sg hst hwant QQ hgo
      have H := Lib.hid hst
      simp only [sg.des 11 rfl, cond_true, cond_false] at H
      refine hpA_load1 tybool H rfl (sg.slot 3 (sg.anc 3 rfl)) hwant (by (repeat (first | exact List.Mem.head _ | apply List.Mem.tail))) (by rfl) ?_
      exact hgo _ () _ (fun _ _ => rfl) rfl hst
    · intro LL xx ac wc sg hst hwant QQ hgo
      exact op_val hwant hgo hst _ (exec_move rfl (sg.slot 4 (sg.anc 4 rfl))) rfl
    · intro LL xx ac wc sg hst hwant QQ hgo
      have hG : (!big) = true := (want_f rfl rfl (sg.slot 5 (sg.anc 5 rfl))).symm.trans hwant
      exact op_val hwant hgo hst _ (exec_move rfl ((sg.free 3 (by kernel_rfl)).trans so3)) (cI hG)
    · intro LL xx ac wc sg hst hwant QQ hgo
      have hG : (!big) = true := (want_f rfl rfl (sg.slot 5 (sg.anc 5 rfl))).symm.trans hwant
      have se15 : ac.eval (.tmp 15) = _ := (cT (sg.slot 6 (sg.anc 6 rfl)) hG)
      have sg15 := gt_of se15
      (try simp only [nth] at se15 sg15)
      exact op_val hwant hgo hst _ (by simp only [execOp, nth]; go_simp <;> omega) (cI hG)
    · intro LL xx ac wc sg hst hwant QQ hgo
      exact op_val hwant hgo hst (.bool (big || (decide (1073741824 < (n1_4 : Int))))) (exec_or (Y := decide (1073741824 < (n1_4 : Int))) rfl (sg.slot 5 (sg.anc 5 rfl)) (fun qq => cT (sg.slot 7 (sg.anc 7 rfl)) (bk qq))) rfl
    · intro LL xx ac wc sg hst hwant QQ hgo
      have se9 : ac.eval (.tmp 9) = _ := (sg.slot 0 (sg.anc 0 rfl))
      have sg9 := gt_of se9
      (try simp only [nth] at se9 sg9)
      exact op_val hwant hgo hst _ (by simp only [execOp, nth]; go_simp <;> omega) rfl
    · intro LL xx ac wc sg hst hwant QQ hgo
      have se18 : ac.eval (.tmp 18) = _ := (sg.slot 9 (sg.anc 9 rfl))
      have sg18 := gt_of se18
      (try simp only [nth] at se18 sg18)
      exact op_val hwant hgo hst _ (by simp only [execOp, nth]; go_simp <;> omega) rfl
    · intro LL xx ac wc sg hst hwant QQ hgo
      have H := Lib.hid hst
      simp only [sg.self, cond_true, cond_false] at H
      refine hpA_store1 tybool H rfl rfl (sg.slot 10 (sg.anc 10 rfl)) (sg.slot 8 (sg.anc 8 rfl)) (by rfl) (by repeat (first | apply Put.head | apply Put.tail)) (by simp [List.length_cons]) (by first | rfl | (simp [List.length_cons, Value.oneCell'])) (by rfl) rfl ?_
      intro wd H2
      exact hgo _ () _ (fun _ _ => rfl) rfl (by simp only [(show upd LL 11 11 = true from rfl), cond_true, cond_false]; exact H2.out)
  · refine skips [6, 7] (by kernel_rfl) ?_
    refine List.forall_mem_cons.2 ⟨?_, List.forall_mem_cons.2 ⟨?_, fun _ h => by cases h⟩⟩
    · intro oo hop LL xx ac sg hwant
      cases Option.some.inj hop
      have hG : (!big) = false := (want_f rfl rfl (sg.slot 5 (sg.anc 5 rfl))).symm.trans hwant
      exact ⟨cF hG, fun _ h => h⟩
    · intro oo hop LL xx ac sg hwant
      cases Option.some.inj hop
      have hG : (!big) = false := (want_f rfl rfl (sg.slot 5 (sg.anc 5 rfl))).symm.trans hwant
      exact ⟨cF hG, fun _ h => h⟩
  · intro xx ac1 wz hfr hsl hst
    exact hfin ac1 wz (hfr.size.trans hz) hfr.defers (fr_keep hfr [9, 10, 11, 12, 13, 14, 15, 16, 17, 18, 19] (by kernel_rfl)) (Lib.hid hst)
set_option maxHeartbeats 16000000 in
set_option maxRecDepth 20000 in
theorem countC (br : Nat) (bi : Nat) (big : Bool) (s : ByteArray) (bad : Bool) (w : World) (h1 : (rB br 109 [.pointer (some ⟨bi, 0, none⟩), .bool big]).holds w) (h2 : (rB bi 117 [.string s, .bool bad]).holds w) (hne : br ≠ bi) : Calls Try.prog 52 #[.pointer (some ⟨br, 0, none⟩)] w fun e w' => ∃ (n : Nat) (s2 : ByteArray) (b2 : Bool), e = .returned (.int .i64 (n : Int)) ∧ inNumV s bad 4 = (n, s2, b2) ∧ (rB br 109 [.pointer (some ⟨bi, 0, none⟩), .bool (big || decide (1073741824 < (n : Int)))]).holds w' ∧ (rB bi 117 [.string s2, .bool b2]).holds w' ∧ Off [br, bi] w w' := by
 have H := Lib.hid (Hp.start [] w)
 have H := hp_two h1 h2 hne
 clear h1 h2
 refine wStart (args := [.pointer (some ⟨br, 0, none⟩)]) Try.func52 rfl rfl rfl H ?_
 clear H
 show Wk 21 _ _ [(0, .pointer (some ⟨br, 0, none⟩))] _ _
 refine wSeqK fun KK1 hK1 => ?_
 refine wReg ?_
 refine p_countC rfl ?_
 refine wN ?_
 refine tN (wKK hK1 ?_)
 refine wSeqK fun KK2 hK2 => ?_
 refine wReg ?_
 iterate 3 refine p_countC rfl ?_
 refine wLd rfl tyP_pack_In 0 rfl rfl ?_
 refine wC (l := [.pointer (some ⟨bi, 0, none⟩), .int .i64 4]) Try.func41 rfl (by kernel_rfl) (fun wc H => inNumXH H (i := 1) (n := 4) rfl) rfl rfl rfl rfl ?_
 intro wc H
 rintro er wd ⟨n1_4, s1_4, v1_4, rfl, hq1, H2⟩
 replace H2 := hp_fact H2 hq1
 refine ⟨_, rfl, wkAt H2 ?_⟩
 clear H H2
 refine p_countC rfl ?_
 refine wN ?_
 refine tN (wKK hK2 ?_)
 refine wSeqK fun KK3 hK3 => ?_
 intro aa ww nn dd hs H
 refine countC_r2 br bi big s bad n1_4 s1_4 v1_4 H aa nn (hs 0 _ rfl) (hs 3 _ rfl) ?_
 intro ab wv nn2 dd2 kp H2
 refine wIn nn2 (dd2.trans dd) (Sat.cons (Sat.cons (Sat.cons (sat_nil ab) ((kp 3 rfl).trans (hs 3 _ rfl))) ((kp 2 rfl).trans (hs 2 _ rfl))) ((kp 0 rfl).trans (hs 0 _ rfl))) H2 ?_
 clear hs H kp H2 dd dd2 nn nn2
 refine tN (wKK hK3 ?_)
 refine wSeqK fun KK4 hK4 => ?_
 refine wReg ?_
 iterate 2 refine p_countC rfl ?_
 refine wN ?_
 refine tN (wKK hK4 ?_)
 refine wRet ?_
 exact wR1 rfl rfl (fun ww H => (by have q0 := hp_told H (p := inNumV s bad 4 = (n1_4, s1_4, v1_4)) (by (repeat (first | exact List.Mem.head _ | apply List.Mem.tail))); exact ⟨_, _, _, rfl, q0, H.out.holds _ (by (repeat (first | exact List.Mem.head _ | apply List.Mem.tail))), H.out.holds _ (by (repeat (first | exact List.Mem.head _ | apply List.Mem.tail))), H.out.off⟩))
def tab_endC : Wk.Tab := []
theorem p_endC {ops : Array Oper} {rest : List Oper} {o : Oper} {w0 : World} {Q : Exit → Act → World → Prop} {S : List Nat} {R : List Res} {K K' : Wk.Env} {N : Nat} (h : Wk.stp tab_endC N ops K o = some K') (n : Wk.Wk N S w0 K' R (wpList Try.prog ops Q rest)) : Wk.Wk N S w0 K R (wpList Try.prog ops Q (o :: rest)) := Wk.wP (T := tab_endC) (by kernel_rfl) h n
set_option maxRecDepth 20000 in
theorem endC_r1 (br : Nat) (bi : Nat) (big : Bool) (s : ByteArray) (bad : Bool) {wa wb : World} (H : Hid (Hp [] wa wb [rK bi 117 [.string s, .bool bad], rK br 109 [.pointer (some ⟨bi, 0, none⟩), .bool big]])) (ac0 : Act) (hz : ac0.tmps.size = 15) (so0 : ac0.eval (.tmp 0) = .pointer (some ⟨br, 0, none⟩)) {QR : Exit → Act → World → Prop} (hfin : ∀ (ac1 : Act) (wz : World), ac1.tmps.size = 15 → ac1.defers = ac0.defers → (∀ t, ([2, 3, 4, 5, 6, 7, 8, 9, 10, 11, 12, 13, 14] : List Nat).contains t = false → ac1.eval (.tmp t) = ac0.eval (.tmp t)) → ac1.eval (.tmp 2) = .bool ((!big) && ((!bad) && s.toList.isEmpty)) →  Hid (Hp [] wa wz [rK bi 117 [.string s, .bool bad], rK br 109 [.pointer (some ⟨bi, 0, none⟩), .bool big]]) → QR .normal ac1 wz) : (regAt Try.f54 1).wp Try.prog QR ac0 wb := by
  refine wp_region_sq (by kernel_rfl) 15 hz (by kernel_rfl) (fun (xx : Unit) jx => nth [.pointer (some ⟨br, 0, none⟩), .pointer (some ⟨br, 0, none⟩), .pointer (some ⟨br, 1, none⟩), .bool big, .bool (!big), .bool (!big), bif (!big) then .pointer (some ⟨br, 0, none⟩) else undef, bif (!big) then .pointer (some ⟨br, 0, none⟩) else undef, bif (!big) then .pointer (some ⟨br, 0, none⟩) else undef, bif (!big) then .pointer (some ⟨bi, 0, none⟩) else undef, bif (!big) then .bool ((!bad) && s.toList.isEmpty) else undef, .bool ((!big) && ((!bad) && s.toList.isEmpty)), .bool ((!big) && ((!bad) && s.toList.isEmpty))] jx) (fun (LL : Nat → Bool) (xx : Unit) ww => Hp [] wa ww [rK bi 117 [.string s, .bool bad], rK br 109 [.pointer (some ⟨bi, 0, none⟩), .bool big]]) () H.out ?_ (steps_al ?_) ?_ ?_
  · exact fun _ _ _ _ _ h => h
  · refine al_cons ?_ (al_cons ?_ (al_cons ?_ (al_cons ?_ (al_cons ?_ (al_cons ?_ (al_cons ?_ (al_cons ?_ (al_cons ?_ (al_cons ?_ (al_cons ?_ (al_cons ?_ (al_cons ?_ (al_nil)))))))))))))
    · intro LL xx ac wc sg hst hwant QQ hgo
      exact op_val hwant hgo hst _ (exec_move rfl ((sg.free 0 (by kernel_rfl)).trans so0)) rfl
    · intro LL xx ac wc sg hst hwant QQ hgo
      have se3 : ac.eval (.tmp 3) = _ := (sg.slot 0 (sg.anc 0 rfl))
      have sg3 := gt_of se3
      (try simp only [nth] at se3 sg3)
      exact op_val hwant hgo hst _ (by simp only [execOp, nth]; go_simp <;> omega) rfl
    · intro LL xx ac wc sg hst hwant QQ hgo
      have se4 : ac.eval (.tmp 4) = _ := (sg.slot 1 (sg.anc 1 rfl))
      have sg4 := gt_of se4
      (try simp only [nth] at se4 sg4)
      exact op_val hwant hgo hst _ (by simp only [execOp, nth]; go_simp <;> omega) rfl
    · intro LL xx ac wc sg hst hwant QQ hgo
      have H := Lib.hid hst
      refine hpK_load1 tybool H rfl (sg.slot 2 (sg.anc 2 rfl)) hwant (by (repeat (first | exact List.Mem.head _ | apply List.Mem.tail))) (by rfl) ?_
      exact hgo _ () _ (fun _ _ => rfl) rfl hst
    · intro LL xx ac wc sg hst hwant QQ hgo
      have se6 : ac.eval (.tmp 6) = _ := (sg.slot 3 (sg.anc 3 rfl))
      have sg6 := gt_of se6
      (try simp only [nth] at se6 sg6)
      exact op_val hwant hgo hst _ (by simp only [execOp, nth]; go_simp <;> omega) rfl
    · intro LL xx ac wc sg hst hwant QQ hgo
      exact op_val hwant hgo hst _ (exec_move rfl (sg.slot 4 (sg.anc 4 rfl))) rfl
    · intro LL xx ac wc sg hst hwant QQ hgo
      have hG : (!big) = true := (want_t rfl rfl (sg.slot 5 (sg.anc 5 rfl))).symm.trans hwant
      exact op_val hwant hgo hst _ (exec_move rfl ((sg.free 0 (by kernel_rfl)).trans so0)) (cI hG)
    · intro LL xx ac wc sg hst hwant QQ hgo
      have hG : (!big) = true := (want_t rfl rfl (sg.slot 5 (sg.anc 5 rfl))).symm.trans hwant
      have se9 : ac.eval (.tmp 9) = _ := (cT (sg.slot 6 (sg.anc 6 rfl)) hG)
      have sg9 := gt_of se9
      (try simp only [nth] at se9 sg9)
      exact op_val hwant hgo hst _ (by simp only [execOp, nth]; go_simp <;> omega) (cI hG)
    · intro LL xx ac wc sg hst hwant QQ hgo
      have hG : (!big) = true := (want_t rfl rfl (sg.slot 5 (sg.anc 5 rfl))).symm.trans hwant
      have se10 : ac.eval (.tmp 10) = _ := (cT (sg.slot 7 (sg.anc 7 rfl)) hG)
      have sg10 := gt_of se10
      (try simp only [nth] at se10 sg10)
      exact op_val hwant hgo hst _ (by simp only [execOp, nth]; go_simp <;> omega) (cI hG)
    · intro LL xx ac wc sg hst hwant QQ hgo
      have hG : (!big) = true := (want_t rfl rfl (sg.slot 5 (sg.anc 5 rfl))).symm.trans hwant
      have H := Lib.hid hst
      refine hpK_load1 tyP_pack_In H rfl (cT (sg.slot 8 (sg.anc 8 rfl)) hG) hwant (by (repeat (first | exact List.Mem.head _ | apply List.Mem.tail))) (by rfl) ?_
      exact hgo _ () _ (fun _ _ => rfl) (cI hG) hst
    · intro LL xx ac wc sg hst hwant QQ hgo
      have hG : (!big) = true := (want_t rfl rfl (sg.slot 5 (sg.anc 5 rfl))).symm.trans hwant
      have se12 : ac.eval (.tmp 12) = _ := (cT (sg.slot 9 (sg.anc 9 rfl)) hG)
      have sg12 := gt_of se12
      (try simp only [nth] at se12 sg12)
      have H := Lib.hid hst
      refine op_call hwant hgo 43 _ (by simp only [execOp]; go_simp) (inEnd bi s bad wc (H.out.at 0 rfl)) ?_
      rintro er wd ⟨rfl, rfl⟩
      exact ⟨_, (), rfl, fun _ _ => rfl, (cI hG), hst⟩
    · intro LL xx ac wc sg hst hwant QQ hgo
      exact op_val hwant hgo hst (.bool ((!big) && ((!bad) && s.toList.isEmpty))) (exec_and (Y := (!bad) && s.toList.isEmpty) rfl (sg.slot 5 (sg.anc 5 rfl)) (fun qq => cT (sg.slot 10 (sg.anc 10 rfl)) qq)) rfl
    · intro LL xx ac wc sg hst hwant QQ hgo
      exact op_val hwant hgo hst _ (exec_assign rfl (sg.slot 11 (sg.anc 11 rfl))) rfl
  · refine skips [6, 7, 8, 9, 10] (by kernel_rfl) ?_
    refine List.forall_mem_cons.2 ⟨?_, List.forall_mem_cons.2 ⟨?_, List.forall_mem_cons.2 ⟨?_, List.forall_mem_cons.2 ⟨?_, List.forall_mem_cons.2 ⟨?_, fun _ h => by cases h⟩⟩⟩⟩⟩
    · intro oo hop LL xx ac sg hwant
      cases Option.some.inj hop
      have hG : (!big) = false := (want_t rfl rfl (sg.slot 5 (sg.anc 5 rfl))).symm.trans hwant
      exact ⟨cF hG, fun _ h => h⟩
    · intro oo hop LL xx ac sg hwant
      cases Option.some.inj hop
      have hG : (!big) = false := (want_t rfl rfl (sg.slot 5 (sg.anc 5 rfl))).symm.trans hwant
      exact ⟨cF hG, fun _ h => h⟩
    · intro oo hop LL xx ac sg hwant
      cases Option.some.inj hop
      have hG : (!big) = false := (want_t rfl rfl (sg.slot 5 (sg.anc 5 rfl))).symm.trans hwant
      exact ⟨cF hG, fun _ h => h⟩
    · intro oo hop LL xx ac sg hwant
      cases Option.some.inj hop
      have hG : (!big) = false := (want_t rfl rfl (sg.slot 5 (sg.anc 5 rfl))).symm.trans hwant
      exact ⟨cF hG, fun _ h => h⟩
    · intro oo hop LL xx ac sg hwant
      cases Option.some.inj hop
      have hG : (!big) = false := (want_t rfl rfl (sg.slot 5 (sg.anc 5 rfl))).symm.trans hwant
      exact ⟨cF hG, fun _ h => h⟩
  · intro xx ac1 wz hfr hsl hst
    exact hfin ac1 wz (hfr.size.trans hz) hfr.defers (fr_keep hfr [2, 3, 4, 5, 6, 7, 8, 9, 10, 11, 12, 13, 14] (by kernel_rfl)) (hsl 12 (by decide)) (Lib.hid hst)
set_option maxHeartbeats 16000000 in
set_option maxRecDepth 20000 in
theorem endC (br : Nat) (bi : Nat) (big : Bool) (s : ByteArray) (bad : Bool) (w : World) (h1 : (rB br 109 [.pointer (some ⟨bi, 0, none⟩), .bool big]).holds w) (h2 : (rB bi 117 [.string s, .bool bad]).holds w) (hne : br ≠ bi) : Calls Try.prog 54 #[.pointer (some ⟨br, 0, none⟩)] w fun e w' => e = .returned (.bool ((!big) && ((!bad) && s.toList.isEmpty))) ∧ Off [] w w' := by
 have H := Lib.hid (Hp.start [] w)
 have H := Lib.hid (Hp.start [] w)
 have H := hp_oldKS H h1 (by simp)
 have H := hp_oldKS H h2 (by simp)
 clear h1 h2
 refine wStart (args := [.pointer (some ⟨br, 0, none⟩)]) Try.func54 rfl rfl rfl H ?_
 clear H
 show Wk 15 _ _ [(0, .pointer (some ⟨br, 0, none⟩))] _ _
 refine wSeqK fun KK1 hK1 => ?_
 refine wReg ?_
 refine p_endC rfl ?_
 refine wN ?_
 refine tN (wKK hK1 ?_)
 refine wSeqK fun KK2 hK2 => ?_
 intro aa ww nn dd hs H
 refine endC_r1 br bi big s bad H aa nn (hs 0 _ rfl) ?_
 intro ab wv nn2 dd2 kp o2 H2
 refine wIn nn2 (dd2.trans dd) (Sat.cons (Sat.cons (sat_nil ab) ((kp 0 rfl).trans (hs 0 _ rfl))) o2) H2 ?_
 clear hs H kp H2 dd dd2 nn nn2 o2
 refine tN (wKK hK2 ?_)
 refine wRet ?_
 exact wR1 rfl rfl (fun ww H => ⟨rfl, H.out.off⟩)
def tab_callRC : Wk.Tab := [(25, 1, 1), (25, 2, 2), (25, 3, 3), (25, 4, 4), (25, 5, 5), (25, 6, 6), (25, 7, 7), (109, 0, 0)]
theorem p_callRC {ops : Array Oper} {rest : List Oper} {o : Oper} {w0 : World} {Q : Exit → Act → World → Prop} {S : List Nat} {R : List Res} {K K' : Wk.Env} {N : Nat} (h : Wk.stp tab_callRC N ops K o = some K') (n : Wk.Wk N S w0 K' R (wpList Try.prog ops Q rest)) : Wk.Wk N S w0 K R (wpList Try.prog ops Q (o :: rest)) := Wk.wP (T := tab_callRC) (by kernel_rfl) h n
set_option maxHeartbeats 16000000 in
set_option maxRecDepth 20000 in
theorem callRC (br : Nat) (bi : Nat) (big : Bool) (s : ByteArray) (bad : Bool) (w : World) (h1 : (rB br 109 [.pointer (some ⟨bi, 0, none⟩), .bool big]).holds w) (h2 : (rB bi 117 [.string s, .bool bad]).holds w) (hne : br ≠ bi) : Calls Try.prog 53 #[.pointer (some ⟨br, 0, none⟩), .pointer (some ⟨bi, 0, none⟩)] w fun e w' => ∃ (x : CallV) (bg : Bool) (s2 : ByteArray) (b2 : Bool), e = .returned (.agg #[.int .i64 x.id, .int .i64 x.kind, .int .i64 x.src, .int .i64 x.dst, .int .i64 x.car, .int .i64 x.state, .int .i64 x.owner, .int .i64 x.born]) ∧ dCall (s, bad) = (x, bg, (s2, b2)) ∧ (rB br 109 [.pointer (some ⟨bi, 0, none⟩), .bool (big || bg)]).holds w' ∧ (rB bi 117 [.string s2, .bool b2]).holds w' ∧ Off [br, bi] w w' := by
 have H := Lib.hid (Hp.start [] w)
 have H := hp_two h1 h2 hne
 clear h1 h2
 refine wStart (args := [.pointer (some ⟨br, 0, none⟩), .pointer (some ⟨bi, 0, none⟩)]) Try.func53 rfl rfl rfl H ?_
 clear H
 show Wk 37 _ _ [(0, .pointer (some ⟨br, 0, none⟩)), (1, .pointer (some ⟨bi, 0, none⟩))] _ _
 refine wSeqK fun KK1 hK1 => ?_
 refine wReg ?_
 refine wAl rfl rfl tyapi_Call fun b4 => ?_
 refine wN ?_
 refine tN (wKK hK1 ?_)
 refine wSeqK fun KK2 hK2 => ?_
 refine wReg ?_
 refine p_callRC rfl ?_
 refine wC (l := [.pointer (some ⟨br, 0, none⟩)]) Try.func52 rfl (by kernel_rfl) (fun wc H => countC br bi big s bad wc (show (rB br 109 [.pointer (some ⟨bi, 0, none⟩), .bool big]).holds wc from H.out.holds _ (by (repeat (first | exact List.Mem.head _ | apply List.Mem.tail)))) (show (rB bi 117 [.string s, .bool bad]).holds wc from H.out.holds _ (by (repeat (first | exact List.Mem.head _ | apply List.Mem.tail)))) (blk_ne H (i := 1) (j := 2) rfl rfl (by decide))) rfl rfl rfl rfl ?_
 intro wc H
 rintro er wd ⟨n1_1, s1_1, v1_1, rfl, hq1, hb1, hb2, hof⟩
 have HF := hp_front H 2 rfl
 replace HF := hp_front HF 2 rfl
 have H2 := hp_twice HF hb1 hb2 hof
 replace H2 := hp_fact H2 hq1
 refine ⟨_, rfl, wkAt H2 ?_⟩
 clear H H2 hof
 refine wE (.agg #[.int .i64 n1_1, .int .i64 0, .int .i64 0, .int .i64 0, .int .i64 0, .int .i64 0, .int .i64 0, .int .i64 0]) rfl rfl rfl (fun aa ww hs _ => by have e9 := hs 9 _ rfl; have g9 := gt_of e9; simp only [execOp]; go_simp <;> omega) ?_
 refine wAl rfl rfl tyapi_Call fun b5 => ?_
 refine wSr rfl tyapi_Call 0 rfl rfl rfl rfl [.int .i64 n1_1, .int .i64 0, .int .i64 0, .int .i64 0, .int .i64 0, .int .i64 0, .int .i64 0, .int .i64 0] (by first | rfl | (simp only [spl]; rfl)) ?_
 refine wN ?_
 refine tN (wKK hK2 ?_)
 refine wSeqK fun KK3 hK3 => ?_
 refine wSeqK fun KK4 hK4 => ?_
 refine wReg ?_
 iterate 5 refine p_callRC rfl ?_
 refine wBs (cs := [.pointer (some ⟨b5, 1, none⟩), .pointer (some ⟨b5, 2, none⟩), .pointer (some ⟨b5, 3, none⟩), .pointer (some ⟨b5, 4, none⟩), .pointer (some ⟨b5, 5, none⟩)]) rfl rfl rfl rfl Try.underlying130 tyP_int rfl (by decide) (by decide) (by kernel_rfl) fun b16 => ?_
 refine wE (.int .i64 5) rfl rfl rfl (fun aa ww hs _ => by have e16 := hs 16 _ rfl; have g16 := gt_of e16; simp only [execOp]; go_simp <;> omega) ?_
 refine p_callRC rfl ?_
 refine wN ?_
 refine tN (wKK hK4 ?_)
 refine wBlk ?_
 refine wLoopN 6 ?_
 refine wRnd ?_
 refine wSeqK fun KK5 hK5 => ?_
 refine wReg ?_
 refine p_callRC rfl ?_
 refine wN ?_
 refine tN (wKK hK5 ?_)
 refine wSeqK fun KK6 hK6 => ?_
 refine wCt rfl ?_
 refine wSk ?_
 refine tN (wKK hK6 ?_)
 refine wSeqK fun KK7 hK7 => ?_
 refine wBlk ?_
 refine wSeqK fun KK8 hK8 => ?_
 refine wReg ?_
 refine wE (.pointer (some ⟨b16, 0, none⟩)) rfl rfl rfl (fun aa ww hs _ => by have e16 := hs 16 _ rfl; have g16 := gt_of e16; have e18 := hs 18 _ rfl; have g18 := gt_of e18; simp only [execOp]; go_simp <;> omega) ?_
 refine wLd rfl tyP_int 0 rfl rfl ?_
 refine p_callRC rfl ?_
 refine wN ?_
 refine tN (wKK hK8 ?_)
 refine wReg ?_
 iterate 4 refine p_callRC rfl ?_
 refine wLd rfl tyP_pack_In 3 rfl rfl ?_
 refine wC (l := [.pointer (some ⟨bi, 0, none⟩), .int .i64 1]) Try.func41 rfl (by kernel_rfl) (fun wc H => inNumXH H (i := 4) (n := 1) rfl) rfl rfl rfl rfl ?_
 intro wc H
 rintro er wd ⟨n5_5, s5_5, v5_5, rfl, hq1, H2⟩
 replace H2 := hp_fact H2 hq1
 refine ⟨_, rfl, wkAt H2 ?_⟩
 clear H H2
 refine p_callRC rfl ?_
 refine wSt rfl tyint 2 rfl rfl rfl rfl ?_
 refine wN ?_
 refine bN (tN (wKK hK7 ?_))
 refine wReg ?_
 refine p_callRC rfl ?_
 refine wI 29 rfl (IntWalk.i64_in _ (by omega)) ?_
 refine p_callRC rfl ?_
 refine wN ?_
 refine tN ?_
 refine wRnd ?_
 refine wSeqK fun KK9 hK9 => ?_
 refine wReg ?_
 refine p_callRC rfl ?_
 refine wN ?_
 refine tN (wKK hK9 ?_)
 refine wSeqK fun KK10 hK10 => ?_
 refine wCt rfl ?_
 refine wSk ?_
 refine tN (wKK hK10 ?_)
 refine wSeqK fun KK11 hK11 => ?_
 refine wBlk ?_
 refine wSeqK fun KK12 hK12 => ?_
 refine wReg ?_
 refine wE (.pointer (some ⟨b16, 1, none⟩)) rfl rfl rfl (fun aa ww hs _ => by have e16 := hs 16 _ rfl; have g16 := gt_of e16; have e18 := hs 18 _ rfl; have g18 := gt_of e18; simp only [execOp]; go_simp <;> omega) ?_
 refine wLd rfl tyP_int 1 rfl rfl ?_
 refine p_callRC rfl ?_
 refine wN ?_
 refine tN (wKK hK12 ?_)
 refine wReg ?_
 iterate 4 refine p_callRC rfl ?_
 refine wLd rfl tyP_pack_In 4 rfl rfl ?_
 refine wC (l := [.pointer (some ⟨bi, 0, none⟩), .int .i64 1]) Try.func41 rfl (by kernel_rfl) (fun wc H => inNumXH H (i := 5) (n := 1) rfl) rfl rfl rfl rfl ?_
 intro wc H
 rintro er wd ⟨n1005_5, s1005_5, v1005_5, rfl, hq1, H2⟩
 replace H2 := hp_fact H2 hq1
 refine ⟨_, rfl, wkAt H2 ?_⟩
 clear H H2
 refine p_callRC rfl ?_
 refine wSt rfl tyint 3 rfl rfl rfl rfl ?_
 refine wN ?_
 refine bN (tN (wKK hK11 ?_))
 refine wReg ?_
 refine p_callRC rfl ?_
 refine wI 29 rfl (IntWalk.i64_in _ (by omega)) ?_
 refine p_callRC rfl ?_
 refine wN ?_
 refine tN ?_
 refine wRnd ?_
 refine wSeqK fun KK13 hK13 => ?_
 refine wReg ?_
 refine p_callRC rfl ?_
 refine wN ?_
 refine tN (wKK hK13 ?_)
 refine wSeqK fun KK14 hK14 => ?_
 refine wCt rfl ?_
 refine wSk ?_
 refine tN (wKK hK14 ?_)
 refine wSeqK fun KK15 hK15 => ?_
 refine wBlk ?_
 refine wSeqK fun KK16 hK16 => ?_
 refine wReg ?_
 refine wE (.pointer (some ⟨b16, 2, none⟩)) rfl rfl rfl (fun aa ww hs _ => by have e16 := hs 16 _ rfl; have g16 := gt_of e16; have e18 := hs 18 _ rfl; have g18 := gt_of e18; simp only [execOp]; go_simp <;> omega) ?_
 refine wLd rfl tyP_int 2 rfl rfl ?_
 refine p_callRC rfl ?_
 refine wN ?_
 refine tN (wKK hK16 ?_)
 refine wReg ?_
 iterate 4 refine p_callRC rfl ?_
 refine wLd rfl tyP_pack_In 5 rfl rfl ?_
 refine wC (l := [.pointer (some ⟨bi, 0, none⟩), .int .i64 1]) Try.func41 rfl (by kernel_rfl) (fun wc H => inNumXH H (i := 6) (n := 1) rfl) rfl rfl rfl rfl ?_
 intro wc H
 rintro er wd ⟨n2005_5, s2005_5, v2005_5, rfl, hq1, H2⟩
 replace H2 := hp_fact H2 hq1
 refine ⟨_, rfl, wkAt H2 ?_⟩
 clear H H2
 refine p_callRC rfl ?_
 refine wSt rfl tyint 4 rfl rfl rfl rfl ?_
 refine wN ?_
 refine bN (tN (wKK hK15 ?_))
 refine wReg ?_
 refine p_callRC rfl ?_
 refine wI 29 rfl (IntWalk.i64_in _ (by omega)) ?_
 refine p_callRC rfl ?_
 refine wN ?_
 refine tN ?_
 refine wRnd ?_
 refine wSeqK fun KK17 hK17 => ?_
 refine wReg ?_
 refine p_callRC rfl ?_
 refine wN ?_
 refine tN (wKK hK17 ?_)
 refine wSeqK fun KK18 hK18 => ?_
 refine wCt rfl ?_
 refine wSk ?_
 refine tN (wKK hK18 ?_)
 refine wSeqK fun KK19 hK19 => ?_
 refine wBlk ?_
 refine wSeqK fun KK20 hK20 => ?_
 refine wReg ?_
 refine wE (.pointer (some ⟨b16, 3, none⟩)) rfl rfl rfl (fun aa ww hs _ => by have e16 := hs 16 _ rfl; have g16 := gt_of e16; have e18 := hs 18 _ rfl; have g18 := gt_of e18; simp only [execOp]; go_simp <;> omega) ?_
 refine wLd rfl tyP_int 3 rfl rfl ?_
 refine p_callRC rfl ?_
 refine wN ?_
 refine tN (wKK hK20 ?_)
 refine wReg ?_
 iterate 4 refine p_callRC rfl ?_
 refine wLd rfl tyP_pack_In 6 rfl rfl ?_
 refine wC (l := [.pointer (some ⟨bi, 0, none⟩), .int .i64 1]) Try.func41 rfl (by kernel_rfl) (fun wc H => inNumXH H (i := 7) (n := 1) rfl) rfl rfl rfl rfl ?_
 intro wc H
 rintro er wd ⟨n3005_5, s3005_5, v3005_5, rfl, hq1, H2⟩
 replace H2 := hp_fact H2 hq1
 refine ⟨_, rfl, wkAt H2 ?_⟩
 clear H H2
 refine p_callRC rfl ?_
 refine wSt rfl tyint 5 rfl rfl rfl rfl ?_
 refine wN ?_
 refine bN (tN (wKK hK19 ?_))
 refine wReg ?_
 refine p_callRC rfl ?_
 refine wI 29 rfl (IntWalk.i64_in _ (by omega)) ?_
 refine p_callRC rfl ?_
 refine wN ?_
 refine tN ?_
 refine wRnd ?_
 refine wSeqK fun KK21 hK21 => ?_
 refine wReg ?_
 refine p_callRC rfl ?_
 refine wN ?_
 refine tN (wKK hK21 ?_)
 refine wSeqK fun KK22 hK22 => ?_
 refine wCt rfl ?_
 refine wSk ?_
 refine tN (wKK hK22 ?_)
 refine wSeqK fun KK23 hK23 => ?_
 refine wBlk ?_
 refine wSeqK fun KK24 hK24 => ?_
 refine wReg ?_
 refine wE (.pointer (some ⟨b16, 4, none⟩)) rfl rfl rfl (fun aa ww hs _ => by have e16 := hs 16 _ rfl; have g16 := gt_of e16; have e18 := hs 18 _ rfl; have g18 := gt_of e18; simp only [execOp]; go_simp <;> omega) ?_
 refine wLd rfl tyP_int 4 rfl rfl ?_
 refine p_callRC rfl ?_
 refine wN ?_
 refine tN (wKK hK24 ?_)
 refine wReg ?_
 iterate 4 refine p_callRC rfl ?_
 refine wLd rfl tyP_pack_In 7 rfl rfl ?_
 refine wC (l := [.pointer (some ⟨bi, 0, none⟩), .int .i64 1]) Try.func41 rfl (by kernel_rfl) (fun wc H => inNumXH H (i := 8) (n := 1) rfl) rfl rfl rfl rfl ?_
 intro wc H
 rintro er wd ⟨n4005_5, s4005_5, v4005_5, rfl, hq1, H2⟩
 replace H2 := hp_fact H2 hq1
 refine ⟨_, rfl, wkAt H2 ?_⟩
 clear H H2
 refine p_callRC rfl ?_
 refine wSt rfl tyint 6 rfl rfl rfl rfl ?_
 refine wN ?_
 refine bN (tN (wKK hK23 ?_))
 refine wReg ?_
 refine p_callRC rfl ?_
 refine wI 29 rfl (IntWalk.i64_in _ (by omega)) ?_
 refine p_callRC rfl ?_
 refine wN ?_
 refine tN ?_
 refine wRnd ?_
 refine wSeqK fun KK25 hK25 => ?_
 refine wReg ?_
 refine p_callRC rfl ?_
 refine wN ?_
 refine tN (wKK hK25 ?_)
 refine wSeqK fun KK26 hK26 => ?_
 refine wCf rfl ?_
 refine wEx ?_
 refine tX (tX (bX (tN (wKK hK3 ?_))))
 refine wSeqK fun KK27 hK27 => ?_
 refine wReg ?_
 refine p_callRC rfl ?_
 refine wC (l := [.pointer (some ⟨br, 0, none⟩)]) Try.func52 rfl (by kernel_rfl) (fun wc H => countC br bi (big || decide (1073741824 < (n1_1 : Int))) s4005_5 v4005_5 wc (show (rB br 109 [.pointer (some ⟨bi, 0, none⟩), .bool (big || decide (1073741824 < (n1_1 : Int)))]).holds wc from H.out.holds _ (by (repeat (first | exact List.Mem.head _ | apply List.Mem.tail)))) (show (rB bi 117 [.string s4005_5, .bool v4005_5]).holds wc from H.out.holds _ (by (repeat (first | exact List.Mem.head _ | apply List.Mem.tail)))) (blk_ne H (i := 8) (j := 9) rfl rfl (by decide))) rfl rfl rfl rfl ?_
 intro wc H
 rintro er wd ⟨n5007_1, s5007_1, v5007_1, rfl, hq1, hb1, hb2, hof⟩
 have HF := hp_front H 9 rfl
 replace HF := hp_front HF 9 rfl
 have H2 := hp_twice HF hb1 hb2 hof
 replace H2 := hp_fact H2 hq1
 refine ⟨_, rfl, wkAt H2 ?_⟩
 clear H H2 hof
 refine p_callRC rfl ?_
 refine wC (l := [.pointer (some ⟨br, 0, none⟩)]) Try.func52 rfl (by kernel_rfl) (fun wc H => countC br bi ((big || decide (1073741824 < (n1_1 : Int))) || decide (1073741824 < (n5007_1 : Int))) s5007_1 v5007_1 wc (show (rB br 109 [.pointer (some ⟨bi, 0, none⟩), .bool ((big || decide (1073741824 < (n1_1 : Int))) || decide (1073741824 < (n5007_1 : Int)))]).holds wc from H.out.holds _ (by (repeat (first | exact List.Mem.head _ | apply List.Mem.tail)))) (show (rB bi 117 [.string s5007_1, .bool v5007_1]).holds wc from H.out.holds _ (by (repeat (first | exact List.Mem.head _ | apply List.Mem.tail)))) (blk_ne H (i := 1) (j := 2) rfl rfl (by decide))) rfl rfl rfl rfl ?_
 intro wc H
 rintro er wd ⟨n5007_3, s5007_3, v5007_3, rfl, hq1, hb1, hb2, hof⟩
 have HF := hp_front H 2 rfl
 replace HF := hp_front HF 2 rfl
 have H2 := hp_twice HF hb1 hb2 hof
 replace H2 := hp_fact H2 hq1
 refine ⟨_, rfl, wkAt H2 ?_⟩
 clear H H2 hof
 refine p_callRC rfl ?_
 refine wSt rfl tyint 10 rfl rfl rfl rfl ?_
 refine p_callRC rfl ?_
 refine wSt rfl tyint 10 rfl rfl rfl rfl ?_
 refine wN ?_
 refine tN (wKK hK27 ?_)
 refine wSeqK fun KK28 hK28 => ?_
 refine wReg ?_
 refine wLr rfl tyapi_Call 10 rfl [.int .i64 n1_1, .int .i64 n5_5, .int .i64 n1005_5, .int .i64 n2005_5, .int .i64 n3005_5, .int .i64 n4005_5, .int .i64 n5007_1, .int .i64 n5007_3] rfl rfl ?_
 refine wSr rfl tyapi_Call 12 rfl rfl rfl rfl [.int .i64 n1_1, .int .i64 n5_5, .int .i64 n1005_5, .int .i64 n2005_5, .int .i64 n3005_5, .int .i64 n4005_5, .int .i64 n5007_1, .int .i64 n5007_3] (by first | rfl | (simp only [spl]; rfl)) ?_
 refine wN ?_
 refine tN (wKK hK28 ?_)
 refine wRet ?_
 exact wRc tyapi_Call rfl rfl 12 rfl rfl (fun ww H => (by have q0 := hp_told H (p := inNumV s5007_1 v5007_1 4 = (n5007_3, s5007_3, v5007_3)) (by (repeat (first | exact List.Mem.head _ | apply List.Mem.tail))); have q1 := hp_told H (p := inNumV s4005_5 v4005_5 4 = (n5007_1, s5007_1, v5007_1)) (by (repeat (first | exact List.Mem.head _ | apply List.Mem.tail))); have q2 := hp_told H (p := inNumV s3005_5 v3005_5 1 = (n4005_5, s4005_5, v4005_5)) (by (repeat (first | exact List.Mem.head _ | apply List.Mem.tail))); have q3 := hp_told H (p := inNumV s2005_5 v2005_5 1 = (n3005_5, s3005_5, v3005_5)) (by (repeat (first | exact List.Mem.head _ | apply List.Mem.tail))); have q4 := hp_told H (p := inNumV s1005_5 v1005_5 1 = (n2005_5, s2005_5, v2005_5)) (by (repeat (first | exact List.Mem.head _ | apply List.Mem.tail))); have q5 := hp_told H (p := inNumV s5_5 v5_5 1 = (n1005_5, s1005_5, v1005_5)) (by (repeat (first | exact List.Mem.head _ | apply List.Mem.tail))); have q6 := hp_told H (p := inNumV s1_1 v1_1 1 = (n5_5, s5_5, v5_5)) (by (repeat (first | exact List.Mem.head _ | apply List.Mem.tail))); have q7 := hp_told H (p := inNumV s bad 4 = (n1_1, s1_1, v1_1)) (by (repeat (first | exact List.Mem.head _ | apply List.Mem.tail))); exact ⟨(⟨n1_1, n5_5, n1005_5, n2005_5, n3005_5, n4005_5, n5007_1, n5007_3⟩ : CallV), (decide (1073741824 < (n1_1 : Int)) || decide (1073741824 < (n5007_1 : Int))) || decide (1073741824 < (n5007_3 : Int)), s5007_3, v5007_3, rfl, (by unfold dCall; simp only [q7, q6, q5, q4, q3, q2, q1, q0]), (by have h := H.out.holds (rB br 109 [.pointer (some ⟨bi, 0, none⟩), .bool ((((big || decide (1073741824 < (n1_1 : Int))) || decide (1073741824 < (n5007_1 : Int))) || decide (1073741824 < (n5007_3 : Int))))]) (by (repeat (first | exact List.Mem.head _ | apply List.Mem.tail))); simp only [Bool.or_assoc] at h ⊢; exact h), H.out.holds _ (by (repeat (first | exact List.Mem.head _ | apply List.Mem.tail))), H.out.off⟩))
end Go.Proofs.Ytloemjhhedkhiaa.Nt
