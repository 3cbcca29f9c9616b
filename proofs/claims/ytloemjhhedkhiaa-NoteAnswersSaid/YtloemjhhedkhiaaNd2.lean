/- Layer 15: answers that are read. -/
import Derived.Test.YtloemjhhedkhiaaProg
import Derived.Below
import Derived.WalkKit
import Derived.KernelRfl
import Derived.RowKit3
import Derived.Deep.LoopGhost
import Derived.Deep.QuietTactic
import Derived.BigQuiet
import Derived.WideLaws
import Derived.Deep.DeepCutAuto
import Derived.Deep.CutBlock
import Derived.Lib.Hide
import Derived.Laws.BitsLemmas
import Derived.Laws.Bits64
import Derived.Laws.BitsAllLaws
import Derived.IntWalk
import Derived.Outline
import Derived.WalkSpells
import Derived.Test.YtloemjhhedkhiaaMem
import Derived.Test.YtloemjhhedkhiaaNd1
namespace Go.Proofs.Ytloemjhhedkhiaa.Nt
open Go.RowKit Go.Proofs.Ytloemjhhedkhiaa.Mem Go.Proofs.Ytloemjhhedkhiaa.Pk Go.Proofs.Ytloemjhhedkhiaa.Reg Go.Proofs.Ytloemjhhedkhiaa.Wk
set_option linter.unusedVariables false
set_option linter.unusedSimpArgs false

theorem readCalls_of {s s1 s2 : ByteArray} {bad v1 vb bg b2 : Bool} {n : Nat} {ys : List CallV} (h1 : inNumV s bad 2 = (n, s1, v1)) (h2 : vb = bif decide (64 < (n : Int)) then true else v1) (h3 : dCalls n (s1, vb) = (ys, bg, (s2, b2))) : readCalls (s, bad) = (if b2 = true then [] else ys, bg, (s2, b2)) := by
  unfold readCalls
  simp only [h1]
  rw [← h2, h3]
theorem num_lt2 {s s2 : ByteArray} {b b2 : Bool} {n : Nat} (h : inNumV s b 2 = (n, s2, b2)) : n ≤ 65535 := by
  unfold inNumV at h
  split at h
  · rename_i h1
    have h2 := be_lt s 2 (by omega)
    have h3 := (Prod.mk.inj h).1
    simp at h2 h3
    omega
  · have h3 := (Prod.mk.inj h).1
    omega
theorem num_lt4 {s s2 : ByteArray} {b b2 : Bool} {n : Nat} (h : inNumV s b 4 = (n, s2, b2)) : n ≤ 4294967295 := by
  unfold inNumV at h
  split at h
  · rename_i h1
    have h2 := be_lt s 4 (by omega)
    have h3 := (Prod.mk.inj h).1
    simp at h2 h3
    omega
  · have h3 := (Prod.mk.inj h).1
    omega
theorem sofar_next2 {n k : Nat} {st0 : ByteArray × Bool} {ys : List CallV} {bg b g2 b2 : Bool} {s s2 : ByteArray} {x : CallV} (hb : b = false) (h : Sofar n k st0 ys bg (s, b)) (hk : k < n) (hd : dCall (s, b) = (x, g2, (s2, b2))) : Sofar n (k + 1) st0 (ys ++ [x]) (bg || g2) (s2, b2) := by
  subst hb
  exact sofar_next h hk hd
theorem sofar_bad2 {n k : Nat} {st0 : ByteArray × Bool} {ys : List CallV} {bg b : Bool} {s : ByteArray} (hb : b = true) (h : Sofar n k st0 ys bg (s, b)) : dCalls n st0 = (ys, bg, (s, b)) := by
  subst hb
  exact sofar_bad h
theorem sofar_end {n k : Nat} {st0 : ByteArray × Bool} {ys : List CallV} {bg b : Bool} {s : ByteArray} (hk : n ≤ k) (h : Sofar n k st0 ys bg (s, b)) : dCalls n st0 = (ys, bg, (s, b)) := by
  obtain rfl : k = n := by have := h.1; omega
  exact sofar_all h
theorem hp_newS {S : List Nat} {w0 w w' : World} {R : List Res} {a : Option Addr} {c k : Nat} {rows : List (List Value)} (H : Hid (Hp S w0 w R)) (ho : Off [] w w') (hs : (rS a c (k + 1) rows).holds w') (hf : ∀ q ∈ (rS a c (k + 1) rows).foot, w.heap.size ≤ q) : Hid (Hp S w0 w' (rS a c (k + 1) rows :: R)) :=
  Lib.hid (H.out.share _ ho hs rfl fun q hq => ⟨rS_lt hs (by omega) q hq, .inl (hf q hq)⟩)
def tab_readC : Wk.Tab := []
theorem p_readC {ops : Array Oper} {rest : List Oper} {o : Oper} {w0 : World} {Q : Exit → Act → World → Prop} {S : List Nat} {R : List Res} {K K' : Wk.Env} {N : Nat} (h : Wk.stp tab_readC N ops K o = some K') (n : Wk.Wk N S w0 K' R (wpList Try.prog ops Q rest)) : Wk.Wk N S w0 K R (wpList Try.prog ops Q (o :: rest)) := Wk.wP (T := tab_readC) (by kernel_rfl) h n
set_option maxRecDepth 20000 in
theorem readC_r6 (br : Nat) (bi : Nat) (s : ByteArray) (bad : Bool) (n1_1 : Nat) (s1_1 : ByteArray) (v1_1 : Bool) (hn1 : n1_1 ≤ 65535) (k : Nat) (a : Option Addr) (c : Nat) (ys : List CallV) (bb : Bool) (s2 : ByteArray) (b2 : Bool) (hyk : ys.length = k) (hk : k ≤ n1_1) {wa wb : World} (H : Hid (Hp [br, bi] wa wb [rA a c 25 8 (ys.map callRow), rP (inNumV s bad 2 = (n1_1, s1_1, v1_1)), rB br 109 [.pointer (some ⟨bi, 0, none⟩), .bool bb], rB bi 117 [.string s2, .bool b2]])) (ac0 : Act) (hz : ac0.tmps.size = 40) (so0 : ac0.eval (.tmp 0) = .pointer (some ⟨bi, 0, none⟩)) (so2 : ac0.eval (.tmp 2) = .func (.func 53) #[.pointer (some ⟨br, 0, none⟩)] #[]) (so7 : ac0.eval (.tmp 7) = .int .i64 n1_1) (so9 : ac0.eval (.tmp 9) = .int .i64 k) {QR : Exit → Act → World → Prop} (hfin : ∀ (ac1 : Act) (wz : World), ac1.tmps.size = 40 → ac1.defers = ac0.defers → (∀ t, ([17, 18, 19, 20, 21, 22, 23, 24, 25, 26, 27, 28] : List Nat).contains t = false → ac1.eval (.tmp t) = ac0.eval (.tmp t)) → ac1.eval (.tmp 28) = .bool ((decide (k < n1_1)) && (!b2)) →  Hid (Hp [br, bi] wa wz [rA a c 25 8 (ys.map callRow), rP (inNumV s bad 2 = (n1_1, s1_1, v1_1)), rB br 109 [.pointer (some ⟨bi, 0, none⟩), .bool bb], rB bi 117 [.string s2, .bool b2]]) → QR .normal ac1 wz) : (regAt Try.f57 6).wp Try.prog QR ac0 wb := by
  refine wp_region_sq (by kernel_rfl) 40 hz (by kernel_rfl) (fun (xx : Unit) jx => nth [.int .i64 k, .int .i64 n1_1, .bool (decide (k < n1_1)), .bool (decide (k < n1_1)), bif (decide (k < n1_1)) then .func (.func 53) #[.pointer (some ⟨br, 0, none⟩)] #[] else undef, bif (decide (k < n1_1)) then .bool true else undef, .bool (decide (k < n1_1)), .bool (decide (k < n1_1)), bif (decide (k < n1_1)) then .pointer (some ⟨bi, 0, none⟩) else undef, bif (decide (k < n1_1)) then .bool b2 else undef, bif (decide (k < n1_1)) then .bool (!b2) else undef, .bool ((decide (k < n1_1)) && (!b2))] jx) (fun (LL : Nat → Bool) (xx : Unit) ww => Hp [br, bi] wa ww [rA a c 25 8 (ys.map callRow), rP (inNumV s bad 2 = (n1_1, s1_1, v1_1)), rB br 109 [.pointer (some ⟨bi, 0, none⟩), .bool bb], rB bi 117 [.string s2, .bool b2]]) () H.out ?_ (steps_al ?_) ?_ ?_
  · exact fun _ _ _ _ _ h => h
  · refine al_cons ?_ (al_cons ?_ (al_cons ?_ (al_cons ?_ (al_cons ?_ (al_cons ?_ (al_cons ?_ (al_cons ?_ (al_cons ?_ (al_cons ?_ (al_cons ?_ (al_cons ?_ (al_nil))))))))))))
    · intro LL xx ac wc sg hst hwant QQ hgo
      exact op_val hwant hgo hst _ (exec_move rfl ((sg.free 9 (by kernel_rfl)).trans so9)) rfl
    · intro LL xx ac wc sg hst hwant QQ hgo
      exact op_val hwant hgo hst _ (exec_move rfl ((sg.free 7 (by kernel_rfl)).trans so7)) rfl
    · intro LL xx ac wc sg hst hwant QQ hgo
      have se17 : ac.eval (.tmp 17) = _ := (sg.slot 0 (sg.anc 0 rfl))
      have sg17 := gt_of se17
      have se18 : ac.eval (.tmp 18) = _ := (sg.slot 1 (sg.anc 1 rfl))
      have sg18 := gt_of se18
      (try simp only [nth] at se17 sg17 se18 sg18)
      exact op_val hwant hgo hst _ (by simp only [execOp, nth]; go_simp <;> omega) rfl
    · intro LL xx ac wc sg hst hwant QQ hgo
      exact op_val hwant hgo hst _ (exec_move rfl (sg.slot 2 (sg.anc 2 rfl))) rfl
    · intro LL xx ac wc sg hst hwant QQ hgo
      have hG : (decide (k < n1_1)) = true := (want_t rfl rfl (sg.slot 3 (sg.anc 3 rfl))).symm.trans hwant
      exact op_val hwant hgo hst _ (exec_move rfl ((sg.free 2 (by kernel_rfl)).trans so2)) (cI hG)
    · intro LL xx ac wc sg hst hwant QQ hgo
      have hG : (decide (k < n1_1)) = true := (want_t rfl rfl (sg.slot 3 (sg.anc 3 rfl))).symm.trans hwant
      exact op_val hwant hgo hst _ (exec_fnil_neq rfl (cT (sg.slot 4 (sg.anc 4 rfl)) hG) rfl Try.underlying111) (cI hG)
    · intro LL xx ac wc sg hst hwant QQ hgo
      exact op_val hwant hgo hst (.bool ((decide (k < n1_1)) && true)) (exec_and (Y := true) rfl (sg.slot 3 (sg.anc 3 rfl)) (fun qq => cT (sg.slot 5 (sg.anc 5 rfl)) qq)) (congrArg Value.bool (by first | assumption | (simp; done)))
    · intro LL xx ac wc sg hst hwant QQ hgo
      exact op_val hwant hgo hst _ (exec_move rfl (sg.slot 6 (sg.anc 6 rfl))) rfl
    · intro LL xx ac wc sg hst hwant QQ hgo
      have hG : (decide (k < n1_1)) = true := (want_t rfl rfl (sg.slot 7 (sg.anc 7 rfl))).symm.trans hwant
      exact op_val hwant hgo hst _ (exec_move rfl ((sg.free 0 (by kernel_rfl)).trans so0)) (cI hG)
    · intro LL xx ac wc sg hst hwant QQ hgo
      have hG : (decide (k < n1_1)) = true := (want_t rfl rfl (sg.slot 7 (sg.anc 7 rfl))).symm.trans hwant
      have se25 : ac.eval (.tmp 25) = _ := (cT (sg.slot 8 (sg.anc 8 rfl)) hG)
      have sg25 := gt_of se25
      (try simp only [nth] at se25 sg25)
      have H := Lib.hid hst
      refine op_call hwant hgo 74 #[.pointer (some ⟨bi, 0, none⟩)] (by simp only [execOp]; go_simp) (inBad bi s2 b2 wc (H.out.at 3 rfl)) ?_
      rintro er wd ⟨rfl, rfl⟩
      exact ⟨_, (), rfl, fun _ _ => rfl, (cI hG), hst⟩
    · intro LL xx ac wc sg hst hwant QQ hgo
      have hG : (decide (k < n1_1)) = true := (want_t rfl rfl (sg.slot 7 (sg.anc 7 rfl))).symm.trans hwant
      have se26 : ac.eval (.tmp 26) = _ := (cT (sg.slot 9 (sg.anc 9 rfl)) hG)
      have sg26 := gt_of se26
      (try simp only [nth] at se26 sg26)
      exact op_val hwant hgo hst _ (by simp only [execOp, nth]; go_simp <;> omega) (cI hG)
    · intro LL xx ac wc sg hst hwant QQ hgo
      exact op_val hwant hgo hst (.bool ((decide (k < n1_1)) && (!b2))) (exec_and (Y := !b2) rfl (sg.slot 7 (sg.anc 7 rfl)) (fun qq => cT (sg.slot 10 (sg.anc 10 rfl)) qq)) rfl
  · refine skips [4, 5, 8, 9, 10] (by kernel_rfl) ?_
    refine List.forall_mem_cons.2 ⟨?_, List.forall_mem_cons.2 ⟨?_, List.forall_mem_cons.2 ⟨?_, List.forall_mem_cons.2 ⟨?_, List.forall_mem_cons.2 ⟨?_, fun _ h => by cases h⟩⟩⟩⟩⟩
    · intro oo hop LL xx ac sg hwant
      cases Option.some.inj hop
      have hG : (decide (k < n1_1)) = false := (want_t rfl rfl (sg.slot 3 (sg.anc 3 rfl))).symm.trans hwant
      exact ⟨cF hG, fun _ h => h⟩
    · intro oo hop LL xx ac sg hwant
      cases Option.some.inj hop
      have hG : (decide (k < n1_1)) = false := (want_t rfl rfl (sg.slot 3 (sg.anc 3 rfl))).symm.trans hwant
      exact ⟨cF hG, fun _ h => h⟩
    · intro oo hop LL xx ac sg hwant
      cases Option.some.inj hop
      have hG : (decide (k < n1_1)) = false := (want_t rfl rfl (sg.slot 7 (sg.anc 7 rfl))).symm.trans hwant
      exact ⟨cF hG, fun _ h => h⟩
    · intro oo hop LL xx ac sg hwant
      cases Option.some.inj hop
      have hG : (decide (k < n1_1)) = false := (want_t rfl rfl (sg.slot 7 (sg.anc 7 rfl))).symm.trans hwant
      exact ⟨cF hG, fun _ h => h⟩
    · intro oo hop LL xx ac sg hwant
      cases Option.some.inj hop
      have hG : (decide (k < n1_1)) = false := (want_t rfl rfl (sg.slot 7 (sg.anc 7 rfl))).symm.trans hwant
      exact ⟨cF hG, fun _ h => h⟩
  · intro xx ac1 wz hfr hsl hst
    exact hfin ac1 wz (hfr.size.trans hz) hfr.defers (fr_keep hfr [17, 18, 19, 20, 21, 22, 23, 24, 25, 26, 27, 28] (by kernel_rfl)) (hsl 11 (by decide)) (Lib.hid hst)
set_option maxRecDepth 20000 in
theorem readC_r8 (br : Nat) (bi : Nat) (s : ByteArray) (bad : Bool) (n1_1 : Nat) (s1_1 : ByteArray) (v1_1 : Bool) (hn1 : n1_1 ≤ 65535) (k : Nat) (a : Option Addr) (c : Nat) (ys : List CallV) (bb : Bool) (s2 : ByteArray) (b2 : Bool) (hyk : ys.length = k) (hk : k ≤ n1_1) (z1ld : k < n1_1) {wa wb : World} (H : Hid (Hp [br, bi] wa wb [rA a c 25 8 (ys.map callRow), rP (inNumV s bad 2 = (n1_1, s1_1, v1_1)), rB br 109 [.pointer (some ⟨bi, 0, none⟩), .bool bb], rB bi 117 [.string s2, .bool b2]])) (ac0 : Act) (hz : ac0.tmps.size = 40) (so0 : ac0.eval (.tmp 0) = .pointer (some ⟨bi, 0, none⟩)) (so2 : ac0.eval (.tmp 2) = .func (.func 53) #[.pointer (some ⟨br, 0, none⟩)] #[]) (so8 : ac0.eval (.tmp 8) = .slice a ys.length c) {QR : Exit → Act → World → Prop} (hfin : ∀ (x8_3 : CallV) (g8_3 : Bool) (s8_3 : ByteArray) (v8_3 : Bool) (b35 : Nat) (a36 : Option Addr) (c36 : Nat) (ac1 : Act) (wz : World), ac1.tmps.size = 40 → ac1.defers = ac0.defers → (∀ t, ([8, 31, 32, 33, 34, 35, 36] : List Nat).contains t = false → ac1.eval (.tmp t) = ac0.eval (.tmp t)) → ac1.eval (.tmp 8) = .slice a36 ((ys ++ [x8_3]).length) c36 →  Hid (Hp [br, bi] wa wz [rB b35 25 [.int .i64 x8_3.id, .int .i64 x8_3.kind, .int .i64 x8_3.src, .int .i64 x8_3.dst, .int .i64 x8_3.car, .int .i64 x8_3.state, .int .i64 x8_3.owner, .int .i64 x8_3.born], rP (dCall (s2, b2) = (x8_3, g8_3, (s8_3, v8_3))), rB br 109 [.pointer (some ⟨bi, 0, none⟩), .bool (bb || g8_3)], rB bi 117 [.string s8_3, .bool v8_3], rA a36 c36 25 8 ((ys ++ [x8_3]).map callRow), rP (inNumV s bad 2 = (n1_1, s1_1, v1_1))]) → QR .normal ac1 wz) : (regAt Try.f57 8).wp Try.prog QR ac0 wb := by
  refine wp_region_sq (by kernel_rfl) 40 hz (by kernel_rfl) (fun (xx : CallV × Bool × ByteArray × Bool × Nat × Option Addr × Nat) jx => match xx with | (x8_3, g8_3, s8_3, v8_3, b35, a36, c36) => nth [.slice a ys.length c, .func (.func 53) #[.pointer (some ⟨br, 0, none⟩)] #[], .pointer (some ⟨bi, 0, none⟩), .agg #[.int .i64 x8_3.id, .int .i64 x8_3.kind, .int .i64 x8_3.src, .int .i64 x8_3.dst, .int .i64 x8_3.car, .int .i64 x8_3.state, .int .i64 x8_3.owner, .int .i64 x8_3.born], .slice (some ⟨b35, 0, none⟩) 1 1, .slice a36 ((ys ++ [x8_3]).length) c36, .slice a36 ((ys ++ [x8_3]).length) c36] jx) (fun (LL : Nat → Bool) (xx : CallV × Bool × ByteArray × Bool × Nat × Option Addr × Nat) ww => match xx with | (x8_3, g8_3, s8_3, v8_3, b35, a36, c36) => Hp [br, bi] wa ww (bif LL 5 then [rB b35 25 [.int .i64 x8_3.id, .int .i64 x8_3.kind, .int .i64 x8_3.src, .int .i64 x8_3.dst, .int .i64 x8_3.car, .int .i64 x8_3.state, .int .i64 x8_3.owner, .int .i64 x8_3.born], rP (dCall (s2, b2) = (x8_3, g8_3, (s8_3, v8_3))), rB br 109 [.pointer (some ⟨bi, 0, none⟩), .bool (bb || g8_3)], rB bi 117 [.string s8_3, .bool v8_3], rA a36 c36 25 8 ((ys ++ [x8_3]).map callRow), rP (inNumV s bad 2 = (n1_1, s1_1, v1_1))] else (bif LL 4 then [rB b35 25 [.int .i64 x8_3.id, .int .i64 x8_3.kind, .int .i64 x8_3.src, .int .i64 x8_3.dst, .int .i64 x8_3.car, .int .i64 x8_3.state, .int .i64 x8_3.owner, .int .i64 x8_3.born], rP (dCall (s2, b2) = (x8_3, g8_3, (s8_3, v8_3))), rB br 109 [.pointer (some ⟨bi, 0, none⟩), .bool (bb || g8_3)], rB bi 117 [.string s8_3, .bool v8_3], rA a c 25 8 (ys.map callRow), rP (inNumV s bad 2 = (n1_1, s1_1, v1_1))] else (bif LL 3 then [rP (dCall (s2, b2) = (x8_3, g8_3, (s8_3, v8_3))), rB br 109 [.pointer (some ⟨bi, 0, none⟩), .bool (bb || g8_3)], rB bi 117 [.string s8_3, .bool v8_3], rA a c 25 8 (ys.map callRow), rP (inNumV s bad 2 = (n1_1, s1_1, v1_1))] else [rA a c 25 8 (ys.map callRow), rP (inNumV s bad 2 = (n1_1, s1_1, v1_1)), rB br 109 [.pointer (some ⟨bi, 0, none⟩), .bool bb], rB bi 117 [.string s2, .bool b2]])))) (default, default, default, default, default, default, default) H.out ?_ (steps_al ?_) ?_ ?_
  · intro L1 L2 xx ww hL sg
    have lh3 := hL 3 (by decide)
    have lh4 := hL 4 (by decide)
    have lh5 := hL 5 (by decide)
    simp only [lh3, lh4, lh5] at sg
    exact sg
  · refine al_cons ?_ (al_cons ?_ (al_cons ?_ (al_cons ?_ (al_cons ?_ (al_cons ?_ (al_cons ?_ (al_nil)))))))
    · intro LL xx ac wc sg hst hwant QQ hgo
      obtain ⟨x8_3, g8_3, s8_3, v8_3, b35, a36, c36⟩ := xx
      exact op_val hwant hgo hst _ (exec_move rfl ((sg.yet 8 6 (sg.des 6 rfl) (by kernel_rfl)).trans so8)) rfl
    · intro LL xx ac wc sg hst hwant QQ hgo
      obtain ⟨x8_3, g8_3, s8_3, v8_3, b35, a36, c36⟩ := xx
      exact op_val hwant hgo hst _ (exec_move rfl ((sg.free 2 (by kernel_rfl)).trans so2)) rfl
    · intro LL xx ac wc sg hst hwant QQ hgo
      obtain ⟨x8_3, g8_3, s8_3, v8_3, b35, a36, c36⟩ := xx
      exact op_val hwant hgo hst _ (exec_move rfl ((sg.free 0 (by kernel_rfl)).trans so0)) rfl
    · intro LL xx ac wc sg hst hwant QQ hgo
      obtain ⟨_, _, _, _, b35, a36, c36⟩ := xx
      have se32 : ac.eval (.tmp 32) = _ := (sg.slot 1 (sg.anc 1 rfl))
      have sg32 := gt_of se32
      have se33 : ac.eval (.tmp 33) = _ := (sg.slot 2 (sg.anc 2 rfl))
      have sg33 := gt_of se33
      (try simp only [nth] at se32 sg32 se33 sg33)
      have H := Lib.hid hst
      simp only [sg.self, sg.des 4 rfl, sg.des 5 rfl, cond_true, cond_false] at H
      refine op_call hwant hgo 53 #[.pointer (some ⟨br, 0, none⟩), .pointer (some ⟨bi, 0, none⟩)] (by simp only [execOp]; go_simp) (callRC br bi bb s2 b2 wc (show (rB br 109 [.pointer (some ⟨bi, 0, none⟩), .bool bb]).holds wc from H.out.holds _ (by (repeat (first | exact List.Mem.head _ | apply List.Mem.tail)))) (show (rB bi 117 [.string s2, .bool b2]).holds wc from H.out.holds _ (by (repeat (first | exact List.Mem.head _ | apply List.Mem.tail)))) (blk_ne H (i := 2) (j := 3) rfl rfl (by decide))) ?_
      rintro er wd ⟨x8_3, g8_3, s8_3, v8_3, rfl, hq1, hb1, hb2, hof⟩
      have HF := hp_front H 3 rfl
      replace HF := hp_front HF 3 rfl
      have H2 := hp_twice HF hb1 hb2 hof
      replace H2 := hp_fact H2 hq1
      exact ⟨_, (x8_3, g8_3, s8_3, v8_3, b35, a36, c36), rfl, (sg.agree (x' := (x8_3, g8_3, s8_3, v8_3, b35, a36, c36)) (n := 7) rfl (by (iterate 7 (refine ix_cons (by first | exact fun _ => rfl | exact no sg.self | exact no (sg.des _ rfl)) ?_)); exact ix_nil)), rfl, (by simp only [(show upd LL 3 3 = true from rfl), (show upd LL 3 4 = LL 4 from rfl), sg.des 4 rfl, (show upd LL 3 5 = LL 5 from rfl), sg.des 5 rfl, cond_true, cond_false]; exact H2.out)⟩
    · intro LL xx ac wc sg hst hwant QQ hgo
      obtain ⟨x8_3, g8_3, s8_3, v8_3, _, a36, c36⟩ := xx
      have se34 : ac.eval (.tmp 34) = _ := (sg.slot 3 (sg.anc 3 rfl))
      have sg34 := gt_of se34
      (try simp only [nth] at se34 sg34)
      have H := Lib.hid hst
      simp only [sg.anc 3 rfl, sg.self, sg.des 5 rfl, cond_true, cond_false] at H
      refine hpA_bslice Try.underlying62 tyapi_Call H rfl rfl (by decide) (by decide) (by first | (go_simp; rfl) | rfl | (simp; rfl)) ?_
      intro wd b35 H2
      exact hgo _ (x8_3, g8_3, s8_3, v8_3, b35, a36, c36) _ (sg.agree (x' := (x8_3, g8_3, s8_3, v8_3, b35, a36, c36)) (n := 7) rfl (by (iterate 7 (refine ix_cons (by first | exact fun _ => rfl | exact no sg.self | exact no (sg.des _ rfl)) ?_)); exact ix_nil)) rfl (by simp only [(show upd LL 4 3 = LL 3 from rfl), sg.anc 3 rfl, (show upd LL 4 4 = true from rfl), (show upd LL 4 5 = LL 5 from rfl), sg.des 5 rfl, cond_true, cond_false]; exact H2.out)
    · intro LL xx ac wc sg hst hwant QQ hgo
      obtain ⟨x8_3, g8_3, s8_3, v8_3, b35, _, _⟩ := xx
      have H := Lib.hid hst
      simp only [sg.anc 3 rfl, sg.anc 4 rfl, sg.self, cond_true, cond_false] at H
      refine hp_append (news := [callRow x8_3]) elCall H rfl rfl 4 rfl (sg.slot 0 (sg.anc 0 rfl)) (by simp) (sg.slot 4 (sg.anc 4 rfl)) rfl (hp_single (e := 25) H (by (repeat (first | exact List.Mem.head _ | apply List.Mem.tail))) rfl (by simp [callRow, Value.oneCell'])) (by simp; omega) (by decide) ?_
      intro wd a36 c36 H2
      rw [show ys.map callRow ++ [callRow x8_3] = (ys ++ [x8_3]).map callRow by simp] at H2 ⊢
      rw [List.length_map]
      exact hgo _ (x8_3, g8_3, s8_3, v8_3, b35, a36, c36) _ (sg.agree (x' := (x8_3, g8_3, s8_3, v8_3, b35, a36, c36)) (n := 7) rfl (by (iterate 7 (refine ix_cons (by first | exact fun _ => rfl | exact no sg.self | exact no (sg.des _ rfl)) ?_)); exact ix_nil)) rfl (by simp only [(show upd LL 5 3 = LL 3 from rfl), sg.anc 3 rfl, (show upd LL 5 4 = LL 4 from rfl), sg.anc 4 rfl, (show upd LL 5 5 = true from rfl), cond_true, cond_false]; exact H2.out)
    · intro LL xx ac wc sg hst hwant QQ hgo
      obtain ⟨x8_3, g8_3, s8_3, v8_3, b35, a36, c36⟩ := xx
      exact op_val hwant hgo hst _ (exec_assign rfl (sg.slot 5 (sg.anc 5 rfl))) rfl
  · exact skips [] (by kernel_rfl) (fun _ h => by cases h)
  · intro xx ac1 wz hfr hsl hst
    obtain ⟨x8_3, g8_3, s8_3, v8_3, b35, a36, c36⟩ := xx
    exact hfin x8_3 g8_3 s8_3 v8_3 b35 a36 c36 ac1 wz (hfr.size.trans hz) hfr.defers (fr_keep hfr [8, 31, 32, 33, 34, 35, 36] (by kernel_rfl)) (hsl 6 (by decide)) (Lib.hid hst)
set_option maxHeartbeats 16000000 in
set_option maxRecDepth 20000 in
theorem readC (br : Nat) (bi : Nat) (big : Bool) (s : ByteArray) (bad : Bool) (w : World) (h1 : (rB br 109 [.pointer (some ⟨bi, 0, none⟩), .bool big]).holds w) (h2 : (rB bi 117 [.string s, .bool bad]).holds w) (hne : br ≠ bi) : Calls Try.prog 57 #[.pointer (some ⟨bi, 0, none⟩), .int .i64 64, .func (.func 53) #[.pointer (some ⟨br, 0, none⟩)] #[]] w fun e w' => ∃ a c ys bg s2 b2, e = .returned (.slice a (ys : List CallV).length c) ∧ readCalls (s, bad) = (ys, bg, (s2, b2)) ∧ (rS a c 8 (ys.map callRow)).holds w' ∧ (∀ q ∈ (rS a c 8 (ys.map callRow)).foot, w.heap.size ≤ q) ∧ (rB br 109 [.pointer (some ⟨bi, 0, none⟩), .bool (big || bg)]).holds w' ∧ (rB bi 117 [.string s2, .bool b2]).holds w' ∧ Off [br, bi] w w' := by
 have H := Lib.hid (Hp.start [] w)
 have H := hp_two h1 h2 hne
 clear h1 h2
 refine wStart (args := [.pointer (some ⟨bi, 0, none⟩), .int .i64 64, .func (.func 53) #[.pointer (some ⟨br, 0, none⟩)] #[]]) Try.func57 rfl rfl rfl H ?_
 clear H
 show Wk 40 _ _ [(0, .pointer (some ⟨bi, 0, none⟩)), (1, .int .i64 64), (2, .func (.func 53) #[.pointer (some ⟨br, 0, none⟩)] #[])] _ _
 refine wSeqK fun KK1 hK1 => ?_
 refine wReg ?_
 refine p_readC rfl ?_
 refine wN ?_
 refine tN (wKK hK1 ?_)
 refine wSeqK fun KK2 hK2 => ?_
 refine wReg ?_
 refine p_readC rfl ?_
 refine wC (l := [.pointer (some ⟨bi, 0, none⟩), .int .i64 2]) Try.func41 rfl (by kernel_rfl) (fun wc H => inNumXH H (i := 1) (n := 2) rfl) rfl rfl rfl rfl ?_
 intro wc H
 rintro er wd ⟨n1_1, s1_1, v1_1, rfl, hq1, H2⟩
 replace H2 := hp_fact H2 hq1
 refine ⟨_, rfl, wkAt H2 ?_⟩
 clear H H2
 refine p_readC rfl ?_
 refine wN ?_
 intro aa ww nn dd hs H
 have hn1 := num_lt2 (hp_told H (p := inNumV s bad 2 = (n1_1, s1_1, v1_1)) (by (repeat (first | exact List.Mem.head _ | apply List.Mem.tail))))
 refine wIn nn dd hs H ?_
 refine tN (wKK hK2 ?_)
 refine wSeqK fun KK3 hK3 => ?_
 refine wSeqK fun KK4 hK4 => ?_
 refine wReg ?_
 iterate 3 refine p_readC rfl ?_
 refine wN ?_
 refine tN (wKK hK4 ?_)
 have hjn1 : ∀ (vb : Bool) , Hid (vb = bif decide (64 < (n1_1 : Int)) then true else v1_1) → Wk 40 [br, bi] w [(0, .pointer (some ⟨bi, 0, none⟩)), (1, .int .i64 64), (2, .func (.func 53) #[.pointer (some ⟨br, 0, none⟩)] #[]), (6, .slice none 0 0), (7, .int .i64 n1_1), (14, .bool (decide (64 < (n1_1 : Int))))] [rP (inNumV s bad 2 = (n1_1, s1_1, v1_1)), rB br 109 [.pointer (some ⟨bi, 0, none⟩), .bool big], rB bi 117 [.string s1_1, .bool vb]] KK3 := by
  intro vb hvb
  refine wKK hK3 ?_
  refine wSeqK fun KK5 hK5 => ?_
  refine wReg ?_
  refine p_readC rfl ?_
  refine wN ?_
  refine tN (wKK hK5 ?_)
  refine wSeqK fun KK6 hK6 => ?_
  refine wSeqK fun KK7 hK7 => ?_
  refine wReg ?_
  refine p_readC rfl ?_
  refine wN ?_
  refine tN (wKK hK7 ?_)
  refine wBlk ?_
  intro aa ww nn dd hs H
  have H := hp_nil H 25 8
  replace H : Hid (Hp [br, bi] w ww [rA none 0 25 8 (([] : List CallV).map callRow), rP (inNumV s bad 2 = (n1_1, s1_1, v1_1)), rB br 109 [.pointer (some ⟨bi, 0, none⟩), .bool big], rB bi 117 [.string s1_1, .bool vb]]) := H
  refine wIn nn dd hs H ?_
  refine wLoop (fun ab wv => ∃ k : Nat, ∃ a : Option Addr, ∃ c : Nat, ∃ ys : List CallV, ∃ bg : Bool, ∃ bb : Bool, ∃ s2 : ByteArray, ∃ b2 : Bool, Hid (Sofar n1_1 k (s1_1, vb) ys bg (s2, b2)) ∧ ys.length = k ∧ k ≤ n1_1 ∧ Hid (bb = (big || bg)) ∧ ab.tmps.size = 40 ∧ ab.defers = [] ∧ Sat [(0, .pointer (some ⟨bi, 0, none⟩)), (1, .int .i64 64), (2, .func (.func 53) #[.pointer (some ⟨br, 0, none⟩)] #[]), (6, .slice none 0 0), (7, .int .i64 n1_1), (8, .slice a ys.length c), (9, .int .i64 k), (14, .bool (decide (64 < (n1_1 : Int))))] ab ∧ Hid (Hp [br, bi] w wv [rA a c 25 8 (ys.map callRow), rP (inNumV s bad 2 = (n1_1, s1_1, v1_1)), rB br 109 [.pointer (some ⟨bi, 0, none⟩), .bool bb], rB bi 117 [.string s2, .bool b2]])) (fun ab _ => n1_1 - (intOf (ab.eval (.tmp 9))).toNat) (fun aa ww nn dd hs H => ⟨0, none, 0, [], false, big, s1_1, vb, (Lib.hid (sofar_start _ _)), rfl, (Nat.zero_le _), (Lib.hid (by simp)), nn, dd, (sat_sub ⟨rfl, rfl, rfl, rfl, rfl, rfl, rfl, rfl, trivial⟩ hs), H⟩) ?_
  rintro a1 wv ⟨k, a, c, ys, bg, bb, s2, b2, hsf, hyk, hk, hbb, nn, dd, hs, H⟩
  have mu1_9 := hs 9 _ rfl
  refine wIn nn dd hs H ?_
  clear nn dd hs H
  refine wSeqK fun KK8 hK8 => ?_
  refine wSeqK fun KK9 hK9 => ?_
  intro aa ww nn dd hs H
  refine readC_r6 br bi s bad n1_1 s1_1 v1_1 hn1 k a c ys bb s2 b2 hyk hk H aa nn (hs 0 _ rfl) (hs 2 _ rfl) (hs 7 _ rfl) (hs 9 _ rfl) ?_
  intro ab wv nn2 dd2 kp o28 H2
  refine wIn nn2 (dd2.trans dd) (Sat.cons (Sat.cons (Sat.cons (Sat.cons (Sat.cons (Sat.cons (Sat.cons (Sat.cons (Sat.cons (sat_nil ab) ((kp 14 rfl).trans (hs 14 _ rfl))) ((kp 9 rfl).trans (hs 9 _ rfl))) ((kp 8 rfl).trans (hs 8 _ rfl))) ((kp 7 rfl).trans (hs 7 _ rfl))) ((kp 6 rfl).trans (hs 6 _ rfl))) ((kp 2 rfl).trans (hs 2 _ rfl))) ((kp 1 rfl).trans (hs 1 _ rfl))) ((kp 0 rfl).trans (hs 0 _ rfl))) o28) H2 ?_
  clear hs H kp H2 dd dd2 nn nn2 o28
  refine tN (wKK hK9 ?_)
  refine wCond (E := (decide (k < n1_1)) && (!b2)) rfl (fun z1 => ?_) (fun z1 => ?_)
  · skip
    have z1l : (decide (k < n1_1)) = true := Reg.bl z1
    have z1ld : k < n1_1 := of_decide_eq_true z1l
    have z1r : (!b2) = true := Reg.br z1
    have z1rn : b2 = false := Reg.bn z1r
    refine wSk ?_
    refine tN (wKK hK8 ?_)
    refine wSeqK fun KK10 hK10 => ?_
    refine wBlk ?_
    intro aa ww nn dd hs H
    refine readC_r8 br bi s bad n1_1 s1_1 v1_1 hn1 k a c ys bb s2 b2 hyk hk z1ld H aa nn (hs 0 _ rfl) (hs 2 _ rfl) (hs 8 _ rfl) ?_
    intro x8_3 g8_3 s8_3 v8_3 b35 a36 c36 ab wv nn2 dd2 kp o8 H2
    refine wIn nn2 (dd2.trans dd) (Sat.cons (Sat.cons (Sat.cons (Sat.cons (Sat.cons (Sat.cons (Sat.cons (Sat.cons (Sat.cons (sat_nil ab) ((kp 28 rfl).trans (hs 28 _ rfl))) ((kp 14 rfl).trans (hs 14 _ rfl))) ((kp 9 rfl).trans (hs 9 _ rfl))) ((kp 7 rfl).trans (hs 7 _ rfl))) ((kp 6 rfl).trans (hs 6 _ rfl))) ((kp 2 rfl).trans (hs 2 _ rfl))) ((kp 1 rfl).trans (hs 1 _ rfl))) ((kp 0 rfl).trans (hs 0 _ rfl))) o8) H2 ?_
    clear hs H kp H2 dd dd2 nn nn2 o8
    refine bN (tN (wKK hK10 ?_))
    refine wReg ?_
    iterate 2 refine p_readC rfl ?_
    refine wI 30 rfl (IntWalk.i64_in _ (by omega)) ?_
    refine p_readC rfl ?_
    refine wN ?_
    refine tN ?_
    intro aa ww nn dd hs H
    have hdc := hp_told H (p := dCall (s2, b2) = (x8_3, g8_3, (s8_3, v8_3))) (by (repeat (first | exact List.Mem.head _ | apply List.Mem.tail)))
    replace H := hp_front H 3 rfl
    replace H := hp_front H 3 rfl
    replace H := hp_front H 5 rfl
    replace H := hp_front H 5 rfl
    refine ⟨⟨k + 1, a36, c36, (ys ++ [x8_3]), (bg || g8_3), (bb || g8_3), s8_3, v8_3, (Lib.hid (sofar_next2 z1rn hsf.out z1ld hdc)), (by simp; omega), (by omega), (Lib.hid (by rw [hbb.out, Bool.or_assoc])), nn, dd, (sat_sub ⟨rfl, rfl, rfl, rfl, rfl, rfl, rfl, rfl, trivial⟩ hs), (hp_take H 4)⟩, ?_⟩
    have m9 := hs 9 _ rfl
    simp only [mu1_9, m9, intOf]
    omega
  · skip
    refine wEx ?_
    refine tX (tX (bX (tN (wKK hK6 ?_))))
    refine wSeqK fun KK11 hK11 => ?_
    refine wSeqK fun KK12 hK12 => ?_
    rcases Bool.eq_false_or_eq_true (b2) with y2 | y2
    · skip
      refine wReg ?_
      refine p_readC rfl ?_
      refine wQ (l := [.pointer (some ⟨bi, 0, none⟩)]) Try.func74 rfl (by kernel_rfl) (.bool true) (fun wc H => off_of_eq (by have h := inBad bi s2 b2 wc (H.out.at 3 rfl); rw [y2] at h; exact h)) rfl rfl rfl rfl ?_
      refine wN ?_
      refine tN (wKK hK12 ?_)
      refine wCt rfl ?_
      refine wSeqK fun KK13 hK13 => ?_
      refine wReg ?_
      refine p_readC rfl ?_
      refine wN ?_
      refine tN (wKK hK13 ?_)
      refine wRet ?_
      refine tR ?_
      exact wR1 rfl rfl (fun ww H => (by have q0 := hp_told H (p := inNumV s bad 2 = (n1_1, s1_1, v1_1)) (by (repeat (first | exact List.Mem.head _ | apply List.Mem.tail))); have hd := readCalls_of q0 hvb.out (sofar_bad2 y2 hsf.out); rw [if_pos y2] at hd; exact ⟨none, 0, [], bg, s2, b2, rfl, hd, (rS_none _).1, (rS_none _).2, (by have h := H.out.holds (rB br 109 [.pointer (some ⟨bi, 0, none⟩), .bool bb]) (by (repeat (first | exact List.Mem.head _ | apply List.Mem.tail))); rw [hbb.out] at h; exact h), H.out.holds _ (by (repeat (first | exact List.Mem.head _ | apply List.Mem.tail))), H.out.off⟩))
    · skip
      intro aa ww nn dd hs H
      have hkk : n1_1 ≤ k := by
        have h := z1
        rw [y2] at h
        simp at h
        omega
      refine wIn nn dd hs H ?_
      refine wReg ?_
      refine p_readC rfl ?_
      refine wQ (l := [.pointer (some ⟨bi, 0, none⟩)]) Try.func74 rfl (by kernel_rfl) (.bool false) (fun wc H => off_of_eq (by have h := inBad bi s2 b2 wc (H.out.at 3 rfl); rw [y2] at h; exact h)) rfl rfl rfl rfl ?_
      refine wN ?_
      refine tN (wKK hK12 ?_)
      refine wCf rfl ?_
      refine wSk ?_
      refine tN (wKK hK11 ?_)
      refine wSeqK fun KK14 hK14 => ?_
      refine wReg ?_
      iterate 2 refine p_readC rfl ?_
      refine wN ?_
      refine tN (wKK hK14 ?_)
      refine wRet ?_
      exact wR1 rfl rfl (fun ww H => (by have q0 := hp_told H (p := inNumV s bad 2 = (n1_1, s1_1, v1_1)) (by (repeat (first | exact List.Mem.head _ | apply List.Mem.tail))); have hd := readCalls_of q0 hvb.out (sofar_end hkk hsf.out); rw [if_neg (by rw [y2]; decide)] at hd; have hg := give_A (H.out.at 0 rfl) (fresh2 H (i := 2) (j := 3) (l := 0) rfl rfl rfl (by decide) (by decide)); exact ⟨a, c, ys, bg, s2, b2, rfl, hd, hg.1, hg.2, (by have h := H.out.holds (rB br 109 [.pointer (some ⟨bi, 0, none⟩), .bool bb]) (by (repeat (first | exact List.Mem.head _ | apply List.Mem.tail))); rw [hbb.out] at h; exact h), H.out.holds _ (by (repeat (first | exact List.Mem.head _ | apply List.Mem.tail))), H.out.off⟩))
 refine wCond (E := decide (64 < (n1_1 : Int))) rfl (fun z3 => ?_) (fun z3 => ?_)
 · skip
   have z3d : 64 < (n1_1 : Int) := of_decide_eq_true z3
   refine wReg ?_
   refine p_readC rfl ?_
   refine wC (l := [.pointer (some ⟨bi, 0, none⟩)]) Try.func60 rfl (by kernel_rfl) (fun wc H => inSpoil bi s1_1 v1_1 wc (H.out.at 2 rfl)) rfl rfl rfl rfl ?_
   intro wc H
   rintro er wd ⟨rfl, hin, hof⟩
   have H2 := hp_one H (i := 2) rfl hin hof
   refine ⟨_, rfl, wkAt H2 ?_⟩
   clear H H2 hof
   refine wN ?_
   refine tN ?_
   intro aa ww nn dd hs H
   replace H := hp_front H 2 rfl
   replace H := hp_front H 2 rfl
   replace H := hp_front H 2 rfl
   exact hjn1 true (Lib.hid (by rw [z3]; rfl)) aa ww nn dd (sat_sub ⟨rfl, rfl, rfl, rfl, rfl, rfl, trivial⟩ hs) (hp_take H 3)
 · skip
   have z3d : ¬ (64 < (n1_1 : Int)) := of_decide_eq_false z3
   refine wSk ?_
   refine tN ?_
   intro aa ww nn dd hs H
   replace H := hp_front H 2 rfl
   replace H := hp_front H 2 rfl
   replace H := hp_front H 2 rfl
   exact hjn1 v1_1 (Lib.hid (by rw [z3]; rfl)) aa ww nn dd (sat_sub ⟨rfl, rfl, rfl, rfl, rfl, rfl, trivial⟩ hs) (hp_take H 3)
theorem readOk_of {s s2 : ByteArray} {n : Nat} {a : AnsV} {bg b2 E : Bool} (hr : readV s = (n, a, bg, (s2, b2))) (h : ((((n : Int) != 128) || decide (11 < a.code)) || (!((!bg) && ((!b2) && s2.toList.isEmpty)))) = E) : readOk s = !E := by
  subst h
  unfold readOk
  rw [hr]
  simp only [Bool.not_or, Bool.not_not]
  have e1 : (!((n : Int) != 128)) = (n == 128) := by
    rw [Bool.eq_iff_iff]
    simp
    omega
  have e2 : (!decide (11 < a.code)) = decide (a.code ≤ 11) := by
    rw [Bool.eq_iff_iff]
    simp
  rw [e1, e2, Bool.and_assoc]
theorem dec_yes {s : ByteArray} {r : Nat × AnsV × Bool × (ByteArray × Bool)} (hr : readV s = r) (h : readOk s = true) : decodeV s = (r.2.1, 0) := by
  subst hr
  unfold decodeV
  rw [h]
  rfl
theorem dec_no {s : ByteArray} (h : readOk s = false) : decodeV s = (zeroA, 4) := by
  unfold decodeV
  rw [h]
  rfl
def tab_decodeC : Wk.Tab := [(64, 5, 5), (109, 0, 0)]
theorem p_decodeC {ops : Array Oper} {rest : List Oper} {o : Oper} {w0 : World} {Q : Exit → Act → World → Prop} {S : List Nat} {R : List Res} {K K' : Wk.Env} {N : Nat} (h : Wk.stp tab_decodeC N ops K o = some K') (n : Wk.Wk N S w0 K' R (wpList Try.prog ops Q rest)) : Wk.Wk N S w0 K R (wpList Try.prog ops Q (o :: rest)) := Wk.wP (T := tab_decodeC) (by kernel_rfl) h n
set_option maxHeartbeats 4000000 in
set_option maxRecDepth 20000 in
theorem decodeC_r3 (s : ByteArray) (b2 : Nat) (b1_1 : Nat) (b10 : Nat) (n2_4 : Nat) (s2_4 : ByteArray) (v2_4 : Bool) {wa wb : World} (H : Hid (Hp [] wa wb [rP (inNumV s false 1 = (n2_4, s2_4, v2_4)), rB b10 109 [.pointer (some ⟨b1_1, 0, none⟩), .bool false], rB b1_1 117 [.string s2_4, .bool v2_4], rB b2 64 [.int .i64 0, .int .i64 0, .int .i64 0, .int .i64 0, .int .u32 0, .slice none 0 0]])) (ac0 : Act) (hz : ac0.tmps.size = 56) (so4 : ac0.eval (.tmp 4) = .pointer (some ⟨b10, 0, none⟩)) {QR : Exit → Act → World → Prop} (hfin : ∀ (b6 : Nat) (n3_1 : Nat) (s3_1 : ByteArray) (v3_1 : Bool) (n3_6 : Nat) (s3_6 : ByteArray) (v3_6 : Bool) (n3_8 : Nat) (s3_8 : ByteArray) (v3_8 : Bool) (n3_10 : Nat) (s3_10 : ByteArray) (v3_10 : Bool) (n3_15 : Nat) (s3_15 : ByteArray) (v3_15 : Bool) (ac1 : Act) (wz : World), ac1.tmps.size = 56 → ac1.defers = ac0.defers → (∀ t, ([6, 16, 17, 18, 19, 20, 21, 22, 23, 24, 25, 26, 27, 28, 29, 30, 31, 32, 33] : List Nat).contains t = false → ac1.eval (.tmp t) = ac0.eval (.tmp t)) → ac1.eval (.tmp 6) = .pointer (some ⟨b6, 0, none⟩) →  Hid (Hp [] wa wz [rP (inNumV s3_10 v3_10 4 = (n3_15, s3_15, v3_15)), rP (inNumV s3_8 v3_8 4 = (n3_10, s3_10, v3_10)), rB b10 109 [.pointer (some ⟨b1_1, 0, none⟩), .bool (((false || decide (1073741824 < (n3_1 : Int))) || decide (1073741824 < (n3_8 : Int))) || decide (1073741824 < (n3_10 : Int)))], rB b1_1 117 [.string s3_15, .bool v3_15], rP (inNumV s3_6 v3_6 4 = (n3_8, s3_8, v3_8)), rP (inNumV s3_1 v3_1 1 = (n3_6, s3_6, v3_6)), rP (inNumV s2_4 v2_4 4 = (n3_1, s3_1, v3_1)), rB b6 64 [.int .i64 n3_1, .int .i64 n3_6, .int .i64 n3_8, .int .i64 n3_10, .int .u32 (IntKind.u32.wrap n3_15), .slice none 0 0], rP (inNumV s false 1 = (n2_4, s2_4, v2_4)), rB b2 64 [.int .i64 0, .int .i64 0, .int .i64 0, .int .i64 0, .int .u32 0, .slice none 0 0]]) → QR .normal ac1 wz) : (regAt Try.f33 3).wp Try.prog QR ac0 wb := by
  refine wp_region_st mixedP ⟨[0, 1, 0, 1, 2, 3, 4, 0, 5, 0, 6, 0, 1, 2, 3, 7, 8, 9, 0, 10], by kernel_rfl⟩ [[], [0], [], [2], [2, 3], [2, 3, 4], [0, 1, 2, 3, 4, 5], [], [0, 1, 2, 3, 4, 5, 6, 7], [], [0, 1, 2, 3, 4, 5, 6, 7, 8, 9], [], [11], [11, 12], [11, 12, 13], [0, 1, 2, 3, 4, 5, 6, 7, 8, 9, 10, 11, 12, 13, 14], [0, 1, 2, 3, 4, 5, 6, 7, 8, 9, 10, 11, 12, 13, 14, 15], [0, 1, 2, 3, 4, 5, 6, 7, 8, 9, 10, 11, 12, 13, 14, 15, 16], [], [0, 1, 2, 3, 4, 5, 6, 7, 8, 9, 10, 11, 12, 13, 14, 15, 16, 17, 18]] (by kernel_rfl) (by kernel_rfl) 56 hz (by kernel_rfl) (fun (xx : Nat × Nat × ByteArray × Bool × Nat × ByteArray × Bool × Nat × ByteArray × Bool × Nat × ByteArray × Bool × Nat × ByteArray × Bool) jx => match xx with | (b6, n3_1, s3_1, v3_1, n3_6, s3_6, v3_6, n3_8, s3_8, v3_8, n3_10, s3_10, v3_10, n3_15, s3_15, v3_15) => nth [.pointer (some ⟨b10, 0, none⟩), .int .i64 n3_1, .pointer (some ⟨b10, 0, none⟩), .pointer (some ⟨b10, 0, none⟩), .pointer (some ⟨b10, 0, none⟩), .pointer (some ⟨b1_1, 0, none⟩), .int .i64 n3_6, .pointer (some ⟨b10, 0, none⟩), .int .i64 n3_8, .pointer (some ⟨b10, 0, none⟩), .int .i64 n3_10, .pointer (some ⟨b10, 0, none⟩), .pointer (some ⟨b10, 0, none⟩), .pointer (some ⟨b10, 0, none⟩), .pointer (some ⟨b1_1, 0, none⟩), .int .i64 n3_15, .int .u32 (IntKind.u32.wrap n3_15), .agg #[.int .i64 n3_1, .int .i64 n3_6, .int .i64 n3_8, .int .i64 n3_10, .int .u32 (IntKind.u32.wrap n3_15), .slice none 0 0], .pointer (some ⟨b6, 0, none⟩), undef] jx) (fun (LL : Nat → Bool) (xx : Nat × Nat × ByteArray × Bool × Nat × ByteArray × Bool × Nat × ByteArray × Bool × Nat × ByteArray × Bool × Nat × ByteArray × Bool) ww => match xx with | (b6, n3_1, s3_1, v3_1, n3_6, s3_6, v3_6, n3_8, s3_8, v3_8, n3_10, s3_10, v3_10, n3_15, s3_15, v3_15) => Hp [] wa ww (bif LL 18 then (bif LL 1 then (bif LL 6 then (bif LL 8 then (bif LL 10 then (bif LL 15 then (bif LL 19 then [rP (inNumV s3_10 v3_10 4 = (n3_15, s3_15, v3_15)), rP (inNumV s3_8 v3_8 4 = (n3_10, s3_10, v3_10)), rB b10 109 [.pointer (some ⟨b1_1, 0, none⟩), .bool (((false || decide (1073741824 < (n3_1 : Int))) || decide (1073741824 < (n3_8 : Int))) || decide (1073741824 < (n3_10 : Int)))], rB b1_1 117 [.string s3_15, .bool v3_15], rP (inNumV s3_6 v3_6 4 = (n3_8, s3_8, v3_8)), rP (inNumV s3_1 v3_1 1 = (n3_6, s3_6, v3_6)), rP (inNumV s2_4 v2_4 4 = (n3_1, s3_1, v3_1)), rB b6 64 [.int .i64 n3_1, .int .i64 n3_6, .int .i64 n3_8, .int .i64 n3_10, .int .u32 (IntKind.u32.wrap n3_15), .slice none 0 0], rP (inNumV s false 1 = (n2_4, s2_4, v2_4)), rB b2 64 [.int .i64 0, .int .i64 0, .int .i64 0, .int .i64 0, .int .u32 0, .slice none 0 0]] else [rP (inNumV s3_10 v3_10 4 = (n3_15, s3_15, v3_15)), rP (inNumV s3_8 v3_8 4 = (n3_10, s3_10, v3_10)), rB b10 109 [.pointer (some ⟨b1_1, 0, none⟩), .bool (((false || decide (1073741824 < (n3_1 : Int))) || decide (1073741824 < (n3_8 : Int))) || decide (1073741824 < (n3_10 : Int)))], rB b1_1 117 [.string s3_15, .bool v3_15], rP (inNumV s3_6 v3_6 4 = (n3_8, s3_8, v3_8)), rP (inNumV s3_1 v3_1 1 = (n3_6, s3_6, v3_6)), rP (inNumV s2_4 v2_4 4 = (n3_1, s3_1, v3_1)), rB b6 64 [.int .i64 0, .int .i64 0, .int .i64 0, .int .i64 0, .int .u32 0, .slice none 0 0], rP (inNumV s false 1 = (n2_4, s2_4, v2_4)), rB b2 64 [.int .i64 0, .int .i64 0, .int .i64 0, .int .i64 0, .int .u32 0, .slice none 0 0]]) else [rP (inNumV s3_8 v3_8 4 = (n3_10, s3_10, v3_10)), rB b10 109 [.pointer (some ⟨b1_1, 0, none⟩), .bool (((false || decide (1073741824 < (n3_1 : Int))) || decide (1073741824 < (n3_8 : Int))) || decide (1073741824 < (n3_10 : Int)))], rB b1_1 117 [.string s3_10, .bool v3_10], rP (inNumV s3_6 v3_6 4 = (n3_8, s3_8, v3_8)), rP (inNumV s3_1 v3_1 1 = (n3_6, s3_6, v3_6)), rP (inNumV s2_4 v2_4 4 = (n3_1, s3_1, v3_1)), rB b6 64 [.int .i64 0, .int .i64 0, .int .i64 0, .int .i64 0, .int .u32 0, .slice none 0 0], rP (inNumV s false 1 = (n2_4, s2_4, v2_4)), rB b2 64 [.int .i64 0, .int .i64 0, .int .i64 0, .int .i64 0, .int .u32 0, .slice none 0 0]]) else [rP (inNumV s3_6 v3_6 4 = (n3_8, s3_8, v3_8)), rB b10 109 [.pointer (some ⟨b1_1, 0, none⟩), .bool ((false || decide (1073741824 < (n3_1 : Int))) || decide (1073741824 < (n3_8 : Int)))], rB b1_1 117 [.string s3_8, .bool v3_8], rP (inNumV s3_1 v3_1 1 = (n3_6, s3_6, v3_6)), rP (inNumV s2_4 v2_4 4 = (n3_1, s3_1, v3_1)), rB b6 64 [.int .i64 0, .int .i64 0, .int .i64 0, .int .i64 0, .int .u32 0, .slice none 0 0], rP (inNumV s false 1 = (n2_4, s2_4, v2_4)), rB b2 64 [.int .i64 0, .int .i64 0, .int .i64 0, .int .i64 0, .int .u32 0, .slice none 0 0]]) else [rP (inNumV s3_1 v3_1 1 = (n3_6, s3_6, v3_6)), rP (inNumV s2_4 v2_4 4 = (n3_1, s3_1, v3_1)), rB b10 109 [.pointer (some ⟨b1_1, 0, none⟩), .bool (false || decide (1073741824 < (n3_1 : Int)))], rB b1_1 117 [.string s3_6, .bool v3_6], rB b6 64 [.int .i64 0, .int .i64 0, .int .i64 0, .int .i64 0, .int .u32 0, .slice none 0 0], rP (inNumV s false 1 = (n2_4, s2_4, v2_4)), rB b2 64 [.int .i64 0, .int .i64 0, .int .i64 0, .int .i64 0, .int .u32 0, .slice none 0 0]]) else [rP (inNumV s2_4 v2_4 4 = (n3_1, s3_1, v3_1)), rB b10 109 [.pointer (some ⟨b1_1, 0, none⟩), .bool (false || decide (1073741824 < (n3_1 : Int)))], rB b1_1 117 [.string s3_1, .bool v3_1], rB b6 64 [.int .i64 0, .int .i64 0, .int .i64 0, .int .i64 0, .int .u32 0, .slice none 0 0], rP (inNumV s false 1 = (n2_4, s2_4, v2_4)), rB b2 64 [.int .i64 0, .int .i64 0, .int .i64 0, .int .i64 0, .int .u32 0, .slice none 0 0]]) else [rB b6 64 [.int .i64 0, .int .i64 0, .int .i64 0, .int .i64 0, .int .u32 0, .slice none 0 0], rP (inNumV s false 1 = (n2_4, s2_4, v2_4)), rB b10 109 [.pointer (some ⟨b1_1, 0, none⟩), .bool false], rB b1_1 117 [.string s2_4, .bool v2_4], rB b2 64 [.int .i64 0, .int .i64 0, .int .i64 0, .int .i64 0, .int .u32 0, .slice none 0 0]]) else (bif LL 1 then (bif LL 6 then (bif LL 8 then (bif LL 10 then (bif LL 15 then [rP (inNumV s3_10 v3_10 4 = (n3_15, s3_15, v3_15)), rP (inNumV s3_8 v3_8 4 = (n3_10, s3_10, v3_10)), rB b10 109 [.pointer (some ⟨b1_1, 0, none⟩), .bool (((false || decide (1073741824 < (n3_1 : Int))) || decide (1073741824 < (n3_8 : Int))) || decide (1073741824 < (n3_10 : Int)))], rB b1_1 117 [.string s3_15, .bool v3_15], rP (inNumV s3_6 v3_6 4 = (n3_8, s3_8, v3_8)), rP (inNumV s3_1 v3_1 1 = (n3_6, s3_6, v3_6)), rP (inNumV s2_4 v2_4 4 = (n3_1, s3_1, v3_1)), rP (inNumV s false 1 = (n2_4, s2_4, v2_4)), rB b2 64 [.int .i64 0, .int .i64 0, .int .i64 0, .int .i64 0, .int .u32 0, .slice none 0 0]] else [rP (inNumV s3_8 v3_8 4 = (n3_10, s3_10, v3_10)), rB b10 109 [.pointer (some ⟨b1_1, 0, none⟩), .bool (((false || decide (1073741824 < (n3_1 : Int))) || decide (1073741824 < (n3_8 : Int))) || decide (1073741824 < (n3_10 : Int)))], rB b1_1 117 [.string s3_10, .bool v3_10], rP (inNumV s3_6 v3_6 4 = (n3_8, s3_8, v3_8)), rP (inNumV s3_1 v3_1 1 = (n3_6, s3_6, v3_6)), rP (inNumV s2_4 v2_4 4 = (n3_1, s3_1, v3_1)), rP (inNumV s false 1 = (n2_4, s2_4, v2_4)), rB b2 64 [.int .i64 0, .int .i64 0, .int .i64 0, .int .i64 0, .int .u32 0, .slice none 0 0]]) else [rP (inNumV s3_6 v3_6 4 = (n3_8, s3_8, v3_8)), rB b10 109 [.pointer (some ⟨b1_1, 0, none⟩), .bool ((false || decide (1073741824 < (n3_1 : Int))) || decide (1073741824 < (n3_8 : Int)))], rB b1_1 117 [.string s3_8, .bool v3_8], rP (inNumV s3_1 v3_1 1 = (n3_6, s3_6, v3_6)), rP (inNumV s2_4 v2_4 4 = (n3_1, s3_1, v3_1)), rP (inNumV s false 1 = (n2_4, s2_4, v2_4)), rB b2 64 [.int .i64 0, .int .i64 0, .int .i64 0, .int .i64 0, .int .u32 0, .slice none 0 0]]) else [rP (inNumV s3_1 v3_1 1 = (n3_6, s3_6, v3_6)), rP (inNumV s2_4 v2_4 4 = (n3_1, s3_1, v3_1)), rB b10 109 [.pointer (some ⟨b1_1, 0, none⟩), .bool (false || decide (1073741824 < (n3_1 : Int)))], rB b1_1 117 [.string s3_6, .bool v3_6], rP (inNumV s false 1 = (n2_4, s2_4, v2_4)), rB b2 64 [.int .i64 0, .int .i64 0, .int .i64 0, .int .i64 0, .int .u32 0, .slice none 0 0]]) else [rP (inNumV s2_4 v2_4 4 = (n3_1, s3_1, v3_1)), rB b10 109 [.pointer (some ⟨b1_1, 0, none⟩), .bool (false || decide (1073741824 < (n3_1 : Int)))], rB b1_1 117 [.string s3_1, .bool v3_1], rP (inNumV s false 1 = (n2_4, s2_4, v2_4)), rB b2 64 [.int .i64 0, .int .i64 0, .int .i64 0, .int .i64 0, .int .u32 0, .slice none 0 0]]) else [rP (inNumV s false 1 = (n2_4, s2_4, v2_4)), rB b10 109 [.pointer (some ⟨b1_1, 0, none⟩), .bool false], rB b1_1 117 [.string s2_4, .bool v2_4], rB b2 64 [.int .i64 0, .int .i64 0, .int .i64 0, .int .i64 0, .int .u32 0, .slice none 0 0]]))) (default, default, default, default, default, default, default, default, default, default, default, default, default, default, default, default) H.out.drew ?_ (steps_al ?_) ?_ ?_
  · intro L1 L2 xx ww hL sg
    have lh18 := hL 18 (by decide)
    have lh1 := hL 1 (by decide)
    have lh6 := hL 6 (by decide)
    have lh8 := hL 8 (by decide)
    have lh10 := hL 10 (by decide)
    have lh15 := hL 15 (by decide)
    have lh19 := hL 19 (by decide)
    simp only [lh18, lh1, lh6, lh8, lh10, lh15, lh19] at sg
    exact sg
  · refine al_cons ?_ (al_cons ?_ (al_cons ?_ (al_cons ?_ (al_cons ?_ (al_cons ?_ (al_cons ?_ (al_cons ?_ (al_cons ?_ (al_cons ?_ (al_cons ?_ (al_cons ?_ (al_cons ?_ (al_cons ?_ (al_cons ?_ (al_cons ?_ (al_cons ?_ (al_cons ?_ (al_cons ?_ (al_cons ?_ (al_nil))))))))))))))))))))
    · intro LL xx ac wc sg hst hwant QQ hgo
      obtain ⟨b6, n3_1, s3_1, v3_1, n3_6, s3_6, v3_6, n3_8, s3_8, v3_8, n3_10, s3_10, v3_10, n3_15, s3_15, v3_15⟩ := xx
      exact op_val hwant hgo hst _ (exec_move rfl ((sg.free 4 (by kernel_rfl)).trans so4)) rfl
    · intro LL xx ac wc sg hst hwant QQ hgo
      obtain ⟨b6, _, _, _, n3_6, s3_6, v3_6, n3_8, s3_8, v3_8, n3_10, s3_10, v3_10, n3_15, s3_15, v3_15⟩ := xx
      have se16 : ac.eval (.tmp 16) = _ := (sg.slot 0 (sg.anc 0 rfl))
      have sg16 := gt_of se16
      (try simp only [nth] at se16 sg16)
      rcases Bool.eq_false_or_eq_true (LL 18) with lh18 | lh18
      · skip
        have H := Lib.hid hst
        simp only [lh18, sg.self, sg.des 6 rfl, sg.des 8 rfl, sg.des 10 rfl, sg.des 15 rfl, sg.des 19 rfl, cond_true, cond_false] at H
        refine op_call hwant hgo 52 #[.pointer (some ⟨b10, 0, none⟩)] (by simp only [execOp]; go_simp) (countC b10 b1_1 false s2_4 v2_4 wc (show (rB b10 109 [.pointer (some ⟨b1_1, 0, none⟩), .bool false]).holds wc from H.out.holds _ (by (repeat (first | exact List.Mem.head _ | apply List.Mem.tail)))) (show (rB b1_1 117 [.string s2_4, .bool v2_4]).holds wc from H.out.holds _ (by (repeat (first | exact List.Mem.head _ | apply List.Mem.tail)))) (blk_ne H (i := 2) (j := 3) rfl rfl (by decide))) ?_
        rintro er wd ⟨n3_1, s3_1, v3_1, rfl, hq1, hb1, hb2, hof⟩
        have HF := hp_front H 3 rfl
        replace HF := hp_front HF 3 rfl
        have H2 := hp_twice HF hb1 hb2 hof
        replace H2 := hp_fact H2 hq1
        exact ⟨_, (b6, n3_1, s3_1, v3_1, n3_6, s3_6, v3_6, n3_8, s3_8, v3_8, n3_10, s3_10, v3_10, n3_15, s3_15, v3_15), rfl, (sg.agree (x' := (b6, n3_1, s3_1, v3_1, n3_6, s3_6, v3_6, n3_8, s3_8, v3_8, n3_10, s3_10, v3_10, n3_15, s3_15, v3_15)) (n := 20) rfl (by (iterate 20 (refine ix_cons (by first | exact fun _ => rfl | exact no sg.self | exact no (sg.des _ rfl)) ?_)); exact ix_nil)), rfl, (by simp only [(show upd LL 1 18 = LL 18 from rfl), lh18, (show upd LL 1 1 = true from rfl), (show upd LL 1 6 = LL 6 from rfl), sg.des 6 rfl, (show upd LL 1 8 = LL 8 from rfl), sg.des 8 rfl, (show upd LL 1 10 = LL 10 from rfl), sg.des 10 rfl, (show upd LL 1 15 = LL 15 from rfl), sg.des 15 rfl, (show upd LL 1 19 = LL 19 from rfl), sg.des 19 rfl, cond_true, cond_false]; exact H2.out)⟩
      · skip
        have H := Lib.hid hst
        simp only [lh18, sg.self, sg.des 6 rfl, sg.des 8 rfl, sg.des 10 rfl, sg.des 15 rfl, sg.des 19 rfl, cond_true, cond_false] at H
        refine op_call hwant hgo 52 #[.pointer (some ⟨b10, 0, none⟩)] (by simp only [execOp]; go_simp) (countC b10 b1_1 false s2_4 v2_4 wc (show (rB b10 109 [.pointer (some ⟨b1_1, 0, none⟩), .bool false]).holds wc from H.out.holds _ (by (repeat (first | exact List.Mem.head _ | apply List.Mem.tail)))) (show (rB b1_1 117 [.string s2_4, .bool v2_4]).holds wc from H.out.holds _ (by (repeat (first | exact List.Mem.head _ | apply List.Mem.tail)))) (blk_ne H (i := 1) (j := 2) rfl rfl (by decide))) ?_
        rintro er wd ⟨n3_1, s3_1, v3_1, rfl, hq1, hb1, hb2, hof⟩
        have HF := hp_front H 2 rfl
        replace HF := hp_front HF 2 rfl
        have H2 := hp_twice HF hb1 hb2 hof
        replace H2 := hp_fact H2 hq1
        exact ⟨_, (b6, n3_1, s3_1, v3_1, n3_6, s3_6, v3_6, n3_8, s3_8, v3_8, n3_10, s3_10, v3_10, n3_15, s3_15, v3_15), rfl, (sg.agree (x' := (b6, n3_1, s3_1, v3_1, n3_6, s3_6, v3_6, n3_8, s3_8, v3_8, n3_10, s3_10, v3_10, n3_15, s3_15, v3_15)) (n := 20) rfl (by (iterate 20 (refine ix_cons (by first | exact fun _ => rfl | exact no sg.self | exact no (sg.des _ rfl)) ?_)); exact ix_nil)), rfl, (by simp only [(show upd LL 1 18 = LL 18 from rfl), lh18, (show upd LL 1 1 = true from rfl), (show upd LL 1 6 = LL 6 from rfl), sg.des 6 rfl, (show upd LL 1 8 = LL 8 from rfl), sg.des 8 rfl, (show upd LL 1 10 = LL 10 from rfl), sg.des 10 rfl, (show upd LL 1 15 = LL 15 from rfl), sg.des 15 rfl, (show upd LL 1 19 = LL 19 from rfl), sg.des 19 rfl, cond_true, cond_false]; exact H2.out)⟩
    · intro LL xx ac wc sg hst hwant QQ hgo
      obtain ⟨b6, n3_1, s3_1, v3_1, n3_6, s3_6, v3_6, n3_8, s3_8, v3_8, n3_10, s3_10, v3_10, n3_15, s3_15, v3_15⟩ := xx
      exact op_val hwant hgo hst _ (exec_move rfl ((sg.free 4 (by kernel_rfl)).trans so4)) rfl
    · intro LL xx ac wc sg hst hwant QQ hgo
      obtain ⟨b6, n3_1, s3_1, v3_1, n3_6, s3_6, v3_6, n3_8, s3_8, v3_8, n3_10, s3_10, v3_10, n3_15, s3_15, v3_15⟩ := xx
      have se18 : ac.eval (.tmp 18) = _ := (sg.slot 2 (sg.anc 2 rfl))
      have sg18 := gt_of se18
      (try simp only [nth] at se18 sg18)
      exact op_val hwant hgo hst _ (by simp only [execOp, nth]; go_simp <;> omega) rfl
    · intro LL xx ac wc sg hst hwant QQ hgo
      obtain ⟨b6, n3_1, s3_1, v3_1, n3_6, s3_6, v3_6, n3_8, s3_8, v3_8, n3_10, s3_10, v3_10, n3_15, s3_15, v3_15⟩ := xx
      have se19 : ac.eval (.tmp 19) = _ := (sg.slot 3 (sg.anc 3 rfl))
      have sg19 := gt_of se19
      (try simp only [nth] at se19 sg19)
      exact op_val hwant hgo hst _ (by simp only [execOp, nth]; go_simp <;> omega) rfl
    · intro LL xx ac wc sg hst hwant QQ hgo
      obtain ⟨b6, n3_1, s3_1, v3_1, n3_6, s3_6, v3_6, n3_8, s3_8, v3_8, n3_10, s3_10, v3_10, n3_15, s3_15, v3_15⟩ := xx
      rcases Bool.eq_false_or_eq_true (LL 18) with lh18 | lh18
      · skip
        rcases Bool.eq_false_or_eq_true (LL 1) with lh1 | lh1
        · skip
          have H := Lib.hid hst
          simp only [lh18, lh1, sg.des 6 rfl, sg.des 8 rfl, sg.des 10 rfl, sg.des 15 rfl, sg.des 19 rfl, cond_true, cond_false] at H
          refine hpA_load1 tyP_pack_In H rfl (sg.slot 4 (sg.anc 4 rfl)) hwant (by (repeat (first | exact List.Mem.head _ | apply List.Mem.tail))) (by rfl) ?_
          exact hgo _ (b6, n3_1, s3_1, v3_1, n3_6, s3_6, v3_6, n3_8, s3_8, v3_8, n3_10, s3_10, v3_10, n3_15, s3_15, v3_15) _ (fun _ _ => rfl) rfl hst
        · skip
          have H := Lib.hid hst
          simp only [lh18, lh1, sg.des 6 rfl, sg.des 8 rfl, sg.des 10 rfl, sg.des 15 rfl, sg.des 19 rfl, cond_true, cond_false] at H
          refine hpA_load1 tyP_pack_In H rfl (sg.slot 4 (sg.anc 4 rfl)) hwant (by (repeat (first | exact List.Mem.head _ | apply List.Mem.tail))) (by rfl) ?_
          exact hgo _ (b6, n3_1, s3_1, v3_1, n3_6, s3_6, v3_6, n3_8, s3_8, v3_8, n3_10, s3_10, v3_10, n3_15, s3_15, v3_15) _ (fun _ _ => rfl) rfl hst
      · skip
        rcases Bool.eq_false_or_eq_true (LL 1) with lh1 | lh1
        · skip
          have H := Lib.hid hst
          simp only [lh18, lh1, sg.des 6 rfl, sg.des 8 rfl, sg.des 10 rfl, sg.des 15 rfl, sg.des 19 rfl, cond_true, cond_false] at H
          refine hpA_load1 tyP_pack_In H rfl (sg.slot 4 (sg.anc 4 rfl)) hwant (by (repeat (first | exact List.Mem.head _ | apply List.Mem.tail))) (by rfl) ?_
          exact hgo _ (b6, n3_1, s3_1, v3_1, n3_6, s3_6, v3_6, n3_8, s3_8, v3_8, n3_10, s3_10, v3_10, n3_15, s3_15, v3_15) _ (fun _ _ => rfl) rfl hst
        · skip
          have H := Lib.hid hst
          simp only [lh18, lh1, sg.des 6 rfl, sg.des 8 rfl, sg.des 10 rfl, sg.des 15 rfl, sg.des 19 rfl, cond_true, cond_false] at H
          refine hpA_load1 tyP_pack_In H rfl (sg.slot 4 (sg.anc 4 rfl)) hwant (by (repeat (first | exact List.Mem.head _ | apply List.Mem.tail))) (by rfl) ?_
          exact hgo _ (b6, n3_1, s3_1, v3_1, n3_6, s3_6, v3_6, n3_8, s3_8, v3_8, n3_10, s3_10, v3_10, n3_15, s3_15, v3_15) _ (fun _ _ => rfl) rfl hst
    · intro LL xx ac wc sg hst hwant QQ hgo
      obtain ⟨b6, n3_1, s3_1, v3_1, _, _, _, n3_8, s3_8, v3_8, n3_10, s3_10, v3_10, n3_15, s3_15, v3_15⟩ := xx
      have se21 : ac.eval (.tmp 21) = _ := (sg.slot 5 (sg.anc 5 rfl))
      have sg21 := gt_of se21
      (try simp only [nth] at se21 sg21)
      rcases Bool.eq_false_or_eq_true (LL 18) with lh18 | lh18
      · skip
        have H := Lib.hid hst
        simp only [lh18, sg.anc 1 rfl, sg.self, sg.des 8 rfl, sg.des 10 rfl, sg.des 15 rfl, sg.des 19 rfl, cond_true, cond_false] at H
        refine op_call hwant hgo 41 #[.pointer (some ⟨b1_1, 0, none⟩), .int .i64 1] (by simp only [execOp]; go_simp) (inNumXH H (i := 2) (n := 1) rfl) ?_
        rintro er wd ⟨n3_6, s3_6, v3_6, rfl, hq1, H2⟩
        replace H2 := hp_fact H2 hq1
        exact ⟨_, (b6, n3_1, s3_1, v3_1, n3_6, s3_6, v3_6, n3_8, s3_8, v3_8, n3_10, s3_10, v3_10, n3_15, s3_15, v3_15), rfl, (sg.agree (x' := (b6, n3_1, s3_1, v3_1, n3_6, s3_6, v3_6, n3_8, s3_8, v3_8, n3_10, s3_10, v3_10, n3_15, s3_15, v3_15)) (n := 20) rfl (by (iterate 20 (refine ix_cons (by first | exact fun _ => rfl | exact no sg.self | exact no (sg.des _ rfl)) ?_)); exact ix_nil)), rfl, (by simp only [(show upd LL 6 18 = LL 18 from rfl), lh18, (show upd LL 6 1 = LL 1 from rfl), sg.anc 1 rfl, (show upd LL 6 6 = true from rfl), (show upd LL 6 8 = LL 8 from rfl), sg.des 8 rfl, (show upd LL 6 10 = LL 10 from rfl), sg.des 10 rfl, (show upd LL 6 15 = LL 15 from rfl), sg.des 15 rfl, (show upd LL 6 19 = LL 19 from rfl), sg.des 19 rfl, cond_true, cond_false]; exact H2.out)⟩
      · skip
        have H := Lib.hid hst
        simp only [lh18, sg.anc 1 rfl, sg.self, sg.des 8 rfl, sg.des 10 rfl, sg.des 15 rfl, sg.des 19 rfl, cond_true, cond_false] at H
        refine op_call hwant hgo 41 #[.pointer (some ⟨b1_1, 0, none⟩), .int .i64 1] (by simp only [execOp]; go_simp) (inNumXH H (i := 2) (n := 1) rfl) ?_
        rintro er wd ⟨n3_6, s3_6, v3_6, rfl, hq1, H2⟩
        replace H2 := hp_fact H2 hq1
        exact ⟨_, (b6, n3_1, s3_1, v3_1, n3_6, s3_6, v3_6, n3_8, s3_8, v3_8, n3_10, s3_10, v3_10, n3_15, s3_15, v3_15), rfl, (sg.agree (x' := (b6, n3_1, s3_1, v3_1, n3_6, s3_6, v3_6, n3_8, s3_8, v3_8, n3_10, s3_10, v3_10, n3_15, s3_15, v3_15)) (n := 20) rfl (by (iterate 20 (refine ix_cons (by first | exact fun _ => rfl | exact no sg.self | exact no (sg.des _ rfl)) ?_)); exact ix_nil)), rfl, (by simp only [(show upd LL 6 18 = LL 18 from rfl), lh18, (show upd LL 6 1 = LL 1 from rfl), sg.anc 1 rfl, (show upd LL 6 6 = true from rfl), (show upd LL 6 8 = LL 8 from rfl), sg.des 8 rfl, (show upd LL 6 10 = LL 10 from rfl), sg.des 10 rfl, (show upd LL 6 15 = LL 15 from rfl), sg.des 15 rfl, (show upd LL 6 19 = LL 19 from rfl), sg.des 19 rfl, cond_true, cond_false]; exact H2.out)⟩
    · intro LL xx ac wc sg hst hwant QQ hgo
      obtain ⟨b6, n3_1, s3_1, v3_1, n3_6, s3_6, v3_6, n3_8, s3_8, v3_8, n3_10, s3_10, v3_10, n3_15, s3_15, v3_15⟩ := xx
      exact op_val hwant hgo hst _ (exec_move rfl ((sg.free 4 (by kernel_rfl)).trans so4)) rfl
    · intro LL xx ac wc sg hst hwant QQ hgo
      obtain ⟨b6, n3_1, s3_1, v3_1, n3_6, s3_6, v3_6, _, _, _, n3_10, s3_10, v3_10, n3_15, s3_15, v3_15⟩ := xx
      have se23 : ac.eval (.tmp 23) = _ := (sg.slot 7 (sg.anc 7 rfl))
      have sg23 := gt_of se23
      (try simp only [nth] at se23 sg23)
      rcases Bool.eq_false_or_eq_true (LL 18) with lh18 | lh18
      · skip
        have H := Lib.hid hst
        simp only [lh18, sg.anc 1 rfl, sg.anc 6 rfl, sg.self, sg.des 10 rfl, sg.des 15 rfl, sg.des 19 rfl, cond_true, cond_false] at H
        refine op_call hwant hgo 52 #[.pointer (some ⟨b10, 0, none⟩)] (by simp only [execOp]; go_simp) (countC b10 b1_1 (false || decide (1073741824 < (n3_1 : Int))) s3_6 v3_6 wc (show (rB b10 109 [.pointer (some ⟨b1_1, 0, none⟩), .bool (false || decide (1073741824 < (n3_1 : Int)))]).holds wc from H.out.holds _ (by (repeat (first | exact List.Mem.head _ | apply List.Mem.tail)))) (show (rB b1_1 117 [.string s3_6, .bool v3_6]).holds wc from H.out.holds _ (by (repeat (first | exact List.Mem.head _ | apply List.Mem.tail)))) (blk_ne H (i := 2) (j := 3) rfl rfl (by decide))) ?_
        rintro er wd ⟨n3_8, s3_8, v3_8, rfl, hq1, hb1, hb2, hof⟩
        have HF := hp_front H 3 rfl
        replace HF := hp_front HF 3 rfl
        have H2 := hp_twice HF hb1 hb2 hof
        replace H2 := hp_fact H2 hq1
        exact ⟨_, (b6, n3_1, s3_1, v3_1, n3_6, s3_6, v3_6, n3_8, s3_8, v3_8, n3_10, s3_10, v3_10, n3_15, s3_15, v3_15), rfl, (sg.agree (x' := (b6, n3_1, s3_1, v3_1, n3_6, s3_6, v3_6, n3_8, s3_8, v3_8, n3_10, s3_10, v3_10, n3_15, s3_15, v3_15)) (n := 20) rfl (by (iterate 20 (refine ix_cons (by first | exact fun _ => rfl | exact no sg.self | exact no (sg.des _ rfl)) ?_)); exact ix_nil)), rfl, (by simp only [(show upd LL 8 18 = LL 18 from rfl), lh18, (show upd LL 8 1 = LL 1 from rfl), sg.anc 1 rfl, (show upd LL 8 6 = LL 6 from rfl), sg.anc 6 rfl, (show upd LL 8 8 = true from rfl), (show upd LL 8 10 = LL 10 from rfl), sg.des 10 rfl, (show upd LL 8 15 = LL 15 from rfl), sg.des 15 rfl, (show upd LL 8 19 = LL 19 from rfl), sg.des 19 rfl, cond_true, cond_false]; exact H2.out)⟩
      · skip
        have H := Lib.hid hst
        simp only [lh18, sg.anc 1 rfl, sg.anc 6 rfl, sg.self, sg.des 10 rfl, sg.des 15 rfl, sg.des 19 rfl, cond_true, cond_false] at H
        refine op_call hwant hgo 52 #[.pointer (some ⟨b10, 0, none⟩)] (by simp only [execOp]; go_simp) (countC b10 b1_1 (false || decide (1073741824 < (n3_1 : Int))) s3_6 v3_6 wc (show (rB b10 109 [.pointer (some ⟨b1_1, 0, none⟩), .bool (false || decide (1073741824 < (n3_1 : Int)))]).holds wc from H.out.holds _ (by (repeat (first | exact List.Mem.head _ | apply List.Mem.tail)))) (show (rB b1_1 117 [.string s3_6, .bool v3_6]).holds wc from H.out.holds _ (by (repeat (first | exact List.Mem.head _ | apply List.Mem.tail)))) (blk_ne H (i := 2) (j := 3) rfl rfl (by decide))) ?_
        rintro er wd ⟨n3_8, s3_8, v3_8, rfl, hq1, hb1, hb2, hof⟩
        have HF := hp_front H 3 rfl
        replace HF := hp_front HF 3 rfl
        have H2 := hp_twice HF hb1 hb2 hof
        replace H2 := hp_fact H2 hq1
        exact ⟨_, (b6, n3_1, s3_1, v3_1, n3_6, s3_6, v3_6, n3_8, s3_8, v3_8, n3_10, s3_10, v3_10, n3_15, s3_15, v3_15), rfl, (sg.agree (x' := (b6, n3_1, s3_1, v3_1, n3_6, s3_6, v3_6, n3_8, s3_8, v3_8, n3_10, s3_10, v3_10, n3_15, s3_15, v3_15)) (n := 20) rfl (by (iterate 20 (refine ix_cons (by first | exact fun _ => rfl | exact no sg.self | exact no (sg.des _ rfl)) ?_)); exact ix_nil)), rfl, (by simp only [(show upd LL 8 18 = LL 18 from rfl), lh18, (show upd LL 8 1 = LL 1 from rfl), sg.anc 1 rfl, (show upd LL 8 6 = LL 6 from rfl), sg.anc 6 rfl, (show upd LL 8 8 = true from rfl), (show upd LL 8 10 = LL 10 from rfl), sg.des 10 rfl, (show upd LL 8 15 = LL 15 from rfl), sg.des 15 rfl, (show upd LL 8 19 = LL 19 from rfl), sg.des 19 rfl, cond_true, cond_false]; exact H2.out)⟩
    · intro LL xx ac wc sg hst hwant QQ hgo
      obtain ⟨b6, n3_1, s3_1, v3_1, n3_6, s3_6, v3_6, n3_8, s3_8, v3_8, n3_10, s3_10, v3_10, n3_15, s3_15, v3_15⟩ := xx
      exact op_val hwant hgo hst _ (exec_move rfl ((sg.free 4 (by kernel_rfl)).trans so4)) rfl
    · intro LL xx ac wc sg hst hwant QQ hgo
      obtain ⟨b6, n3_1, s3_1, v3_1, n3_6, s3_6, v3_6, n3_8, s3_8, v3_8, _, _, _, n3_15, s3_15, v3_15⟩ := xx
      have se25 : ac.eval (.tmp 25) = _ := (sg.slot 9 (sg.anc 9 rfl))
      have sg25 := gt_of se25
      (try simp only [nth] at se25 sg25)
      rcases Bool.eq_false_or_eq_true (LL 18) with lh18 | lh18
      · skip
        have H := Lib.hid hst
        simp only [lh18, sg.anc 1 rfl, sg.anc 6 rfl, sg.anc 8 rfl, sg.self, sg.des 15 rfl, sg.des 19 rfl, cond_true, cond_false] at H
        refine op_call hwant hgo 52 #[.pointer (some ⟨b10, 0, none⟩)] (by simp only [execOp]; go_simp) (countC b10 b1_1 ((false || decide (1073741824 < (n3_1 : Int))) || decide (1073741824 < (n3_8 : Int))) s3_8 v3_8 wc (show (rB b10 109 [.pointer (some ⟨b1_1, 0, none⟩), .bool ((false || decide (1073741824 < (n3_1 : Int))) || decide (1073741824 < (n3_8 : Int)))]).holds wc from H.out.holds _ (by (repeat (first | exact List.Mem.head _ | apply List.Mem.tail)))) (show (rB b1_1 117 [.string s3_8, .bool v3_8]).holds wc from H.out.holds _ (by (repeat (first | exact List.Mem.head _ | apply List.Mem.tail)))) (blk_ne H (i := 1) (j := 2) rfl rfl (by decide))) ?_
        rintro er wd ⟨n3_10, s3_10, v3_10, rfl, hq1, hb1, hb2, hof⟩
        have HF := hp_front H 2 rfl
        replace HF := hp_front HF 2 rfl
        have H2 := hp_twice HF hb1 hb2 hof
        replace H2 := hp_fact H2 hq1
        exact ⟨_, (b6, n3_1, s3_1, v3_1, n3_6, s3_6, v3_6, n3_8, s3_8, v3_8, n3_10, s3_10, v3_10, n3_15, s3_15, v3_15), rfl, (sg.agree (x' := (b6, n3_1, s3_1, v3_1, n3_6, s3_6, v3_6, n3_8, s3_8, v3_8, n3_10, s3_10, v3_10, n3_15, s3_15, v3_15)) (n := 20) rfl (by (iterate 20 (refine ix_cons (by first | exact fun _ => rfl | exact no sg.self | exact no (sg.des _ rfl)) ?_)); exact ix_nil)), rfl, (by simp only [(show upd LL 10 18 = LL 18 from rfl), lh18, (show upd LL 10 1 = LL 1 from rfl), sg.anc 1 rfl, (show upd LL 10 6 = LL 6 from rfl), sg.anc 6 rfl, (show upd LL 10 8 = LL 8 from rfl), sg.anc 8 rfl, (show upd LL 10 10 = true from rfl), (show upd LL 10 15 = LL 15 from rfl), sg.des 15 rfl, (show upd LL 10 19 = LL 19 from rfl), sg.des 19 rfl, cond_true, cond_false]; exact H2.out)⟩
      · skip
        have H := Lib.hid hst
        simp only [lh18, sg.anc 1 rfl, sg.anc 6 rfl, sg.anc 8 rfl, sg.self, sg.des 15 rfl, sg.des 19 rfl, cond_true, cond_false] at H
        refine op_call hwant hgo 52 #[.pointer (some ⟨b10, 0, none⟩)] (by simp only [execOp]; go_simp) (countC b10 b1_1 ((false || decide (1073741824 < (n3_1 : Int))) || decide (1073741824 < (n3_8 : Int))) s3_8 v3_8 wc (show (rB b10 109 [.pointer (some ⟨b1_1, 0, none⟩), .bool ((false || decide (1073741824 < (n3_1 : Int))) || decide (1073741824 < (n3_8 : Int)))]).holds wc from H.out.holds _ (by (repeat (first | exact List.Mem.head _ | apply List.Mem.tail)))) (show (rB b1_1 117 [.string s3_8, .bool v3_8]).holds wc from H.out.holds _ (by (repeat (first | exact List.Mem.head _ | apply List.Mem.tail)))) (blk_ne H (i := 1) (j := 2) rfl rfl (by decide))) ?_
        rintro er wd ⟨n3_10, s3_10, v3_10, rfl, hq1, hb1, hb2, hof⟩
        have HF := hp_front H 2 rfl
        replace HF := hp_front HF 2 rfl
        have H2 := hp_twice HF hb1 hb2 hof
        replace H2 := hp_fact H2 hq1
        exact ⟨_, (b6, n3_1, s3_1, v3_1, n3_6, s3_6, v3_6, n3_8, s3_8, v3_8, n3_10, s3_10, v3_10, n3_15, s3_15, v3_15), rfl, (sg.agree (x' := (b6, n3_1, s3_1, v3_1, n3_6, s3_6, v3_6, n3_8, s3_8, v3_8, n3_10, s3_10, v3_10, n3_15, s3_15, v3_15)) (n := 20) rfl (by (iterate 20 (refine ix_cons (by first | exact fun _ => rfl | exact no sg.self | exact no (sg.des _ rfl)) ?_)); exact ix_nil)), rfl, (by simp only [(show upd LL 10 18 = LL 18 from rfl), lh18, (show upd LL 10 1 = LL 1 from rfl), sg.anc 1 rfl, (show upd LL 10 6 = LL 6 from rfl), sg.anc 6 rfl, (show upd LL 10 8 = LL 8 from rfl), sg.anc 8 rfl, (show upd LL 10 10 = true from rfl), (show upd LL 10 15 = LL 15 from rfl), sg.des 15 rfl, (show upd LL 10 19 = LL 19 from rfl), sg.des 19 rfl, cond_true, cond_false]; exact H2.out)⟩
    · intro LL xx ac wc sg hst hwant QQ hgo
      obtain ⟨b6, n3_1, s3_1, v3_1, n3_6, s3_6, v3_6, n3_8, s3_8, v3_8, n3_10, s3_10, v3_10, n3_15, s3_15, v3_15⟩ := xx
      exact op_val hwant hgo hst _ (exec_move rfl ((sg.free 4 (by kernel_rfl)).trans so4)) rfl
    · intro LL xx ac wc sg hst hwant QQ hgo
      obtain ⟨b6, n3_1, s3_1, v3_1, n3_6, s3_6, v3_6, n3_8, s3_8, v3_8, n3_10, s3_10, v3_10, n3_15, s3_15, v3_15⟩ := xx
      have se27 : ac.eval (.tmp 27) = _ := (sg.slot 11 (sg.anc 11 rfl))
      have sg27 := gt_of se27
      (try simp only [nth] at se27 sg27)
      exact op_val hwant hgo hst _ (by simp only [execOp, nth]; go_simp <;> omega) rfl
    · intro LL xx ac wc sg hst hwant QQ hgo
      obtain ⟨b6, n3_1, s3_1, v3_1, n3_6, s3_6, v3_6, n3_8, s3_8, v3_8, n3_10, s3_10, v3_10, n3_15, s3_15, v3_15⟩ := xx
      have se28 : ac.eval (.tmp 28) = _ := (sg.slot 12 (sg.anc 12 rfl))
      have sg28 := gt_of se28
      (try simp only [nth] at se28 sg28)
      exact op_val hwant hgo hst _ (by simp only [execOp, nth]; go_simp <;> omega) rfl
    · intro LL xx ac wc sg hst hwant QQ hgo
      obtain ⟨b6, n3_1, s3_1, v3_1, n3_6, s3_6, v3_6, n3_8, s3_8, v3_8, n3_10, s3_10, v3_10, n3_15, s3_15, v3_15⟩ := xx
      rcases Bool.eq_false_or_eq_true (LL 18) with lh18 | lh18
      · skip
        rcases Bool.eq_false_or_eq_true (LL 1) with lh1 | lh1
        · skip
          rcases Bool.eq_false_or_eq_true (LL 6) with lh6 | lh6
          · skip
            rcases Bool.eq_false_or_eq_true (LL 8) with lh8 | lh8
            · skip
              rcases Bool.eq_false_or_eq_true (LL 10) with lh10 | lh10
              · skip
                have H := Lib.hid hst
                simp only [lh18, lh1, lh6, lh8, lh10, sg.des 15 rfl, sg.des 19 rfl, cond_true, cond_false] at H
                refine hpA_load1 tyP_pack_In H rfl (sg.slot 13 (sg.anc 13 rfl)) hwant (by (repeat (first | exact List.Mem.head _ | apply List.Mem.tail))) (by rfl) ?_
                exact hgo _ (b6, n3_1, s3_1, v3_1, n3_6, s3_6, v3_6, n3_8, s3_8, v3_8, n3_10, s3_10, v3_10, n3_15, s3_15, v3_15) _ (fun _ _ => rfl) rfl hst
              · skip
                have H := Lib.hid hst
                simp only [lh18, lh1, lh6, lh8, lh10, sg.des 15 rfl, sg.des 19 rfl, cond_true, cond_false] at H
                refine hpA_load1 tyP_pack_In H rfl (sg.slot 13 (sg.anc 13 rfl)) hwant (by (repeat (first | exact List.Mem.head _ | apply List.Mem.tail))) (by rfl) ?_
                exact hgo _ (b6, n3_1, s3_1, v3_1, n3_6, s3_6, v3_6, n3_8, s3_8, v3_8, n3_10, s3_10, v3_10, n3_15, s3_15, v3_15) _ (fun _ _ => rfl) rfl hst
            · skip
              rcases Bool.eq_false_or_eq_true (LL 10) with lh10 | lh10
              · skip
                exact absurd (sg.down 10 8 lh10 rfl) (by rw [lh8]; decide)
              · skip
                have H := Lib.hid hst
                simp only [lh18, lh1, lh6, lh8, lh10, sg.des 15 rfl, sg.des 19 rfl, cond_true, cond_false] at H
                refine hpA_load1 tyP_pack_In H rfl (sg.slot 13 (sg.anc 13 rfl)) hwant (by (repeat (first | exact List.Mem.head _ | apply List.Mem.tail))) (by rfl) ?_
                exact hgo _ (b6, n3_1, s3_1, v3_1, n3_6, s3_6, v3_6, n3_8, s3_8, v3_8, n3_10, s3_10, v3_10, n3_15, s3_15, v3_15) _ (fun _ _ => rfl) rfl hst
          · skip
            rcases Bool.eq_false_or_eq_true (LL 8) with lh8 | lh8
            · skip
              exact absurd (sg.down 8 6 lh8 rfl) (by rw [lh6]; decide)
            · skip
              rcases Bool.eq_false_or_eq_true (LL 10) with lh10 | lh10
              · skip
                exact absurd (sg.down 10 8 lh10 rfl) (by rw [lh8]; decide)
              · skip
                have H := Lib.hid hst
                simp only [lh18, lh1, lh6, lh8, lh10, sg.des 15 rfl, sg.des 19 rfl, cond_true, cond_false] at H
                refine hpA_load1 tyP_pack_In H rfl (sg.slot 13 (sg.anc 13 rfl)) hwant (by (repeat (first | exact List.Mem.head _ | apply List.Mem.tail))) (by rfl) ?_
                exact hgo _ (b6, n3_1, s3_1, v3_1, n3_6, s3_6, v3_6, n3_8, s3_8, v3_8, n3_10, s3_10, v3_10, n3_15, s3_15, v3_15) _ (fun _ _ => rfl) rfl hst
        · skip
          rcases Bool.eq_false_or_eq_true (LL 6) with lh6 | lh6
          · skip
            exact absurd (sg.down 6 1 lh6 rfl) (by rw [lh1]; decide)
          · skip
            rcases Bool.eq_false_or_eq_true (LL 8) with lh8 | lh8
            · skip
              exact absurd (sg.down 8 6 lh8 rfl) (by rw [lh6]; decide)
            · skip
              rcases Bool.eq_false_or_eq_true (LL 10) with lh10 | lh10
              · skip
                exact absurd (sg.down 10 8 lh10 rfl) (by rw [lh8]; decide)
              · skip
                have H := Lib.hid hst
                simp only [lh18, lh1, lh6, lh8, lh10, sg.des 15 rfl, sg.des 19 rfl, cond_true, cond_false] at H
                refine hpA_load1 tyP_pack_In H rfl (sg.slot 13 (sg.anc 13 rfl)) hwant (by (repeat (first | exact List.Mem.head _ | apply List.Mem.tail))) (by rfl) ?_
                exact hgo _ (b6, n3_1, s3_1, v3_1, n3_6, s3_6, v3_6, n3_8, s3_8, v3_8, n3_10, s3_10, v3_10, n3_15, s3_15, v3_15) _ (fun _ _ => rfl) rfl hst
      · skip
        rcases Bool.eq_false_or_eq_true (LL 1) with lh1 | lh1
        · skip
          rcases Bool.eq_false_or_eq_true (LL 6) with lh6 | lh6
          · skip
            rcases Bool.eq_false_or_eq_true (LL 8) with lh8 | lh8
            · skip
              rcases Bool.eq_false_or_eq_true (LL 10) with lh10 | lh10
              · skip
                have H := Lib.hid hst
                simp only [lh18, lh1, lh6, lh8, lh10, sg.des 15 rfl, sg.des 19 rfl, cond_true, cond_false] at H
                refine hpA_load1 tyP_pack_In H rfl (sg.slot 13 (sg.anc 13 rfl)) hwant (by (repeat (first | exact List.Mem.head _ | apply List.Mem.tail))) (by rfl) ?_
                exact hgo _ (b6, n3_1, s3_1, v3_1, n3_6, s3_6, v3_6, n3_8, s3_8, v3_8, n3_10, s3_10, v3_10, n3_15, s3_15, v3_15) _ (fun _ _ => rfl) rfl hst
              · skip
                have H := Lib.hid hst
                simp only [lh18, lh1, lh6, lh8, lh10, sg.des 15 rfl, sg.des 19 rfl, cond_true, cond_false] at H
                refine hpA_load1 tyP_pack_In H rfl (sg.slot 13 (sg.anc 13 rfl)) hwant (by (repeat (first | exact List.Mem.head _ | apply List.Mem.tail))) (by rfl) ?_
                exact hgo _ (b6, n3_1, s3_1, v3_1, n3_6, s3_6, v3_6, n3_8, s3_8, v3_8, n3_10, s3_10, v3_10, n3_15, s3_15, v3_15) _ (fun _ _ => rfl) rfl hst
            · skip
              rcases Bool.eq_false_or_eq_true (LL 10) with lh10 | lh10
              · skip
                exact absurd (sg.down 10 8 lh10 rfl) (by rw [lh8]; decide)
              · skip
                have H := Lib.hid hst
                simp only [lh18, lh1, lh6, lh8, lh10, sg.des 15 rfl, sg.des 19 rfl, cond_true, cond_false] at H
                refine hpA_load1 tyP_pack_In H rfl (sg.slot 13 (sg.anc 13 rfl)) hwant (by (repeat (first | exact List.Mem.head _ | apply List.Mem.tail))) (by rfl) ?_
                exact hgo _ (b6, n3_1, s3_1, v3_1, n3_6, s3_6, v3_6, n3_8, s3_8, v3_8, n3_10, s3_10, v3_10, n3_15, s3_15, v3_15) _ (fun _ _ => rfl) rfl hst
          · skip
            rcases Bool.eq_false_or_eq_true (LL 8) with lh8 | lh8
            · skip
              exact absurd (sg.down 8 6 lh8 rfl) (by rw [lh6]; decide)
            · skip
              rcases Bool.eq_false_or_eq_true (LL 10) with lh10 | lh10
              · skip
                exact absurd (sg.down 10 8 lh10 rfl) (by rw [lh8]; decide)
              · skip
                have H := Lib.hid hst
                simp only [lh18, lh1, lh6, lh8, lh10, sg.des 15 rfl, sg.des 19 rfl, cond_true, cond_false] at H
                refine hpA_load1 tyP_pack_In H rfl (sg.slot 13 (sg.anc 13 rfl)) hwant (by (repeat (first | exact List.Mem.head _ | apply List.Mem.tail))) (by rfl) ?_
                exact hgo _ (b6, n3_1, s3_1, v3_1, n3_6, s3_6, v3_6, n3_8, s3_8, v3_8, n3_10, s3_10, v3_10, n3_15, s3_15, v3_15) _ (fun _ _ => rfl) rfl hst
        · skip
          rcases Bool.eq_false_or_eq_true (LL 6) with lh6 | lh6
          · skip
            exact absurd (sg.down 6 1 lh6 rfl) (by rw [lh1]; decide)
          · skip
            rcases Bool.eq_false_or_eq_true (LL 8) with lh8 | lh8
            · skip
              exact absurd (sg.down 8 6 lh8 rfl) (by rw [lh6]; decide)
            · skip
              rcases Bool.eq_false_or_eq_true (LL 10) with lh10 | lh10
              · skip
                exact absurd (sg.down 10 8 lh10 rfl) (by rw [lh8]; decide)
              · skip
                have H := Lib.hid hst
                simp only [lh18, lh1, lh6, lh8, lh10, sg.des 15 rfl, sg.des 19 rfl, cond_true, cond_false] at H
                refine hpA_load1 tyP_pack_In H rfl (sg.slot 13 (sg.anc 13 rfl)) hwant (by (repeat (first | exact List.Mem.head _ | apply List.Mem.tail))) (by rfl) ?_
                exact hgo _ (b6, n3_1, s3_1, v3_1, n3_6, s3_6, v3_6, n3_8, s3_8, v3_8, n3_10, s3_10, v3_10, n3_15, s3_15, v3_15) _ (fun _ _ => rfl) rfl hst
    · intro LL xx ac wc sg hst hwant QQ hgo
      obtain ⟨b6, n3_1, s3_1, v3_1, n3_6, s3_6, v3_6, n3_8, s3_8, v3_8, n3_10, s3_10, v3_10, _, _, _⟩ := xx
      have se30 : ac.eval (.tmp 30) = _ := (sg.slot 14 (sg.anc 14 rfl))
      have sg30 := gt_of se30
      (try simp only [nth] at se30 sg30)
      rcases Bool.eq_false_or_eq_true (LL 18) with lh18 | lh18
      · skip
        have H := Lib.hid hst
        simp only [lh18, sg.anc 1 rfl, sg.anc 6 rfl, sg.anc 8 rfl, sg.anc 10 rfl, sg.self, sg.des 19 rfl, cond_true, cond_false] at H
        refine op_call hwant hgo 41 #[.pointer (some ⟨b1_1, 0, none⟩), .int .i64 4] (by simp only [execOp]; go_simp) (inNumXH H (i := 2) (n := 4) rfl) ?_
        rintro er wd ⟨n3_15, s3_15, v3_15, rfl, hq1, H2⟩
        replace H2 := hp_fact H2 hq1
        exact ⟨_, (b6, n3_1, s3_1, v3_1, n3_6, s3_6, v3_6, n3_8, s3_8, v3_8, n3_10, s3_10, v3_10, n3_15, s3_15, v3_15), rfl, (sg.agree (x' := (b6, n3_1, s3_1, v3_1, n3_6, s3_6, v3_6, n3_8, s3_8, v3_8, n3_10, s3_10, v3_10, n3_15, s3_15, v3_15)) (n := 20) rfl (by (iterate 20 (refine ix_cons (by first | exact fun _ => rfl | exact no sg.self | exact no (sg.des _ rfl)) ?_)); exact ix_nil)), rfl, (by simp only [(show upd LL 15 18 = LL 18 from rfl), lh18, (show upd LL 15 1 = LL 1 from rfl), sg.anc 1 rfl, (show upd LL 15 6 = LL 6 from rfl), sg.anc 6 rfl, (show upd LL 15 8 = LL 8 from rfl), sg.anc 8 rfl, (show upd LL 15 10 = LL 10 from rfl), sg.anc 10 rfl, (show upd LL 15 15 = true from rfl), (show upd LL 15 19 = LL 19 from rfl), sg.des 19 rfl, cond_true, cond_false]; exact H2.out)⟩
      · skip
        have H := Lib.hid hst
        simp only [lh18, sg.anc 1 rfl, sg.anc 6 rfl, sg.anc 8 rfl, sg.anc 10 rfl, sg.self, sg.des 19 rfl, cond_true, cond_false] at H
        refine op_call hwant hgo 41 #[.pointer (some ⟨b1_1, 0, none⟩), .int .i64 4] (by simp only [execOp]; go_simp) (inNumXH H (i := 2) (n := 4) rfl) ?_
        rintro er wd ⟨n3_15, s3_15, v3_15, rfl, hq1, H2⟩
        replace H2 := hp_fact H2 hq1
        exact ⟨_, (b6, n3_1, s3_1, v3_1, n3_6, s3_6, v3_6, n3_8, s3_8, v3_8, n3_10, s3_10, v3_10, n3_15, s3_15, v3_15), rfl, (sg.agree (x' := (b6, n3_1, s3_1, v3_1, n3_6, s3_6, v3_6, n3_8, s3_8, v3_8, n3_10, s3_10, v3_10, n3_15, s3_15, v3_15)) (n := 20) rfl (by (iterate 20 (refine ix_cons (by first | exact fun _ => rfl | exact no sg.self | exact no (sg.des _ rfl)) ?_)); exact ix_nil)), rfl, (by simp only [(show upd LL 15 18 = LL 18 from rfl), lh18, (show upd LL 15 1 = LL 1 from rfl), sg.anc 1 rfl, (show upd LL 15 6 = LL 6 from rfl), sg.anc 6 rfl, (show upd LL 15 8 = LL 8 from rfl), sg.anc 8 rfl, (show upd LL 15 10 = LL 10 from rfl), sg.anc 10 rfl, (show upd LL 15 15 = true from rfl), (show upd LL 15 19 = LL 19 from rfl), sg.des 19 rfl, cond_true, cond_false]; exact H2.out)⟩
    · intro LL xx ac wc sg hst hwant QQ hgo
      obtain ⟨b6, n3_1, s3_1, v3_1, n3_6, s3_6, v3_6, n3_8, s3_8, v3_8, n3_10, s3_10, v3_10, n3_15, s3_15, v3_15⟩ := xx
      have se31 : ac.eval (.tmp 31) = _ := (sg.slot 15 (sg.anc 15 rfl))
      have sg31 := gt_of se31
      (try simp only [nth] at se31 sg31)
      exact op_val hwant hgo hst _ (by simp only [execOp, nth]; go_simp <;> omega) rfl
    · intro LL xx ac wc sg hst hwant QQ hgo
      obtain ⟨b6, n3_1, s3_1, v3_1, n3_6, s3_6, v3_6, n3_8, s3_8, v3_8, n3_10, s3_10, v3_10, n3_15, s3_15, v3_15⟩ := xx
      have se17 : ac.eval (.tmp 17) = _ := (sg.slot 1 (sg.anc 1 rfl))
      have sg17 := gt_of se17
      have se22 : ac.eval (.tmp 22) = _ := (sg.slot 6 (sg.anc 6 rfl))
      have sg22 := gt_of se22
      have se24 : ac.eval (.tmp 24) = _ := (sg.slot 8 (sg.anc 8 rfl))
      have sg24 := gt_of se24
      have se26 : ac.eval (.tmp 26) = _ := (sg.slot 10 (sg.anc 10 rfl))
      have sg26 := gt_of se26
      have se32 : ac.eval (.tmp 32) = _ := (sg.slot 16 (sg.anc 16 rfl))
      have sg32 := gt_of se32
      (try simp only [nth] at se17 sg17 se22 sg22 se24 sg24 se26 sg26 se32 sg32)
      exact op_val hwant hgo hst _ (by simp only [execOp, nth]; go_simp <;> omega) rfl
    · intro LL xx ac wc sg hst hwant QQ hgo
      obtain ⟨_, n3_1, s3_1, v3_1, n3_6, s3_6, v3_6, n3_8, s3_8, v3_8, n3_10, s3_10, v3_10, n3_15, s3_15, v3_15⟩ := xx
      rcases Bool.eq_false_or_eq_true (LL 1) with lh1 | lh1
      · skip
        rcases Bool.eq_false_or_eq_true (LL 6) with lh6 | lh6
        · skip
          rcases Bool.eq_false_or_eq_true (LL 8) with lh8 | lh8
          · skip
            rcases Bool.eq_false_or_eq_true (LL 10) with lh10 | lh10
            · skip
              rcases Bool.eq_false_or_eq_true (LL 15) with lh15 | lh15
              · skip
                have H := Lib.hid hst
                simp only [sg.self, lh1, lh6, lh8, lh10, lh15, sg.des 19 rfl, cond_true, cond_false] at H
                refine hpA_alloc tynote_Answer H rfl rfl ?_
                intro wd b6 H2
                replace H2 := hp_front H2 9 rfl
                replace H2 := hp_front H2 9 rfl
                replace H2 := hp_front H2 2 rfl
                replace H2 := hp_front H2 9 rfl
                replace H2 := hp_front H2 9 rfl
                replace H2 := hp_front H2 9 rfl
                replace H2 := hp_front H2 9 rfl
                replace H2 := hp_front H2 9 rfl
                replace H2 := hp_front H2 9 rfl
                replace H2 := hp_front H2 9 rfl
                exact hgo _ (b6, n3_1, s3_1, v3_1, n3_6, s3_6, v3_6, n3_8, s3_8, v3_8, n3_10, s3_10, v3_10, n3_15, s3_15, v3_15) _ (sg.agree (x' := (b6, n3_1, s3_1, v3_1, n3_6, s3_6, v3_6, n3_8, s3_8, v3_8, n3_10, s3_10, v3_10, n3_15, s3_15, v3_15)) (n := 20) rfl (by (iterate 20 (refine ix_cons (by first | exact fun _ => rfl | exact no sg.self | exact no (sg.des _ rfl)) ?_)); exact ix_nil)) rfl (by simp only [(show upd LL 18 18 = true from rfl), (show upd LL 18 1 = LL 1 from rfl), lh1, (show upd LL 18 6 = LL 6 from rfl), lh6, (show upd LL 18 8 = LL 8 from rfl), lh8, (show upd LL 18 10 = LL 10 from rfl), lh10, (show upd LL 18 15 = LL 15 from rfl), lh15, (show upd LL 18 19 = LL 19 from rfl), sg.des 19 rfl, cond_true, cond_false]; exact H2.out)
              · skip
                have H := Lib.hid hst
                simp only [sg.self, lh1, lh6, lh8, lh10, lh15, sg.des 19 rfl, cond_true, cond_false] at H
                refine hpA_alloc tynote_Answer H rfl rfl ?_
                intro wd b6 H2
                replace H2 := hp_front H2 8 rfl
                replace H2 := hp_front H2 8 rfl
                replace H2 := hp_front H2 2 rfl
                replace H2 := hp_front H2 8 rfl
                replace H2 := hp_front H2 8 rfl
                replace H2 := hp_front H2 8 rfl
                replace H2 := hp_front H2 8 rfl
                replace H2 := hp_front H2 8 rfl
                replace H2 := hp_front H2 8 rfl
                exact hgo _ (b6, n3_1, s3_1, v3_1, n3_6, s3_6, v3_6, n3_8, s3_8, v3_8, n3_10, s3_10, v3_10, n3_15, s3_15, v3_15) _ (sg.agree (x' := (b6, n3_1, s3_1, v3_1, n3_6, s3_6, v3_6, n3_8, s3_8, v3_8, n3_10, s3_10, v3_10, n3_15, s3_15, v3_15)) (n := 20) rfl (by (iterate 20 (refine ix_cons (by first | exact fun _ => rfl | exact no sg.self | exact no (sg.des _ rfl)) ?_)); exact ix_nil)) rfl (by simp only [(show upd LL 18 18 = true from rfl), (show upd LL 18 1 = LL 1 from rfl), lh1, (show upd LL 18 6 = LL 6 from rfl), lh6, (show upd LL 18 8 = LL 8 from rfl), lh8, (show upd LL 18 10 = LL 10 from rfl), lh10, (show upd LL 18 15 = LL 15 from rfl), lh15, (show upd LL 18 19 = LL 19 from rfl), sg.des 19 rfl, cond_true, cond_false]; exact H2.out)
            · skip
              rcases Bool.eq_false_or_eq_true (LL 15) with lh15 | lh15
              · skip
                exact absurd (sg.down 15 10 lh15 rfl) (by rw [lh10]; decide)
              · skip
                have H := Lib.hid hst
                simp only [sg.self, lh1, lh6, lh8, lh10, lh15, sg.des 19 rfl, cond_true, cond_false] at H
                refine hpA_alloc tynote_Answer H rfl rfl ?_
                intro wd b6 H2
                replace H2 := hp_front H2 7 rfl
                replace H2 := hp_front H2 7 rfl
                replace H2 := hp_front H2 2 rfl
                replace H2 := hp_front H2 7 rfl
                replace H2 := hp_front H2 7 rfl
                replace H2 := hp_front H2 7 rfl
                replace H2 := hp_front H2 7 rfl
                replace H2 := hp_front H2 7 rfl
                exact hgo _ (b6, n3_1, s3_1, v3_1, n3_6, s3_6, v3_6, n3_8, s3_8, v3_8, n3_10, s3_10, v3_10, n3_15, s3_15, v3_15) _ (sg.agree (x' := (b6, n3_1, s3_1, v3_1, n3_6, s3_6, v3_6, n3_8, s3_8, v3_8, n3_10, s3_10, v3_10, n3_15, s3_15, v3_15)) (n := 20) rfl (by (iterate 20 (refine ix_cons (by first | exact fun _ => rfl | exact no sg.self | exact no (sg.des _ rfl)) ?_)); exact ix_nil)) rfl (by simp only [(show upd LL 18 18 = true from rfl), (show upd LL 18 1 = LL 1 from rfl), lh1, (show upd LL 18 6 = LL 6 from rfl), lh6, (show upd LL 18 8 = LL 8 from rfl), lh8, (show upd LL 18 10 = LL 10 from rfl), lh10, (show upd LL 18 15 = LL 15 from rfl), lh15, (show upd LL 18 19 = LL 19 from rfl), sg.des 19 rfl, cond_true, cond_false]; exact H2.out)
          · skip
            rcases Bool.eq_false_or_eq_true (LL 10) with lh10 | lh10
            · skip
              exact absurd (sg.down 10 8 lh10 rfl) (by rw [lh8]; decide)
            · skip
              rcases Bool.eq_false_or_eq_true (LL 15) with lh15 | lh15
              · skip
                exact absurd (sg.down 15 10 lh15 rfl) (by rw [lh10]; decide)
              · skip
                have H := Lib.hid hst
                simp only [sg.self, lh1, lh6, lh8, lh10, lh15, sg.des 19 rfl, cond_true, cond_false] at H
                refine hpA_alloc tynote_Answer H rfl rfl ?_
                intro wd b6 H2
                replace H2 := hp_front H2 6 rfl
                replace H2 := hp_front H2 6 rfl
                replace H2 := hp_front H2 2 rfl
                replace H2 := hp_front H2 6 rfl
                replace H2 := hp_front H2 6 rfl
                replace H2 := hp_front H2 6 rfl
                replace H2 := hp_front H2 6 rfl
                exact hgo _ (b6, n3_1, s3_1, v3_1, n3_6, s3_6, v3_6, n3_8, s3_8, v3_8, n3_10, s3_10, v3_10, n3_15, s3_15, v3_15) _ (sg.agree (x' := (b6, n3_1, s3_1, v3_1, n3_6, s3_6, v3_6, n3_8, s3_8, v3_8, n3_10, s3_10, v3_10, n3_15, s3_15, v3_15)) (n := 20) rfl (by (iterate 20 (refine ix_cons (by first | exact fun _ => rfl | exact no sg.self | exact no (sg.des _ rfl)) ?_)); exact ix_nil)) rfl (by simp only [(show upd LL 18 18 = true from rfl), (show upd LL 18 1 = LL 1 from rfl), lh1, (show upd LL 18 6 = LL 6 from rfl), lh6, (show upd LL 18 8 = LL 8 from rfl), lh8, (show upd LL 18 10 = LL 10 from rfl), lh10, (show upd LL 18 15 = LL 15 from rfl), lh15, (show upd LL 18 19 = LL 19 from rfl), sg.des 19 rfl, cond_true, cond_false]; exact H2.out)
        · skip
          rcases Bool.eq_false_or_eq_true (LL 8) with lh8 | lh8
          · skip
            exact absurd (sg.down 8 6 lh8 rfl) (by rw [lh6]; decide)
          · skip
            rcases Bool.eq_false_or_eq_true (LL 10) with lh10 | lh10
            · skip
              exact absurd (sg.down 10 8 lh10 rfl) (by rw [lh8]; decide)
            · skip
              rcases Bool.eq_false_or_eq_true (LL 15) with lh15 | lh15
              · skip
                exact absurd (sg.down 15 10 lh15 rfl) (by rw [lh10]; decide)
              · skip
                have H := Lib.hid hst
                simp only [sg.self, lh1, lh6, lh8, lh10, lh15, sg.des 19 rfl, cond_true, cond_false] at H
                refine hpA_alloc tynote_Answer H rfl rfl ?_
                intro wd b6 H2
                replace H2 := hp_front H2 5 rfl
                replace H2 := hp_front H2 5 rfl
                replace H2 := hp_front H2 2 rfl
                replace H2 := hp_front H2 5 rfl
                replace H2 := hp_front H2 5 rfl
                replace H2 := hp_front H2 5 rfl
                exact hgo _ (b6, n3_1, s3_1, v3_1, n3_6, s3_6, v3_6, n3_8, s3_8, v3_8, n3_10, s3_10, v3_10, n3_15, s3_15, v3_15) _ (sg.agree (x' := (b6, n3_1, s3_1, v3_1, n3_6, s3_6, v3_6, n3_8, s3_8, v3_8, n3_10, s3_10, v3_10, n3_15, s3_15, v3_15)) (n := 20) rfl (by (iterate 20 (refine ix_cons (by first | exact fun _ => rfl | exact no sg.self | exact no (sg.des _ rfl)) ?_)); exact ix_nil)) rfl (by simp only [(show upd LL 18 18 = true from rfl), (show upd LL 18 1 = LL 1 from rfl), lh1, (show upd LL 18 6 = LL 6 from rfl), lh6, (show upd LL 18 8 = LL 8 from rfl), lh8, (show upd LL 18 10 = LL 10 from rfl), lh10, (show upd LL 18 15 = LL 15 from rfl), lh15, (show upd LL 18 19 = LL 19 from rfl), sg.des 19 rfl, cond_true, cond_false]; exact H2.out)
      · skip
        rcases Bool.eq_false_or_eq_true (LL 6) with lh6 | lh6
        · skip
          exact absurd (sg.down 6 1 lh6 rfl) (by rw [lh1]; decide)
        · skip
          rcases Bool.eq_false_or_eq_true (LL 8) with lh8 | lh8
          · skip
            exact absurd (sg.down 8 6 lh8 rfl) (by rw [lh6]; decide)
          · skip
            rcases Bool.eq_false_or_eq_true (LL 10) with lh10 | lh10
            · skip
              exact absurd (sg.down 10 8 lh10 rfl) (by rw [lh8]; decide)
            · skip
              rcases Bool.eq_false_or_eq_true (LL 15) with lh15 | lh15
              · skip
                exact absurd (sg.down 15 10 lh15 rfl) (by rw [lh10]; decide)
              · skip
                have H := Lib.hid hst
                simp only [sg.self, lh1, lh6, lh8, lh10, lh15, sg.des 19 rfl, cond_true, cond_false] at H
                refine hpA_alloc tynote_Answer H rfl rfl ?_
                intro wd b6 H2
                exact hgo _ (b6, n3_1, s3_1, v3_1, n3_6, s3_6, v3_6, n3_8, s3_8, v3_8, n3_10, s3_10, v3_10, n3_15, s3_15, v3_15) _ (sg.agree (x' := (b6, n3_1, s3_1, v3_1, n3_6, s3_6, v3_6, n3_8, s3_8, v3_8, n3_10, s3_10, v3_10, n3_15, s3_15, v3_15)) (n := 20) rfl (by (iterate 20 (refine ix_cons (by first | exact fun _ => rfl | exact no sg.self | exact no (sg.des _ rfl)) ?_)); exact ix_nil)) rfl (by simp only [(show upd LL 18 18 = true from rfl), (show upd LL 18 1 = LL 1 from rfl), lh1, (show upd LL 18 6 = LL 6 from rfl), lh6, (show upd LL 18 8 = LL 8 from rfl), lh8, (show upd LL 18 10 = LL 10 from rfl), lh10, (show upd LL 18 15 = LL 15 from rfl), lh15, (show upd LL 18 19 = LL 19 from rfl), sg.des 19 rfl, cond_true, cond_false]; exact H2.out)
    · intro LL xx ac wc sg hst hwant QQ hgo
      obtain ⟨b6, n3_1, s3_1, v3_1, n3_6, s3_6, v3_6, n3_8, s3_8, v3_8, n3_10, s3_10, v3_10, n3_15, s3_15, v3_15⟩ := xx
      have H := Lib.hid hst
      simp only [sg.anc 18 rfl, sg.anc 1 rfl, sg.anc 6 rfl, sg.anc 8 rfl, sg.anc 10 rfl, sg.anc 15 rfl, sg.self, cond_true, cond_false] at H
      refine hpA_store tynote_Answer H rfl rfl (sg.slot 18 (sg.anc 18 rfl)) (sg.slot 17 (sg.anc 17 rfl)) rfl (by repeat (first | apply Put.head | apply Put.tail)) (by simp [List.length_cons]) (by simp [List.length_cons, Value.oneCell']) (by first | rfl | (simp only [spl]; rfl)) rfl ?_
      intro wd H2
      exact hgo _ (b6, n3_1, s3_1, v3_1, n3_6, s3_6, v3_6, n3_8, s3_8, v3_8, n3_10, s3_10, v3_10, n3_15, s3_15, v3_15) _ (sg.agree (x' := (b6, n3_1, s3_1, v3_1, n3_6, s3_6, v3_6, n3_8, s3_8, v3_8, n3_10, s3_10, v3_10, n3_15, s3_15, v3_15)) (n := 20) rfl (by (iterate 20 (refine ix_cons (by first | exact fun _ => rfl | exact no sg.self | exact no (sg.des _ rfl)) ?_)); exact ix_nil)) rfl (by simp only [(show upd LL 19 18 = LL 18 from rfl), sg.anc 18 rfl, (show upd LL 19 1 = LL 1 from rfl), sg.anc 1 rfl, (show upd LL 19 6 = LL 6 from rfl), sg.anc 6 rfl, (show upd LL 19 8 = LL 8 from rfl), sg.anc 8 rfl, (show upd LL 19 10 = LL 10 from rfl), sg.anc 10 rfl, (show upd LL 19 15 = LL 15 from rfl), sg.anc 15 rfl, (show upd LL 19 19 = true from rfl), cond_true, cond_false]; exact H2.out)
  · exact skips [] (by kernel_rfl) (fun _ h => by cases h)
  · intro xx ac1 wz hfr hsl hst
    obtain ⟨b6, n3_1, s3_1, v3_1, n3_6, s3_6, v3_6, n3_8, s3_8, v3_8, n3_10, s3_10, v3_10, n3_15, s3_15, v3_15⟩ := xx
    exact hfin b6 n3_1 s3_1 v3_1 n3_6 s3_6 v3_6 n3_8 s3_8 v3_8 n3_10 s3_10 v3_10 n3_15 s3_15 v3_15 ac1 wz (hfr.size.trans hz) hfr.defers (fr_keep hfr [6, 16, 17, 18, 19, 20, 21, 22, 23, 24, 25, 26, 27, 28, 29, 30, 31, 32, 33] (by kernel_rfl)) (hsl 18 (by decide)) (Lib.hid hst)
set_option maxHeartbeats 4000000 in
set_option maxRecDepth 20000 in
theorem decodeC_r5 (s : ByteArray) (b2 : Nat) (b1_1 : Nat) (b10 : Nat) (n2_4 : Nat) (s2_4 : ByteArray) (v2_4 : Bool) (b6 : Nat) (n3_1 : Nat) (s3_1 : ByteArray) (v3_1 : Bool) (n3_6 : Nat) (s3_6 : ByteArray) (v3_6 : Bool) (n3_8 : Nat) (s3_8 : ByteArray) (v3_8 : Bool) (n3_10 : Nat) (s3_10 : ByteArray) (v3_10 : Bool) (n3_15 : Nat) (s3_15 : ByteArray) (v3_15 : Bool) (a4_6 : Option Addr) (c4_6 : Nat) (ys4_6 : List CallV) (g4_6 : Bool) (s4_6 : ByteArray) (v4_6 : Bool) {wa wb : World} (H : Hid (Hp [] wa wb [rP (∀ q ∈ (rS a4_6 c4_6 8 (ys4_6.map callRow)).foot, wa.heap.size ≤ q), rP (readCalls (s3_15, v3_15) = (ys4_6, g4_6, (s4_6, v4_6))), rS a4_6 c4_6 8 (ys4_6.map callRow), rB b10 109 [.pointer (some ⟨b1_1, 0, none⟩), .bool ((((false || decide (1073741824 < (n3_1 : Int))) || decide (1073741824 < (n3_8 : Int))) || decide (1073741824 < (n3_10 : Int))) || g4_6)], rB b1_1 117 [.string s4_6, .bool v4_6], rP (inNumV s3_10 v3_10 4 = (n3_15, s3_15, v3_15)), rP (inNumV s3_8 v3_8 4 = (n3_10, s3_10, v3_10)), rP (inNumV s3_6 v3_6 4 = (n3_8, s3_8, v3_8)), rP (inNumV s3_1 v3_1 1 = (n3_6, s3_6, v3_6)), rP (inNumV s2_4 v2_4 4 = (n3_1, s3_1, v3_1)), rB b6 64 [.int .i64 n3_1, .int .i64 n3_6, .int .i64 n3_8, .int .i64 n3_10, .int .u32 (IntKind.u32.wrap n3_15), .slice a4_6 ys4_6.length c4_6], rP (inNumV s false 1 = (n2_4, s2_4, v2_4)), rB b2 64 [.int .i64 0, .int .i64 0, .int .i64 0, .int .i64 0, .int .u32 0, .slice none 0 0]])) (ac0 : Act) (hz : ac0.tmps.size = 56) (so4 : ac0.eval (.tmp 4) = .pointer (some ⟨b10, 0, none⟩)) (so5 : ac0.eval (.tmp 5) = .int .i64 n2_4) (so6 : ac0.eval (.tmp 6) = .pointer (some ⟨b6, 0, none⟩)) {QR : Exit → Act → World → Prop} (hfin : ∀ (ac1 : Act) (wz : World), ac1.tmps.size = 56 → ac1.defers = ac0.defers → (∀ t, ([42, 43, 44, 45, 46, 47, 48, 49, 50, 51, 52, 53] : List Nat).contains t = false → ac1.eval (.tmp t) = ac0.eval (.tmp t)) → ac1.eval (.tmp 53) = .bool ((((n2_4 : Int) != 128) || (decide (11 < (n3_6 : Int)))) || (!((!((((false || decide (1073741824 < (n3_1 : Int))) || decide (1073741824 < (n3_8 : Int))) || decide (1073741824 < (n3_10 : Int))) || g4_6)) && ((!v4_6) && s4_6.toList.isEmpty)))) →  Hid (Hp [] wa wz [rP (∀ q ∈ (rS a4_6 c4_6 8 (ys4_6.map callRow)).foot, wa.heap.size ≤ q), rP (readCalls (s3_15, v3_15) = (ys4_6, g4_6, (s4_6, v4_6))), rS a4_6 c4_6 8 (ys4_6.map callRow), rB b10 109 [.pointer (some ⟨b1_1, 0, none⟩), .bool ((((false || decide (1073741824 < (n3_1 : Int))) || decide (1073741824 < (n3_8 : Int))) || decide (1073741824 < (n3_10 : Int))) || g4_6)], rB b1_1 117 [.string s4_6, .bool v4_6], rP (inNumV s3_10 v3_10 4 = (n3_15, s3_15, v3_15)), rP (inNumV s3_8 v3_8 4 = (n3_10, s3_10, v3_10)), rP (inNumV s3_6 v3_6 4 = (n3_8, s3_8, v3_8)), rP (inNumV s3_1 v3_1 1 = (n3_6, s3_6, v3_6)), rP (inNumV s2_4 v2_4 4 = (n3_1, s3_1, v3_1)), rB b6 64 [.int .i64 n3_1, .int .i64 n3_6, .int .i64 n3_8, .int .i64 n3_10, .int .u32 (IntKind.u32.wrap n3_15), .slice a4_6 ys4_6.length c4_6], rP (inNumV s false 1 = (n2_4, s2_4, v2_4)), rB b2 64 [.int .i64 0, .int .i64 0, .int .i64 0, .int .i64 0, .int .u32 0, .slice none 0 0]]) → QR .normal ac1 wz) : (regAt Try.f33 5).wp Try.prog QR ac0 wb := by
  refine wp_region_sq (by kernel_rfl) 56 hz (by kernel_rfl) (fun (xx : Unit) jx => nth [.int .i64 n2_4, .bool ((n2_4 : Int) != 128), .bool ((n2_4 : Int) != 128), bif !((n2_4 : Int) != 128) then .pointer (some ⟨b6, 1, none⟩) else undef, bif !((n2_4 : Int) != 128) then .int .i64 n3_6 else undef, bif !((n2_4 : Int) != 128) then .bool (decide (11 < (n3_6 : Int))) else undef, .bool (((n2_4 : Int) != 128) || (decide (11 < (n3_6 : Int)))), .bool (((n2_4 : Int) != 128) || (decide (11 < (n3_6 : Int)))), bif !(((n2_4 : Int) != 128) || (decide (11 < (n3_6 : Int)))) then .pointer (some ⟨b10, 0, none⟩) else undef, bif !(((n2_4 : Int) != 128) || (decide (11 < (n3_6 : Int)))) then .bool ((!((((false || decide (1073741824 < (n3_1 : Int))) || decide (1073741824 < (n3_8 : Int))) || decide (1073741824 < (n3_10 : Int))) || g4_6)) && ((!v4_6) && s4_6.toList.isEmpty)) else undef, bif !(((n2_4 : Int) != 128) || (decide (11 < (n3_6 : Int)))) then .bool (!((!((((false || decide (1073741824 < (n3_1 : Int))) || decide (1073741824 < (n3_8 : Int))) || decide (1073741824 < (n3_10 : Int))) || g4_6)) && ((!v4_6) && s4_6.toList.isEmpty))) else undef, .bool ((((n2_4 : Int) != 128) || (decide (11 < (n3_6 : Int)))) || (!((!((((false || decide (1073741824 < (n3_1 : Int))) || decide (1073741824 < (n3_8 : Int))) || decide (1073741824 < (n3_10 : Int))) || g4_6)) && ((!v4_6) && s4_6.toList.isEmpty))))] jx) (fun (LL : Nat → Bool) (xx : Unit) ww => Hp [] wa ww [rP (∀ q ∈ (rS a4_6 c4_6 8 (ys4_6.map callRow)).foot, wa.heap.size ≤ q), rP (readCalls (s3_15, v3_15) = (ys4_6, g4_6, (s4_6, v4_6))), rS a4_6 c4_6 8 (ys4_6.map callRow), rB b10 109 [.pointer (some ⟨b1_1, 0, none⟩), .bool ((((false || decide (1073741824 < (n3_1 : Int))) || decide (1073741824 < (n3_8 : Int))) || decide (1073741824 < (n3_10 : Int))) || g4_6)], rB b1_1 117 [.string s4_6, .bool v4_6], rP (inNumV s3_10 v3_10 4 = (n3_15, s3_15, v3_15)), rP (inNumV s3_8 v3_8 4 = (n3_10, s3_10, v3_10)), rP (inNumV s3_6 v3_6 4 = (n3_8, s3_8, v3_8)), rP (inNumV s3_1 v3_1 1 = (n3_6, s3_6, v3_6)), rP (inNumV s2_4 v2_4 4 = (n3_1, s3_1, v3_1)), rB b6 64 [.int .i64 n3_1, .int .i64 n3_6, .int .i64 n3_8, .int .i64 n3_10, .int .u32 (IntKind.u32.wrap n3_15), .slice a4_6 ys4_6.length c4_6], rP (inNumV s false 1 = (n2_4, s2_4, v2_4)), rB b2 64 [.int .i64 0, .int .i64 0, .int .i64 0, .int .i64 0, .int .u32 0, .slice none 0 0]]) () H.out ?_ (steps_al ?_) ?_ ?_
  · exact fun _ _ _ _ _ h => h
  · refine al_cons ?_ (al_cons ?_ (al_cons ?_ (al_cons ?_ (al_cons ?_ (al_cons ?_ (al_cons ?_ (al_cons ?_ (al_cons ?_ (al_cons ?_ (al_cons ?_ (al_cons ?_ (al_nil))))))))))))
    · intro LL xx ac wc sg hst hwant QQ hgo
      exact op_val hwant hgo hst _ (exec_move rfl ((sg.free 5 (by kernel_rfl)).trans so5)) rfl
    · intro LL xx ac wc sg hst hwant QQ hgo
      have se42 : ac.eval (.tmp 42) = _ := (sg.slot 0 (sg.anc 0 rfl))
      have sg42 := gt_of se42
      (try simp only [nth] at se42 sg42)
      exact op_val hwant hgo hst _ (by simp only [execOp, nth]; go_simp <;> omega) rfl
    · intro LL xx ac wc sg hst hwant QQ hgo
      exact op_val hwant hgo hst _ (exec_move rfl (sg.slot 1 (sg.anc 1 rfl))) rfl
    · intro LL xx ac wc sg hst hwant QQ hgo
      have hG : (!((n2_4 : Int) != 128)) = true := (want_f rfl rfl (sg.slot 2 (sg.anc 2 rfl))).symm.trans hwant
      have se6 : ac.eval (.tmp 6) = _ := ((sg.free 6 (by kernel_rfl)).trans so6)
      have sg6 := gt_of se6
      exact op_val hwant hgo hst _ (by simp only [execOp, nth]; go_simp <;> omega) (cI hG)
    · intro LL xx ac wc sg hst hwant QQ hgo
      have hG : (!((n2_4 : Int) != 128)) = true := (want_f rfl rfl (sg.slot 2 (sg.anc 2 rfl))).symm.trans hwant
      have H := Lib.hid hst
      refine hpA_load1 tyint H rfl (cT (sg.slot 3 (sg.anc 3 rfl)) hG) hwant (by (repeat (first | exact List.Mem.head _ | apply List.Mem.tail))) (by rfl) ?_
      exact hgo _ () _ (fun _ _ => rfl) (cI hG) hst
    · intro LL xx ac wc sg hst hwant QQ hgo
      have hG : (!((n2_4 : Int) != 128)) = true := (want_f rfl rfl (sg.slot 2 (sg.anc 2 rfl))).symm.trans hwant
      have se46 : ac.eval (.tmp 46) = _ := (cT (sg.slot 4 (sg.anc 4 rfl)) hG)
      have sg46 := gt_of se46
      (try simp only [nth] at se46 sg46)
      exact op_val hwant hgo hst _ (by simp only [execOp, nth]; go_simp <;> omega) (cI hG)
    · intro LL xx ac wc sg hst hwant QQ hgo
      exact op_val hwant hgo hst (.bool (((n2_4 : Int) != 128) || (decide (11 < (n3_6 : Int))))) (exec_or (Y := decide (11 < (n3_6 : Int))) rfl (sg.slot 2 (sg.anc 2 rfl)) (fun qq => cT (sg.slot 5 (sg.anc 5 rfl)) (bk qq))) rfl
    · intro LL xx ac wc sg hst hwant QQ hgo
      exact op_val hwant hgo hst _ (exec_move rfl (sg.slot 6 (sg.anc 6 rfl))) rfl
    · intro LL xx ac wc sg hst hwant QQ hgo
      have hG : (!(((n2_4 : Int) != 128) || (decide (11 < (n3_6 : Int))))) = true := (want_f rfl rfl (sg.slot 7 (sg.anc 7 rfl))).symm.trans hwant
      exact op_val hwant hgo hst _ (exec_move rfl ((sg.free 4 (by kernel_rfl)).trans so4)) (cI hG)
    · intro LL xx ac wc sg hst hwant QQ hgo
      have hG : (!(((n2_4 : Int) != 128) || (decide (11 < (n3_6 : Int))))) = true := (want_f rfl rfl (sg.slot 7 (sg.anc 7 rfl))).symm.trans hwant
      have se50 : ac.eval (.tmp 50) = _ := (cT (sg.slot 8 (sg.anc 8 rfl)) hG)
      have sg50 := gt_of se50
      (try simp only [nth] at se50 sg50)
      have H := Lib.hid hst
      refine op_call hwant hgo 54 #[.pointer (some ⟨b10, 0, none⟩)] (by simp only [execOp]; go_simp) (endC b10 b1_1 ((((false || decide (1073741824 < (n3_1 : Int))) || decide (1073741824 < (n3_8 : Int))) || decide (1073741824 < (n3_10 : Int))) || g4_6) s4_6 v4_6 wc (show (rB b10 109 [.pointer (some ⟨b1_1, 0, none⟩), .bool ((((false || decide (1073741824 < (n3_1 : Int))) || decide (1073741824 < (n3_8 : Int))) || decide (1073741824 < (n3_10 : Int))) || g4_6)]).holds wc from H.out.holds _ (by (repeat (first | exact List.Mem.head _ | apply List.Mem.tail)))) (show (rB b1_1 117 [.string s4_6, .bool v4_6]).holds wc from H.out.holds _ (by (repeat (first | exact List.Mem.head _ | apply List.Mem.tail)))) (blk_ne H (i := 3) (j := 4) rfl rfl (by decide))) ?_
      rintro er wd ⟨rfl, hof⟩
      exact ⟨_, (), rfl, fun _ _ => rfl, (cI hG), Hp.quiet hst hof⟩
    · intro LL xx ac wc sg hst hwant QQ hgo
      have hG : (!(((n2_4 : Int) != 128) || (decide (11 < (n3_6 : Int))))) = true := (want_f rfl rfl (sg.slot 7 (sg.anc 7 rfl))).symm.trans hwant
      have se51 : ac.eval (.tmp 51) = _ := (cT (sg.slot 9 (sg.anc 9 rfl)) hG)
      have sg51 := gt_of se51
      (try simp only [nth] at se51 sg51)
      exact op_val hwant hgo hst _ (by simp only [execOp, nth]; go_simp <;> omega) (cI hG)
    · intro LL xx ac wc sg hst hwant QQ hgo
      exact op_val hwant hgo hst (.bool ((((n2_4 : Int) != 128) || (decide (11 < (n3_6 : Int)))) || (!((!((((false || decide (1073741824 < (n3_1 : Int))) || decide (1073741824 < (n3_8 : Int))) || decide (1073741824 < (n3_10 : Int))) || g4_6)) && ((!v4_6) && s4_6.toList.isEmpty))))) (exec_or (Y := !((!((((false || decide (1073741824 < (n3_1 : Int))) || decide (1073741824 < (n3_8 : Int))) || decide (1073741824 < (n3_10 : Int))) || g4_6)) && ((!v4_6) && s4_6.toList.isEmpty))) rfl (sg.slot 7 (sg.anc 7 rfl)) (fun qq => cT (sg.slot 10 (sg.anc 10 rfl)) (bk qq))) rfl
  · refine skips [3, 4, 5, 8, 9, 10] (by kernel_rfl) ?_
    refine List.forall_mem_cons.2 ⟨?_, List.forall_mem_cons.2 ⟨?_, List.forall_mem_cons.2 ⟨?_, List.forall_mem_cons.2 ⟨?_, List.forall_mem_cons.2 ⟨?_, List.forall_mem_cons.2 ⟨?_, fun _ h => by cases h⟩⟩⟩⟩⟩⟩
    · intro oo hop LL xx ac sg hwant
      cases Option.some.inj hop
      have hG : (!((n2_4 : Int) != 128)) = false := (want_f rfl rfl (sg.slot 2 (sg.anc 2 rfl))).symm.trans hwant
      exact ⟨cF hG, fun _ h => h⟩
    · intro oo hop LL xx ac sg hwant
      cases Option.some.inj hop
      have hG : (!((n2_4 : Int) != 128)) = false := (want_f rfl rfl (sg.slot 2 (sg.anc 2 rfl))).symm.trans hwant
      exact ⟨cF hG, fun _ h => h⟩
    · intro oo hop LL xx ac sg hwant
      cases Option.some.inj hop
      have hG : (!((n2_4 : Int) != 128)) = false := (want_f rfl rfl (sg.slot 2 (sg.anc 2 rfl))).symm.trans hwant
      exact ⟨cF hG, fun _ h => h⟩
    · intro oo hop LL xx ac sg hwant
      cases Option.some.inj hop
      have hG : (!(((n2_4 : Int) != 128) || (decide (11 < (n3_6 : Int))))) = false := (want_f rfl rfl (sg.slot 7 (sg.anc 7 rfl))).symm.trans hwant
      exact ⟨cF hG, fun _ h => h⟩
    · intro oo hop LL xx ac sg hwant
      cases Option.some.inj hop
      have hG : (!(((n2_4 : Int) != 128) || (decide (11 < (n3_6 : Int))))) = false := (want_f rfl rfl (sg.slot 7 (sg.anc 7 rfl))).symm.trans hwant
      exact ⟨cF hG, fun _ h => h⟩
    · intro oo hop LL xx ac sg hwant
      cases Option.some.inj hop
      have hG : (!(((n2_4 : Int) != 128) || (decide (11 < (n3_6 : Int))))) = false := (want_f rfl rfl (sg.slot 7 (sg.anc 7 rfl))).symm.trans hwant
      exact ⟨cF hG, fun _ h => h⟩
  · intro xx ac1 wz hfr hsl hst
    exact hfin ac1 wz (hfr.size.trans hz) hfr.defers (fr_keep hfr [42, 43, 44, 45, 46, 47, 48, 49, 50, 51, 52, 53] (by kernel_rfl)) (hsl 11 (by decide)) (Lib.hid hst)
set_option maxHeartbeats 16000000 in
set_option maxRecDepth 20000 in
theorem decodeC (s : ByteArray) (w : World) : Calls Try.prog 33 #[.string s] w fun e w' => ∃ a' c', e = .returned (.tuple #[.agg #[.int .i64 ((decodeV s).1.seq), .int .i64 ((decodeV s).1.code), .int .i64 ((decodeV s).1.index), .int .i64 ((decodeV s).1.session), .int .u32 ((decodeV s).1.pass), .slice a' (((decodeV s).1).calls.length) c'], .int .i64 (decodeV s).2]) ∧ (rS a' c' 8 ((decodeV s).1.calls.map callRow)).holds w' ∧ (∀ q ∈ (rS a' c' 8 ((decodeV s).1.calls.map callRow)).foot, w.heap.size ≤ q) ∧ Off [] w w' := by
 have H := Lib.hid (Hp.start [] w)
 refine wStart (args := [.string s]) Try.func33 rfl rfl rfl H ?_
 clear H
 show Wk 56 _ _ [(0, .string s)] _ _
 refine wSeqK fun KK1 hK1 => ?_
 refine wReg ?_
 refine wAl rfl rfl tynote_Answer fun b2 => ?_
 refine p_decodeC rfl ?_
 refine wN ?_
 refine tN (wKK hK1 ?_)
 refine wSeqK fun KK2 hK2 => ?_
 refine wReg ?_
 refine p_decodeC rfl ?_
 refine wC (l := [.string s]) Try.func40 rfl (by kernel_rfl) (fun wc H => inOfH H (s := s)) rfl rfl rfl rfl ?_
 intro wc H
 rintro er wd ⟨b1_1, rfl, H2⟩
 refine ⟨_, rfl, wkAt H2 ?_⟩
 clear H H2
 refine wE (.agg #[.pointer (some ⟨b1_1, 0, none⟩), .bool false]) rfl rfl rfl (fun aa ww hs _ => by have e8 := hs 8 _ rfl; have g8 := gt_of e8; simp only [execOp]; go_simp <;> omega) ?_
 refine wBx rfl rfl rfl fun b10 => ?_
 refine p_decodeC rfl ?_
 refine wN ?_
 refine tN (wKK hK2 ?_)
 refine wSeqK fun KK3 hK3 => ?_
 refine wReg ?_
 iterate 3 refine p_decodeC rfl ?_
 refine wLd rfl tyP_pack_In 0 rfl rfl ?_
 refine wC (l := [.pointer (some ⟨b1_1, 0, none⟩), .int .i64 1]) Try.func41 rfl (by kernel_rfl) (fun wc H => inNumXH H (i := 1) (n := 1) rfl) rfl rfl rfl rfl ?_
 intro wc H
 rintro er wd ⟨n2_4, s2_4, v2_4, rfl, hq1, H2⟩
 replace H2 := hp_fact H2 hq1
 refine ⟨_, rfl, wkAt H2 ?_⟩
 clear H H2
 refine p_decodeC rfl ?_
 refine wN ?_
 refine tN (wKK hK3 ?_)
 refine wSeqK fun KK4 hK4 => ?_
 intro aa ww nn dd hs H
 refine decodeC_r3 s b2 b1_1 b10 n2_4 s2_4 v2_4 H aa nn (hs 4 _ rfl) ?_
 intro b6 n3_1 s3_1 v3_1 n3_6 s3_6 v3_6 n3_8 s3_8 v3_8 n3_10 s3_10 v3_10 n3_15 s3_15 v3_15 ab wv nn2 dd2 kp o6 H2
 refine wIn nn2 (dd2.trans dd) (Sat.cons (Sat.cons (Sat.cons (Sat.cons (Sat.cons (Sat.cons (sat_nil ab) ((kp 5 rfl).trans (hs 5 _ rfl))) ((kp 4 rfl).trans (hs 4 _ rfl))) ((kp 3 rfl).trans (hs 3 _ rfl))) ((kp 2 rfl).trans (hs 2 _ rfl))) ((kp 0 rfl).trans (hs 0 _ rfl))) o6) H2 ?_
 clear hs H kp H2 dd dd2 nn nn2 o6
 refine tN (wKK hK4 ?_)
 refine wSeqK fun KK5 hK5 => ?_
 refine wReg ?_
 iterate 3 refine p_decodeC rfl ?_
 refine wLd rfl tyP_pack_In 2 rfl rfl ?_
 refine p_decodeC rfl ?_
 refine wE (.func (.func 53) #[.pointer (some ⟨b10, 0, none⟩)] #[]) rfl rfl rfl (fun aa ww hs _ => by have e38 := hs 38 _ rfl; have g38 := gt_of e38; simp only [execOp]; go_simp <;> omega) ?_
 refine wC (l := [.pointer (some ⟨b1_1, 0, none⟩), .int .i64 64, .func (.func 53) #[.pointer (some ⟨b10, 0, none⟩)] #[]]) Try.func57 rfl (by kernel_rfl) (fun wc H => readC b10 b1_1 (((false || decide (1073741824 < (n3_1 : Int))) || decide (1073741824 < (n3_8 : Int))) || decide (1073741824 < (n3_10 : Int))) s3_15 v3_15 wc (show (rB b10 109 [.pointer (some ⟨b1_1, 0, none⟩), .bool (((false || decide (1073741824 < (n3_1 : Int))) || decide (1073741824 < (n3_8 : Int))) || decide (1073741824 < (n3_10 : Int)))]).holds wc from H.out.holds _ (by (repeat (first | exact List.Mem.head _ | apply List.Mem.tail)))) (show (rB b1_1 117 [.string s3_15, .bool v3_15]).holds wc from H.out.holds _ (by (repeat (first | exact List.Mem.head _ | apply List.Mem.tail)))) (blk_ne H (i := 2) (j := 3) rfl rfl (by decide))) rfl rfl rfl rfl ?_
 intro wc H
 rintro er wd ⟨a4_6, c4_6, ys4_6, g4_6, s4_6, v4_6, rfl, hq1, hs1, hf1, hb1, hb2, hof⟩
 have HF := hp_front H 3 rfl
 replace HF := hp_front HF 3 rfl
 have H2 := hp_twice_new HF hb1 hb2 hof hs1 rfl (fun q hq => ⟨hf1 q hq, rS_lt hs1 (by decide) q hq⟩)
 replace H2 := hp_fact (hp_fact H2 hq1) (p := ∀ q ∈ (rS a4_6 c4_6 8 (ys4_6.map callRow)).foot, w.heap.size ≤ q) (fun q hq => Nat.le_trans H.out.off.size (hf1 q hq))
 refine ⟨_, rfl, wkAt H2 ?_⟩
 clear H H2 hof
 refine p_decodeC rfl ?_
 refine wSt rfl tyS_api_Call 10 rfl rfl rfl rfl ?_
 refine wN ?_
 refine tN (wKK hK5 ?_)
 refine wSeqK fun KK6 hK6 => ?_
 refine wSeqK fun KK7 hK7 => ?_
 intro aa ww nn dd hs H
 refine decodeC_r5 s b2 b1_1 b10 n2_4 s2_4 v2_4 b6 n3_1 s3_1 v3_1 n3_6 s3_6 v3_6 n3_8 s3_8 v3_8 n3_10 s3_10 v3_10 n3_15 s3_15 v3_15 a4_6 c4_6 ys4_6 g4_6 s4_6 v4_6 H aa nn (hs 4 _ rfl) (hs 5 _ rfl) (hs 6 _ rfl) ?_
 intro ab wv nn2 dd2 kp o53 H2
 refine wIn nn2 (dd2.trans dd) (Sat.cons (Sat.cons (Sat.cons (Sat.cons (Sat.cons (Sat.cons (Sat.cons (sat_nil ab) ((kp 6 rfl).trans (hs 6 _ rfl))) ((kp 5 rfl).trans (hs 5 _ rfl))) ((kp 4 rfl).trans (hs 4 _ rfl))) ((kp 3 rfl).trans (hs 3 _ rfl))) ((kp 2 rfl).trans (hs 2 _ rfl))) ((kp 0 rfl).trans (hs 0 _ rfl))) o53) H2 ?_
 clear hs H kp H2 dd dd2 nn nn2 o53
 refine tN (wKK hK7 ?_)
 refine wCond (E := (((n2_4 : Int) != 128) || (decide (11 < (n3_6 : Int)))) || (!((!((((false || decide (1073741824 < (n3_1 : Int))) || decide (1073741824 < (n3_8 : Int))) || decide (1073741824 < (n3_10 : Int))) || g4_6)) && ((!v4_6) && s4_6.toList.isEmpty)))) rfl (fun z1 => ?_) (fun z1 => ?_)
 · skip
   refine wSeqK fun KK8 hK8 => ?_
   refine wReg ?_
   refine wE (.agg #[.int .i64 0, .int .i64 0, .int .i64 0, .int .i64 0, .int .u32 0, .slice none 0 0]) rfl rfl rfl (fun aa ww hs _ => by simp only [execOp]; go_simp <;> omega) ?_
   refine wSr rfl tynote_Answer 12 rfl rfl rfl rfl [.int .i64 0, .int .i64 0, .int .i64 0, .int .i64 0, .int .u32 0, .slice none 0 0] (by first | rfl | (simp only [spl]; rfl)) ?_
   refine p_decodeC rfl ?_
   refine wN ?_
   refine tN (wKK hK8 ?_)
   refine wRet ?_
   refine tR ?_
   exact wRct tynote_Answer rfl rfl rfl 12 rfl rfl (fun ww H => (by have q0 := hp_told H (p := readCalls (s3_15, v3_15) = (ys4_6, g4_6, (s4_6, v4_6))) (by (repeat (first | exact List.Mem.head _ | apply List.Mem.tail))); have q1 := hp_told H (p := inNumV s3_10 v3_10 4 = (n3_15, s3_15, v3_15)) (by (repeat (first | exact List.Mem.head _ | apply List.Mem.tail))); have q2 := hp_told H (p := inNumV s3_8 v3_8 4 = (n3_10, s3_10, v3_10)) (by (repeat (first | exact List.Mem.head _ | apply List.Mem.tail))); have q3 := hp_told H (p := inNumV s3_6 v3_6 4 = (n3_8, s3_8, v3_8)) (by (repeat (first | exact List.Mem.head _ | apply List.Mem.tail))); have q4 := hp_told H (p := inNumV s3_1 v3_1 1 = (n3_6, s3_6, v3_6)) (by (repeat (first | exact List.Mem.head _ | apply List.Mem.tail))); have q5 := hp_told H (p := inNumV s2_4 v2_4 4 = (n3_1, s3_1, v3_1)) (by (repeat (first | exact List.Mem.head _ | apply List.Mem.tail))); have q6 := hp_told H (p := inNumV s false 1 = (n2_4, s2_4, v2_4)) (by (repeat (first | exact List.Mem.head _ | apply List.Mem.tail))); have hw : IntKind.u32.wrap (n3_15 : Int) = n3_15 := IntWalk.u32_in _ (by have := num_lt4 q1; omega); have hr : readV s = (n2_4, ⟨n3_1, n3_6, n3_8, n3_10, n3_15, ys4_6⟩, ((decide (1073741824 < (n3_1 : Int)) || decide (1073741824 < (n3_8 : Int))) || decide (1073741824 < (n3_10 : Int))) || g4_6, (s4_6, v4_6)) := (by rw [read_by]; simp only [q6, q5, q4, q3, q2, q1, q0]); have hE := readOk_of hr (by simpa only [Bool.false_or] using z1); rw [dec_no (by rw [hE]; rfl)]; exact ⟨none, 0, rfl, (rS_none _).1, (rS_none _).2, H.out.off⟩))
 · skip
   have z1l : (((n2_4 : Int) != 128) || (decide (11 < (n3_6 : Int)))) = false := Reg.ol z1
   have z1ll : ((n2_4 : Int) != 128) = false := Reg.ol z1l
   have z1llo : ((n2_4 : Int) == 128) = true := neq_f z1ll
   have z1lr : (decide (11 < (n3_6 : Int))) = false := Reg.orr z1l
   have z1lrd : ¬ (11 < (n3_6 : Int)) := of_decide_eq_false z1lr
   have z1r : (!((!((((false || decide (1073741824 < (n3_1 : Int))) || decide (1073741824 < (n3_8 : Int))) || decide (1073741824 < (n3_10 : Int))) || g4_6)) && ((!v4_6) && s4_6.toList.isEmpty))) = false := Reg.orr z1
   have z1rn : ((!((((false || decide (1073741824 < (n3_1 : Int))) || decide (1073741824 < (n3_8 : Int))) || decide (1073741824 < (n3_10 : Int))) || g4_6)) && ((!v4_6) && s4_6.toList.isEmpty)) = true := Reg.bt z1r
   refine wSk ?_
   refine tN (wKK hK6 ?_)
   refine wSeqK fun KK9 hK9 => ?_
   refine wReg ?_
   refine wLr rfl tynote_Answer 10 rfl [.int .i64 n3_1, .int .i64 n3_6, .int .i64 n3_8, .int .i64 n3_10, .int .u32 (IntKind.u32.wrap n3_15), .slice a4_6 ys4_6.length c4_6] rfl rfl ?_
   refine wSr rfl tynote_Answer 12 rfl rfl rfl rfl [.int .i64 n3_1, .int .i64 n3_6, .int .i64 n3_8, .int .i64 n3_10, .int .u32 (IntKind.u32.wrap n3_15), .slice a4_6 ys4_6.length c4_6] (by first | rfl | (simp only [spl]; rfl)) ?_
   refine p_decodeC rfl ?_
   refine wN ?_
   refine tN (wKK hK9 ?_)
   refine wRet ?_
   exact wRct tynote_Answer rfl rfl rfl 12 rfl rfl (fun ww H => (by have q0 := hp_told H (p := readCalls (s3_15, v3_15) = (ys4_6, g4_6, (s4_6, v4_6))) (by (repeat (first | exact List.Mem.head _ | apply List.Mem.tail))); have q1 := hp_told H (p := inNumV s3_10 v3_10 4 = (n3_15, s3_15, v3_15)) (by (repeat (first | exact List.Mem.head _ | apply List.Mem.tail))); have q2 := hp_told H (p := inNumV s3_8 v3_8 4 = (n3_10, s3_10, v3_10)) (by (repeat (first | exact List.Mem.head _ | apply List.Mem.tail))); have q3 := hp_told H (p := inNumV s3_6 v3_6 4 = (n3_8, s3_8, v3_8)) (by (repeat (first | exact List.Mem.head _ | apply List.Mem.tail))); have q4 := hp_told H (p := inNumV s3_1 v3_1 1 = (n3_6, s3_6, v3_6)) (by (repeat (first | exact List.Mem.head _ | apply List.Mem.tail))); have q5 := hp_told H (p := inNumV s2_4 v2_4 4 = (n3_1, s3_1, v3_1)) (by (repeat (first | exact List.Mem.head _ | apply List.Mem.tail))); have q6 := hp_told H (p := inNumV s false 1 = (n2_4, s2_4, v2_4)) (by (repeat (first | exact List.Mem.head _ | apply List.Mem.tail))); have hw : IntKind.u32.wrap (n3_15 : Int) = n3_15 := IntWalk.u32_in _ (by have := num_lt4 q1; omega); have hr : readV s = (n2_4, ⟨n3_1, n3_6, n3_8, n3_10, n3_15, ys4_6⟩, ((decide (1073741824 < (n3_1 : Int)) || decide (1073741824 < (n3_8 : Int))) || decide (1073741824 < (n3_10 : Int))) || g4_6, (s4_6, v4_6)) := (by rw [read_by]; simp only [q6, q5, q4, q3, q2, q1, q0]); have hE := readOk_of hr (by simpa only [Bool.false_or] using z1); rw [dec_yes hr (by rw [hE]; rfl), hw]; exact ⟨_, _, rfl, hp_held H (by (repeat (first | exact List.Mem.head _ | apply List.Mem.tail))), hp_told H (p := ∀ q ∈ (rS a4_6 c4_6 8 (ys4_6.map callRow)).foot, w.heap.size ≤ q) (by (repeat (first | exact List.Mem.head _ | apply List.Mem.tail))), H.out.off⟩))
end Go.Proofs.Ytloemjhhedkhiaa.Nt
